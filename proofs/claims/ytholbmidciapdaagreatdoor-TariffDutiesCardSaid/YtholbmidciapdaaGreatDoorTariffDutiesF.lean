/-
The law TariffDuties returns true for every input that can be read as data, and leaves its arguments as they were: the row, and the card that ties the listed variables to the program's text.
No condition of its own beyond those that the given row prints.
-/
import Derived.HandedShaped
import Derived.Handed
import Derived.Test.YtholbmidciapdaaGreatDoorCards
import Derived.Test.YtholbmidciapdaaGreatDoorTie
import Derived.ProofKit
import Derived.OpenShut
import Derived.ShutString
import Derived.ChangeOld
import Derived.SizedLaws
import Derived.LaidMore
import Derived.Lay
import Derived.MakeChecks
import Derived.SevenTiedAt
import Derived.LaidSub
import Derived.LaidOnce
import Derived.Stop.Joined
import Derived.Stop.LaidErr
import Derived.Test.YtholbmidciapdaaGreatDoorTariffDutiesE
set_option linter.unusedVariables false
set_option linter.unusedSimpArgs false
namespace Go.Proofs.YtholbmidciapdaaGreatDoor.Pr
open Go.RowKit Go.Proofs.YtholbmidciapdaaGreatDoorW.PrintWords Go.Proofs.YtholbmidciapdaaGreatDoorW.PrintLast Go.Proofs.YtholbmidciapdaaGreatDoorW.PrintMore Go.Proofs.YtholbmidciapdaaGreatDoor.X
attribute [local go_sem] max2_int min2_int max_two min_two max_three min_three max_four min_four   -- for this text's walks alone
set_option linter.unusedVariables false
set_option linter.unusedSimpArgs false
def spileref46_Force.l0 : Nat → Int → Int → Bool → Int → Int → List (S26) → Int → Int → Int → Option (Int × Int × Int × Bool)
 | 0, _, _, _, _, _, _, _, _, _ => none
 | k + 1, x1, x2, x9, x10, x335000, x335001, x337000, x337001, x337002 => if x10 < (x335001.length : Int) then (if 0 ≤ x10 then (if ((rd_T26 x335001 x10).f0) = x1 then (if ((rd_T26 x335001 x10).f1) ≤ x2 then (spileref46_Force.l0 k x1 x2 true (wrap64 (x10 + 1)) x335000 x335001 ((rd_T26 x335001 x10).f0) ((rd_T26 x335001 x10).f1) ((rd_T26 x335001 x10).f2)) else (spileref46_Force.l0 k x1 x2 x9 (wrap64 (x10 + 1)) x335000 x335001 x337000 x337001 x337002)) else (spileref46_Force.l0 k x1 x2 x9 (wrap64 (x10 + 1)) x335000 x335001 x337000 x337001 x337002)) else (none)) else (some (x337000, x337001, x337002, x9))
def spileref46_Force.f (k : Nat) (a0_0 : Int) (l0_1 : List (S26)) (a1 : Int) (a2 : Int) : Option (Int × Int × Int × Bool) := spileref46_Force.l0 k a1 a2 false 0 a0_0 l0_1 0 0 0
set_option maxHeartbeats 8000000 in
set_option maxRecDepth 100000 in
theorem spileref46_Force.calls (k : Nat) (a0_0 : Int) (A0_1 : Option Addr) (c0_1 : Nat) (l0_1 : List (S26)) (a1 : Int) (a2 : Int) (r1 : Int) (r2 : Int) (r3 : Int) (r4 : Bool) (w : World) (hr0_1 : Kd.C k26 w A0_1 l0_1.length l0_1) (hc0_1 : l0_1.length ≤ c0_1) (h : spileref46_Force.f k a0_0 l0_1 a1 a2 = some (r1, r2, r3, r4)) :
  Calls Tryz.prog 47 #[.agg #[.int .i64 a0_0, .slice A0_1 l0_1.length c0_1], .int .i64 a1, .int .i64 a2] w fun e w' => e = .returned (.tuple #[.agg #[.int .i64 r1, .int .i64 r2, .int .i64 r3], .bool r4]) ∧ Below w.heap.size w w' := by
 have hu24 := Tryz.underlying24; have hu26 := Tryz.underlying26; have HR0_1 := Aside0.mk hr0_1; have HC0_1 := Aside0.mk hc0_1; clear hr0_1 hc0_1; have HB := Aside0.mk (Below.refl w.heap.size w); have H : (spileref46_Force.l0 k a1 a2 false 0 a0_0 l0_1 0 0 0) = some (r1, r2, r3, r4) := h; clear h; have H' := Aside0.mk H; clear H; go_enter Tryz.func47, Tryz.ntmps47
 go_wp2_with (first | ((with_reducible refine gate_dst (N := 3) rfl ?_); refine box_event ?hg (N := 3) ?hd (cs := #[.int .i64 a0_0, .slice A0_1 l0_1.length c0_1]) (t := 24) ?hr ?_; (case hd => rfl); (case hg => rfl); (case hr => first | (go_simp; done) | (go_simp; rfl)); intro gb334 hg w4 hbox hb; have n0_ := Aside0.mk (below_step (by repeat (with_reducible first | exact HB.out | apply below_alloc | apply pw_below_drewN | apply below_drew1)) hb); have n1_ := Aside0.mk (hbox); have n2_ := Aside0.mk ((by rw [hg]; exact (below_size (by repeat (with_reducible first | exact HB.out | apply below_alloc | apply pw_below_drewN | apply below_drew1))) : w.heap.size ≤ gb334)); have n3_ := Aside0.mk ((by rw [hg]; exact (below_size (by repeat (with_reducible first | exact HB.out | apply below_alloc | apply pw_below_drewN | apply below_drew1))) : w.heap.size ≤ gb334)); clear HB; have HB := n0_; have BK334 := n1_; have GW334 := n2_; have GE334 := n3_; clear n0_ n1_ n2_ n3_; clear hb hbox hg) | ((with_reducible refine gate_dst (N := 6) rfl ?_); refine box_event ?hg (N := 6) ?hd (cs := #[.int .i64 0, .int .i64 0, .int .i64 0]) (t := 26) ?hr ?_; (case hd => rfl); (case hg => rfl); (case hr => first | (go_simp; done) | (go_simp; rfl)); intro gb335 hg w5 hbox hb; have n0_ := Aside0.mk (blk_below (bG BK334.out) hb); have n1_ := Aside0.mk (below_step (by repeat (with_reducible first | exact HB.out | apply below_alloc | apply pw_below_drewN | apply below_drew1 | refine below_set ?_ GE334.out)) hb); have n2_ := Aside0.mk (hbox); have n3_ := Aside0.mk ((by rw [hg]; exact (below_size (by repeat (with_reducible first | exact HB.out | apply below_alloc | apply pw_below_drewN | apply below_drew1 | refine below_set ?_ GE334.out))) : w.heap.size ≤ gb335)); have n4_ := Aside0.mk ((by rw [hg]; exact (below_size (by repeat (with_reducible first | exact HB.out | apply below_alloc | apply pw_below_drewN | apply below_drew1 | refine below_set ?_ GE334.out))) : w.heap.size ≤ gb335)); have n5_ := Aside0.mk ((by rw [hg]; exact Nat.ne_of_lt (blk_lt (bG BK334.out)) : gb334 ≠ gb335)); have n6_ := Aside0.mk ((by rw [hg]; exact Nat.ne_of_gt (blk_lt (bG BK334.out)) : gb335 ≠ gb334)); clear BK334; clear HB; have BK334 := n0_; have HB := n1_; have BK335 := n2_; have GW335 := n3_; have GE335 := n4_; have NB334_335 := n5_; have NB335_334 := n6_; clear n0_ n1_ n2_ n3_ n4_ n5_ n6_; clear hb hbox hg) | ((with_reducible refine gate_dst (N := 8) rfl ?_); refine box_event ?hg (N := 8) ?hd (cs := #[.int .i64 0, .int .i64 0, .int .i64 0]) (t := 26) ?hr ?_; (case hd => rfl); (case hg => rfl); (case hr => first | (go_simp; done) | (go_simp; rfl)); intro gb336 hg w6 hbox hb; have n0_ := Aside0.mk (blk_below (bG BK334.out) hb); have n1_ := Aside0.mk (blk_below (bG BK335.out) hb); have n2_ := Aside0.mk (below_step (by repeat (with_reducible first | exact HB.out | apply below_alloc | apply pw_below_drewN | apply below_drew1 | refine below_set ?_ GE334.out | refine below_set ?_ GE335.out)) hb); have n3_ := Aside0.mk (hbox); have n4_ := Aside0.mk ((by rw [hg]; exact (below_size (by repeat (with_reducible first | exact HB.out | apply below_alloc | apply pw_below_drewN | apply below_drew1 | refine below_set ?_ GE334.out | refine below_set ?_ GE335.out))) : w.heap.size ≤ gb336)); have n5_ := Aside0.mk ((by rw [hg]; exact (below_size (by repeat (with_reducible first | exact HB.out | apply below_alloc | apply pw_below_drewN | apply below_drew1 | refine below_set ?_ GE334.out | refine below_set ?_ GE335.out))) : w.heap.size ≤ gb336)); have n6_ := Aside0.mk ((by rw [hg]; exact Nat.ne_of_lt (blk_lt (bG BK334.out)) : gb334 ≠ gb336)); have n7_ := Aside0.mk ((by rw [hg]; exact Nat.ne_of_gt (blk_lt (bG BK334.out)) : gb336 ≠ gb334)); have n8_ := Aside0.mk ((by rw [hg]; exact Nat.ne_of_lt (blk_lt (bG BK335.out)) : gb335 ≠ gb336)); have n9_ := Aside0.mk ((by rw [hg]; exact Nat.ne_of_gt (blk_lt (bG BK335.out)) : gb336 ≠ gb335)); clear BK334; clear BK335; clear HB; have BK334 := n0_; have BK335 := n1_; have HB := n2_; have BK336 := n3_; have GW336 := n4_; have GE336 := n5_; have NB334_336 := n6_; have NB336_334 := n7_; have NB335_336 := n8_; have NB336_335 := n9_; clear n0_ n1_ n2_ n3_ n4_ n5_ n6_ n7_ n8_ n9_; clear hb hbox hg; have hnb7 := NB336_334.out; have hnc7 := NB334_336.out; have hnb8 := NB336_335.out; have hnc8 := NB335_336.out; have hcz9_0 : w6.cell? ⟨gb336, 0, none⟩ = some (.int .i64 0) := (blk_cell BK336.out 0).trans rfl; have hcz9_1 : w6.cell? ⟨gb336, 1, none⟩ = some (.int .i64 0) := (blk_cell BK336.out 1).trans rfl; have hcz9_2 : w6.cell? ⟨gb336, 2, none⟩ = some (.int .i64 0) := (blk_cell BK336.out 2).trans rfl; have hfz9_0 := blk_frozen BK336.out 0; have hfz9_1 := blk_frozen BK336.out 1; have hfz9_2 := blk_frozen BK336.out 2))
 go_loopg [9, 10] k (fun kq v9 v10 w' => ∃ (x9_1 : Bool) (x10_1 : Int) (x337000_1 : Int) (x337001_1 : Int) (x337002_1 : Int), v9 = .bool x9_1 ∧ v10 = .int .i64 x10_1 ∧ Aside0 (spileref46_Force.l0 kq a1 a2 x9_1 x10_1 a0_0 l0_1 x337000_1 x337001_1 x337002_1 = some (r1, r2, r3, r4)) ∧ Aside0 (kq ≤ k) ∧ Aside0 (w'.heap[gb334]? = some (.cells #[.int .i64 a0_0, (.slice A0_1 l0_1.length c0_1)] 24 (0, 0))) ∧ Aside0 (w'.heap[gb335]? = some (.cells #[.int .i64 0, .int .i64 0, .int .i64 0] 26 (0, 0))) ∧ Aside0 (w'.heap[gb336]? = some (.cells #[.int .i64 x337000_1, .int .i64 x337001_1, .int .i64 x337002_1] 26 (0, 0))) ∧ Aside0 (Below w.heap.size w w'))
 case atStart => exact ⟨(false), (0), (0), (0), (0), (by first | rfl | (simp; done) | (simp [*]; done)), (by first | rfl | (simp; done) | (simp [*]; done)), H', ⟨Nat.le_refl _⟩, ⟨by (with_reducible repeat (first | refine blk_drewN ?_ _ | refine blk_drew ?_ | refine blk_alloc ?_ _)); refine blk_far ?_ NB334_336.out _; (with_reducible repeat (first | refine blk_drewN ?_ _ | refine blk_drew ?_ | refine blk_alloc ?_ _)); refine blk_far ?_ NB334_336.out _; (with_reducible repeat (first | refine blk_drewN ?_ _ | refine blk_drew ?_ | refine blk_alloc ?_ _)); refine blk_far ?_ NB334_336.out _; (with_reducible repeat (first | refine blk_drewN ?_ _ | refine blk_drew ?_ | refine blk_alloc ?_ _)); exact BK334.out⟩, ⟨by (with_reducible repeat (first | refine blk_drewN ?_ _ | refine blk_drew ?_ | refine blk_alloc ?_ _)); refine blk_far ?_ NB335_336.out _; (with_reducible repeat (first | refine blk_drewN ?_ _ | refine blk_drew ?_ | refine blk_alloc ?_ _)); refine blk_far ?_ NB335_336.out _; (with_reducible repeat (first | refine blk_drewN ?_ _ | refine blk_drew ?_ | refine blk_alloc ?_ _)); refine blk_far ?_ NB335_336.out _; (with_reducible repeat (first | refine blk_drewN ?_ _ | refine blk_drew ?_ | refine blk_alloc ?_ _)); exact BK335.out⟩, ⟨by (with_reducible repeat (first | refine blk_drewN ?_ _ | refine blk_drew ?_ | refine blk_alloc ?_ _)); refine blk_put (cs := #[.int .i64 0, .int .i64 0, .int .i64 0]) ?_ 2 _ rfl; (with_reducible repeat (first | refine blk_drewN ?_ _ | refine blk_drew ?_ | refine blk_alloc ?_ _)); refine blk_put (cs := #[.int .i64 0, .int .i64 0, .int .i64 0]) ?_ 1 _ rfl; (with_reducible repeat (first | refine blk_drewN ?_ _ | refine blk_drew ?_ | refine blk_alloc ?_ _)); refine blk_put (cs := #[.int .i64 0, .int .i64 0, .int .i64 0]) ?_ 0 _ rfl; (with_reducible repeat (first | refine blk_drewN ?_ _ | refine blk_drew ?_ | refine blk_alloc ?_ _)); exact BK336.out⟩, ⟨by repeat (first | (with_reducible first | exact HB.out | apply below_alloc | apply pw_below_drewN | apply below_drew1 | refine below_set ?_ GE334.out | refine below_set ?_ GE335.out | refine below_set ?_ GE336.out) | exact HB.out)⟩⟩
 case round =>
  clear H'; repeat first | clear p2 | clear c4 | clear c7 | clear c8 | clear hcz9_0 | clear hcz9_1 | clear hcz9_2 | clear hfz9_0 | clear hfz9_1 | clear hfz9_2
  obtain ⟨x9_1, x10_1, x337000_1, x337001_1, x337002_1, rfl, rfl, HA, HK1, BK334, BK335, BK336, HB⟩ := hrel
  cases gk with
  | zero => exact absurd HA.out (by simp [spileref46_Force.l0])
  | succ k1 =>
   have H := HA.out; clear HA; simp only [spileref46_Force.l0] at H; by_cases c10 : x10_1 < (l0_1.length : Int)
   ·
    rw [if_pos c10] at H; have c10b0 : decide (x10_1 < (l0_1.length : Int)) = true := decide_eq_true c10; clear c10; by_cases c11 : 0 ≤ x10_1
    ·
     rw [if_pos c11] at H; have c11b0 : decide (0 ≤ x10_1) = true := decide_eq_true c11; clear c11; by_cases c12 : ((rd_T26 l0_1 x10_1).f0) = a1
     ·
      rw [if_pos c12] at H; have c12b0 : (((rd_T26 l0_1 x10_1).f0) == a1) = true := beq_iff_eq.mpr c12; have c12b1 : (((rd_T26 l0_1 x10_1).f0) != a1) = false := bne_eq_false_iff_eq.mpr c12; clear c12; by_cases c13 : ((rd_T26 l0_1 x10_1).f1) ≤ a2
      ·
       rw [if_pos c13] at H; have c13b0 : decide (((rd_T26 l0_1 x10_1).f1) ≤ a2) = true := decide_eq_true c13; clear c13; have H' := Aside0.mk H; clear H; have hnb14 := NB334_335.out; have hnc14 := NB335_334.out; have hnb15 := NB334_336.out; have hnc15 := NB336_334.out; have hcz16_0 : wr.cell? ⟨gb334, 0, none⟩ = some (.int .i64 a0_0) := (blk_cell BK334.out 0).trans rfl; have hcz16_1 : wr.cell? ⟨gb334, 1, none⟩ = some (.slice A0_1 l0_1.length c0_1) := (blk_cell BK334.out 1).trans rfl; have hfz16_0 := blk_frozen BK334.out 0; have hfz16_1 := blk_frozen BK334.out 1; have p337 : 0 ≤ (x10_1 : Int) := of_decide_eq_true (by first | (with_reducible assumption) | assumption); have q337 : x10_1 < (l0_1.length : Int) := of_decide_eq_true (by first | (with_reducible assumption) | assumption); obtain ⟨ad337, e337, hx337_0, hx337_1, hx337_2⟩ := at_T26 HR0_1.out x10_1 p337 q337; cases e337; replace hx337_0 := (HB.out.cell (World.block_lt_of_cell? w _ hx337_0)).trans hx337_0; replace hx337_1 := (HB.out.cell (World.block_lt_of_cell? w _ hx337_1)).trans hx337_1; replace hx337_2 := (HB.out.cell (World.block_lt_of_cell? w _ hx337_2)).trans hx337_2; replace p337 := eq_true p337; replace q337 := eq_true q337; go_wp2_with (first | ((with_reducible refine gate_dst (N := 11) rfl ?_); refine box_event ?hg (N := 11) ?hd (cs := #[.int .i64 0, .int .i64 0, .int .i64 0]) (t := 26) ?hr ?_; (case hd => rfl); (case hg => rfl); (case hr => first | (go_simp; done) | (go_simp; rfl)); intro gb338 hg w17 hbox hb; have n0_ := Aside0.mk (blk_below (bG BK334.out) hb); have n1_ := Aside0.mk (blk_below (bG BK335.out) hb); have n2_ := Aside0.mk (blk_below (bG BK336.out) hb); have n3_ := Aside0.mk (below_step (by repeat (with_reducible first | exact HB.out | apply below_alloc | apply pw_below_drewN | apply below_drew1 | refine below_set ?_ GE334.out | refine below_set ?_ GE335.out | refine below_set ?_ GE336.out)) hb); have n4_ := Aside0.mk (hbox); have n5_ := Aside0.mk ((by rw [hg]; exact (below_size (by repeat (with_reducible first | exact HB.out | apply below_alloc | apply pw_below_drewN | apply below_drew1 | refine below_set ?_ GE334.out | refine below_set ?_ GE335.out | refine below_set ?_ GE336.out))) : w.heap.size ≤ gb338)); have n6_ := Aside0.mk ((by rw [hg]; exact (below_size (by repeat (with_reducible first | exact HB.out | apply below_alloc | apply pw_below_drewN | apply below_drew1 | refine below_set ?_ GE334.out | refine below_set ?_ GE335.out | refine below_set ?_ GE336.out))) : w.heap.size ≤ gb338)); have n7_ := Aside0.mk ((by rw [hg]; exact Nat.ne_of_lt (blk_lt (bG BK334.out)) : gb334 ≠ gb338)); have n8_ := Aside0.mk ((by rw [hg]; exact Nat.ne_of_gt (blk_lt (bG BK334.out)) : gb338 ≠ gb334)); have n9_ := Aside0.mk ((by rw [hg]; exact Nat.ne_of_lt (blk_lt (bG BK335.out)) : gb335 ≠ gb338)); have n10_ := Aside0.mk ((by rw [hg]; exact Nat.ne_of_gt (blk_lt (bG BK335.out)) : gb338 ≠ gb335)); have n11_ := Aside0.mk ((by rw [hg]; exact Nat.ne_of_lt (blk_lt (bG BK336.out)) : gb336 ≠ gb338)); have n12_ := Aside0.mk ((by rw [hg]; exact Nat.ne_of_gt (blk_lt (bG BK336.out)) : gb338 ≠ gb336)); clear BK334; clear BK335; clear BK336; clear HB; have BK334 := n0_; have BK335 := n1_; have BK336 := n2_; have HB := n3_; have BK338 := n4_; have GW338 := n5_; have GE338 := n6_; have NB334_338 := n7_; have NB338_334 := n8_; have NB335_338 := n9_; have NB338_335 := n10_; have NB336_338 := n11_; have NB338_336 := n12_; clear n0_ n1_ n2_ n3_ n4_ n5_ n6_ n7_ n8_ n9_ n10_ n11_ n12_; clear hb hbox hg; have hnb18 := NB338_334.out; have hnc18 := NB334_338.out; have hnb19 := NB338_335.out; have hnc19 := NB335_338.out; have hnb20 := NB338_336.out; have hnc20 := NB336_338.out; have hcz21_0 : w17.cell? ⟨gb338, 0, none⟩ = some (.int .i64 0) := (blk_cell BK338.out 0).trans rfl; have hcz21_1 : w17.cell? ⟨gb338, 1, none⟩ = some (.int .i64 0) := (blk_cell BK338.out 1).trans rfl; have hcz21_2 : w17.cell? ⟨gb338, 2, none⟩ = some (.int .i64 0) := (blk_cell BK338.out 2).trans rfl; have hfz21_0 := blk_frozen BK338.out 0; have hfz21_1 := blk_frozen BK338.out 1; have hfz21_2 := blk_frozen BK338.out 2; have hnb22 := NB336_335.out; have hnc22 := NB335_336.out; have hcz23_0 : w17.cell? ⟨gb336, 0, none⟩ = some (.int .i64 x337000_1) := (blk_cell BK336.out 0).trans rfl; have hcz23_1 : w17.cell? ⟨gb336, 1, none⟩ = some (.int .i64 x337001_1) := (blk_cell BK336.out 1).trans rfl; have hcz23_2 : w17.cell? ⟨gb336, 2, none⟩ = some (.int .i64 x337002_1) := (blk_cell BK336.out 2).trans rfl; have hfz23_0 := blk_frozen BK336.out 0; have hfz23_1 := blk_frozen BK336.out 1; have hfz23_2 := blk_frozen BK336.out 2))
       go_roundg k1
       case measure => have := HK1.out; omega
       case rel => exact ⟨(true), (wrap64 (x10_1 + 1)), ((rd_T26 l0_1 x10_1).f0), ((rd_T26 l0_1 x10_1).f1), ((rd_T26 l0_1 x10_1).f2), (by first | rfl | (simp; done) | (simp [*]; done)), (by first | rfl | (simp; done) | (simp [*]; done)), H', ⟨by have := HK1.out; omega⟩, ⟨by (with_reducible repeat (first | refine blk_drewN ?_ _ | refine blk_drew ?_ | refine blk_alloc ?_ _)); refine blk_far ?_ NB334_336.out _; (with_reducible repeat (first | refine blk_drewN ?_ _ | refine blk_drew ?_ | refine blk_alloc ?_ _)); refine blk_far ?_ NB334_336.out _; (with_reducible repeat (first | refine blk_drewN ?_ _ | refine blk_drew ?_ | refine blk_alloc ?_ _)); refine blk_far ?_ NB334_336.out _; (with_reducible repeat (first | refine blk_drewN ?_ _ | refine blk_drew ?_ | refine blk_alloc ?_ _)); refine blk_far ?_ NB334_338.out _; (with_reducible repeat (first | refine blk_drewN ?_ _ | refine blk_drew ?_ | refine blk_alloc ?_ _)); refine blk_far ?_ NB334_338.out _; (with_reducible repeat (first | refine blk_drewN ?_ _ | refine blk_drew ?_ | refine blk_alloc ?_ _)); refine blk_far ?_ NB334_338.out _; (with_reducible repeat (first | refine blk_drewN ?_ _ | refine blk_drew ?_ | refine blk_alloc ?_ _)); exact BK334.out⟩, ⟨by (with_reducible repeat (first | refine blk_drewN ?_ _ | refine blk_drew ?_ | refine blk_alloc ?_ _)); refine blk_far ?_ NB335_336.out _; (with_reducible repeat (first | refine blk_drewN ?_ _ | refine blk_drew ?_ | refine blk_alloc ?_ _)); refine blk_far ?_ NB335_336.out _; (with_reducible repeat (first | refine blk_drewN ?_ _ | refine blk_drew ?_ | refine blk_alloc ?_ _)); refine blk_far ?_ NB335_336.out _; (with_reducible repeat (first | refine blk_drewN ?_ _ | refine blk_drew ?_ | refine blk_alloc ?_ _)); refine blk_far ?_ NB335_338.out _; (with_reducible repeat (first | refine blk_drewN ?_ _ | refine blk_drew ?_ | refine blk_alloc ?_ _)); refine blk_far ?_ NB335_338.out _; (with_reducible repeat (first | refine blk_drewN ?_ _ | refine blk_drew ?_ | refine blk_alloc ?_ _)); refine blk_far ?_ NB335_338.out _; (with_reducible repeat (first | refine blk_drewN ?_ _ | refine blk_drew ?_ | refine blk_alloc ?_ _)); exact BK335.out⟩, ⟨by (with_reducible repeat (first | refine blk_drewN ?_ _ | refine blk_drew ?_ | refine blk_alloc ?_ _)); refine blk_put (cs := #[.int .i64 ((rd_T26 l0_1 x10_1).f0), .int .i64 ((rd_T26 l0_1 x10_1).f1), .int .i64 x337002_1]) ?_ 2 _ rfl; (with_reducible repeat (first | refine blk_drewN ?_ _ | refine blk_drew ?_ | refine blk_alloc ?_ _)); refine blk_put (cs := #[.int .i64 ((rd_T26 l0_1 x10_1).f0), .int .i64 x337001_1, .int .i64 x337002_1]) ?_ 1 _ rfl; (with_reducible repeat (first | refine blk_drewN ?_ _ | refine blk_drew ?_ | refine blk_alloc ?_ _)); refine blk_put (cs := #[.int .i64 x337000_1, .int .i64 x337001_1, .int .i64 x337002_1]) ?_ 0 _ rfl; (with_reducible repeat (first | refine blk_drewN ?_ _ | refine blk_drew ?_ | refine blk_alloc ?_ _)); refine blk_far ?_ NB336_338.out _; (with_reducible repeat (first | refine blk_drewN ?_ _ | refine blk_drew ?_ | refine blk_alloc ?_ _)); refine blk_far ?_ NB336_338.out _; (with_reducible repeat (first | refine blk_drewN ?_ _ | refine blk_drew ?_ | refine blk_alloc ?_ _)); refine blk_far ?_ NB336_338.out _; (with_reducible repeat (first | refine blk_drewN ?_ _ | refine blk_drew ?_ | refine blk_alloc ?_ _)); exact BK336.out⟩, ⟨by repeat (first | (with_reducible first | exact HB.out | apply below_alloc | apply pw_below_drewN | apply below_drew1 | refine below_set ?_ GE334.out | refine below_set ?_ GE335.out | refine below_set ?_ GE336.out | refine below_set ?_ GE338.out) | exact HB.out)⟩⟩
      ·
       rw [if_neg c13] at H; have c13b0 : decide (((rd_T26 l0_1 x10_1).f1) ≤ a2) = false := decide_eq_false c13; clear c13; have H' := Aside0.mk H; clear H; have hnb24 := NB334_335.out; have hnc24 := NB335_334.out; have hnb25 := NB334_336.out; have hnc25 := NB336_334.out; have hcz26_0 : wr.cell? ⟨gb334, 0, none⟩ = some (.int .i64 a0_0) := (blk_cell BK334.out 0).trans rfl; have hcz26_1 : wr.cell? ⟨gb334, 1, none⟩ = some (.slice A0_1 l0_1.length c0_1) := (blk_cell BK334.out 1).trans rfl; have hfz26_0 := blk_frozen BK334.out 0; have hfz26_1 := blk_frozen BK334.out 1; have p337 : 0 ≤ (x10_1 : Int) := of_decide_eq_true (by first | (with_reducible assumption) | assumption); have q337 : x10_1 < (l0_1.length : Int) := of_decide_eq_true (by first | (with_reducible assumption) | assumption); obtain ⟨ad337, e337, hx337_0, hx337_1, hx337_2⟩ := at_T26 HR0_1.out x10_1 p337 q337; cases e337; replace hx337_0 := (HB.out.cell (World.block_lt_of_cell? w _ hx337_0)).trans hx337_0; replace hx337_1 := (HB.out.cell (World.block_lt_of_cell? w _ hx337_1)).trans hx337_1; replace hx337_2 := (HB.out.cell (World.block_lt_of_cell? w _ hx337_2)).trans hx337_2; replace p337 := eq_true p337; replace q337 := eq_true q337; go_wp2_with (first | ((with_reducible refine gate_dst (N := 11) rfl ?_); refine box_event ?hg (N := 11) ?hd (cs := #[.int .i64 0, .int .i64 0, .int .i64 0]) (t := 26) ?hr ?_; (case hd => rfl); (case hg => rfl); (case hr => first | (go_simp; done) | (go_simp; rfl)); intro gb338 hg w27 hbox hb; have n0_ := Aside0.mk (blk_below (bG BK334.out) hb); have n1_ := Aside0.mk (blk_below (bG BK335.out) hb); have n2_ := Aside0.mk (blk_below (bG BK336.out) hb); have n3_ := Aside0.mk (below_step (by repeat (with_reducible first | exact HB.out | apply below_alloc | apply pw_below_drewN | apply below_drew1 | refine below_set ?_ GE334.out | refine below_set ?_ GE335.out | refine below_set ?_ GE336.out)) hb); have n4_ := Aside0.mk (hbox); have n5_ := Aside0.mk ((by rw [hg]; exact (below_size (by repeat (with_reducible first | exact HB.out | apply below_alloc | apply pw_below_drewN | apply below_drew1 | refine below_set ?_ GE334.out | refine below_set ?_ GE335.out | refine below_set ?_ GE336.out))) : w.heap.size ≤ gb338)); have n6_ := Aside0.mk ((by rw [hg]; exact (below_size (by repeat (with_reducible first | exact HB.out | apply below_alloc | apply pw_below_drewN | apply below_drew1 | refine below_set ?_ GE334.out | refine below_set ?_ GE335.out | refine below_set ?_ GE336.out))) : w.heap.size ≤ gb338)); have n7_ := Aside0.mk ((by rw [hg]; exact Nat.ne_of_lt (blk_lt (bG BK334.out)) : gb334 ≠ gb338)); have n8_ := Aside0.mk ((by rw [hg]; exact Nat.ne_of_gt (blk_lt (bG BK334.out)) : gb338 ≠ gb334)); have n9_ := Aside0.mk ((by rw [hg]; exact Nat.ne_of_lt (blk_lt (bG BK335.out)) : gb335 ≠ gb338)); have n10_ := Aside0.mk ((by rw [hg]; exact Nat.ne_of_gt (blk_lt (bG BK335.out)) : gb338 ≠ gb335)); have n11_ := Aside0.mk ((by rw [hg]; exact Nat.ne_of_lt (blk_lt (bG BK336.out)) : gb336 ≠ gb338)); have n12_ := Aside0.mk ((by rw [hg]; exact Nat.ne_of_gt (blk_lt (bG BK336.out)) : gb338 ≠ gb336)); clear BK334; clear BK335; clear BK336; clear HB; have BK334 := n0_; have BK335 := n1_; have BK336 := n2_; have HB := n3_; have BK338 := n4_; have GW338 := n5_; have GE338 := n6_; have NB334_338 := n7_; have NB338_334 := n8_; have NB335_338 := n9_; have NB338_335 := n10_; have NB336_338 := n11_; have NB338_336 := n12_; clear n0_ n1_ n2_ n3_ n4_ n5_ n6_ n7_ n8_ n9_ n10_ n11_ n12_; clear hb hbox hg; have hnb28 := NB338_334.out; have hnc28 := NB334_338.out; have hnb29 := NB338_335.out; have hnc29 := NB335_338.out; have hnb30 := NB338_336.out; have hnc30 := NB336_338.out; have hcz31_0 : w27.cell? ⟨gb338, 0, none⟩ = some (.int .i64 0) := (blk_cell BK338.out 0).trans rfl; have hcz31_1 : w27.cell? ⟨gb338, 1, none⟩ = some (.int .i64 0) := (blk_cell BK338.out 1).trans rfl; have hcz31_2 : w27.cell? ⟨gb338, 2, none⟩ = some (.int .i64 0) := (blk_cell BK338.out 2).trans rfl; have hfz31_0 := blk_frozen BK338.out 0; have hfz31_1 := blk_frozen BK338.out 1; have hfz31_2 := blk_frozen BK338.out 2))
       go_roundg k1
       case measure => have := HK1.out; omega
       case rel => exact ⟨(x9_1), (wrap64 (x10_1 + 1)), (x337000_1), (x337001_1), (x337002_1), (by first | rfl | (simp; done) | (simp [*]; done)), (by first | rfl | (simp; done) | (simp [*]; done)), H', ⟨by have := HK1.out; omega⟩, ⟨by (with_reducible repeat (first | refine blk_drewN ?_ _ | refine blk_drew ?_ | refine blk_alloc ?_ _)); refine blk_far ?_ NB334_338.out _; (with_reducible repeat (first | refine blk_drewN ?_ _ | refine blk_drew ?_ | refine blk_alloc ?_ _)); refine blk_far ?_ NB334_338.out _; (with_reducible repeat (first | refine blk_drewN ?_ _ | refine blk_drew ?_ | refine blk_alloc ?_ _)); refine blk_far ?_ NB334_338.out _; (with_reducible repeat (first | refine blk_drewN ?_ _ | refine blk_drew ?_ | refine blk_alloc ?_ _)); exact BK334.out⟩, ⟨by (with_reducible repeat (first | refine blk_drewN ?_ _ | refine blk_drew ?_ | refine blk_alloc ?_ _)); refine blk_far ?_ NB335_338.out _; (with_reducible repeat (first | refine blk_drewN ?_ _ | refine blk_drew ?_ | refine blk_alloc ?_ _)); refine blk_far ?_ NB335_338.out _; (with_reducible repeat (first | refine blk_drewN ?_ _ | refine blk_drew ?_ | refine blk_alloc ?_ _)); refine blk_far ?_ NB335_338.out _; (with_reducible repeat (first | refine blk_drewN ?_ _ | refine blk_drew ?_ | refine blk_alloc ?_ _)); exact BK335.out⟩, ⟨by (with_reducible repeat (first | refine blk_drewN ?_ _ | refine blk_drew ?_ | refine blk_alloc ?_ _)); refine blk_far ?_ NB336_338.out _; (with_reducible repeat (first | refine blk_drewN ?_ _ | refine blk_drew ?_ | refine blk_alloc ?_ _)); refine blk_far ?_ NB336_338.out _; (with_reducible repeat (first | refine blk_drewN ?_ _ | refine blk_drew ?_ | refine blk_alloc ?_ _)); refine blk_far ?_ NB336_338.out _; (with_reducible repeat (first | refine blk_drewN ?_ _ | refine blk_drew ?_ | refine blk_alloc ?_ _)); exact BK336.out⟩, ⟨by repeat (first | (with_reducible first | exact HB.out | apply below_alloc | apply pw_below_drewN | apply below_drew1 | refine below_set ?_ GE334.out | refine below_set ?_ GE335.out | refine below_set ?_ GE336.out | refine below_set ?_ GE338.out) | exact HB.out)⟩⟩
     ·
      rw [if_neg c12] at H; have c12b0 : (((rd_T26 l0_1 x10_1).f0) == a1) = false := beq_eq_false_iff_ne.mpr c12; have c12b1 : (((rd_T26 l0_1 x10_1).f0) != a1) = true := bne_iff_ne.mpr c12; have H' := Aside0.mk H; clear H; have hnb32 := NB334_335.out; have hnc32 := NB335_334.out; have hnb33 := NB334_336.out; have hnc33 := NB336_334.out; have hcz34_0 : wr.cell? ⟨gb334, 0, none⟩ = some (.int .i64 a0_0) := (blk_cell BK334.out 0).trans rfl; have hcz34_1 : wr.cell? ⟨gb334, 1, none⟩ = some (.slice A0_1 l0_1.length c0_1) := (blk_cell BK334.out 1).trans rfl; have hfz34_0 := blk_frozen BK334.out 0; have hfz34_1 := blk_frozen BK334.out 1; have p337 : 0 ≤ (x10_1 : Int) := of_decide_eq_true (by first | (with_reducible assumption) | assumption); have q337 : x10_1 < (l0_1.length : Int) := of_decide_eq_true (by first | (with_reducible assumption) | assumption); obtain ⟨ad337, e337, hx337_0, hx337_1, hx337_2⟩ := at_T26 HR0_1.out x10_1 p337 q337; cases e337; replace hx337_0 := (HB.out.cell (World.block_lt_of_cell? w _ hx337_0)).trans hx337_0; replace hx337_1 := (HB.out.cell (World.block_lt_of_cell? w _ hx337_1)).trans hx337_1; replace hx337_2 := (HB.out.cell (World.block_lt_of_cell? w _ hx337_2)).trans hx337_2; replace p337 := eq_true p337; replace q337 := eq_true q337; go_wp2_with (first | ((with_reducible refine gate_dst (N := 11) rfl ?_); refine box_event ?hg (N := 11) ?hd (cs := #[.int .i64 0, .int .i64 0, .int .i64 0]) (t := 26) ?hr ?_; (case hd => rfl); (case hg => rfl); (case hr => first | (go_simp; done) | (go_simp; rfl)); intro gb338 hg w35 hbox hb; have n0_ := Aside0.mk (blk_below (bG BK334.out) hb); have n1_ := Aside0.mk (blk_below (bG BK335.out) hb); have n2_ := Aside0.mk (blk_below (bG BK336.out) hb); have n3_ := Aside0.mk (below_step (by repeat (with_reducible first | exact HB.out | apply below_alloc | apply pw_below_drewN | apply below_drew1 | refine below_set ?_ GE334.out | refine below_set ?_ GE335.out | refine below_set ?_ GE336.out)) hb); have n4_ := Aside0.mk (hbox); have n5_ := Aside0.mk ((by rw [hg]; exact (below_size (by repeat (with_reducible first | exact HB.out | apply below_alloc | apply pw_below_drewN | apply below_drew1 | refine below_set ?_ GE334.out | refine below_set ?_ GE335.out | refine below_set ?_ GE336.out))) : w.heap.size ≤ gb338)); have n6_ := Aside0.mk ((by rw [hg]; exact (below_size (by repeat (with_reducible first | exact HB.out | apply below_alloc | apply pw_below_drewN | apply below_drew1 | refine below_set ?_ GE334.out | refine below_set ?_ GE335.out | refine below_set ?_ GE336.out))) : w.heap.size ≤ gb338)); have n7_ := Aside0.mk ((by rw [hg]; exact Nat.ne_of_lt (blk_lt (bG BK334.out)) : gb334 ≠ gb338)); have n8_ := Aside0.mk ((by rw [hg]; exact Nat.ne_of_gt (blk_lt (bG BK334.out)) : gb338 ≠ gb334)); have n9_ := Aside0.mk ((by rw [hg]; exact Nat.ne_of_lt (blk_lt (bG BK335.out)) : gb335 ≠ gb338)); have n10_ := Aside0.mk ((by rw [hg]; exact Nat.ne_of_gt (blk_lt (bG BK335.out)) : gb338 ≠ gb335)); have n11_ := Aside0.mk ((by rw [hg]; exact Nat.ne_of_lt (blk_lt (bG BK336.out)) : gb336 ≠ gb338)); have n12_ := Aside0.mk ((by rw [hg]; exact Nat.ne_of_gt (blk_lt (bG BK336.out)) : gb338 ≠ gb336)); clear BK334; clear BK335; clear BK336; clear HB; have BK334 := n0_; have BK335 := n1_; have BK336 := n2_; have HB := n3_; have BK338 := n4_; have GW338 := n5_; have GE338 := n6_; have NB334_338 := n7_; have NB338_334 := n8_; have NB335_338 := n9_; have NB338_335 := n10_; have NB336_338 := n11_; have NB338_336 := n12_; clear n0_ n1_ n2_ n3_ n4_ n5_ n6_ n7_ n8_ n9_ n10_ n11_ n12_; clear hb hbox hg; have hnb36 := NB338_334.out; have hnc36 := NB334_338.out; have hnb37 := NB338_335.out; have hnc37 := NB335_338.out; have hnb38 := NB338_336.out; have hnc38 := NB336_338.out; have hcz39_0 : w35.cell? ⟨gb338, 0, none⟩ = some (.int .i64 0) := (blk_cell BK338.out 0).trans rfl; have hcz39_1 : w35.cell? ⟨gb338, 1, none⟩ = some (.int .i64 0) := (blk_cell BK338.out 1).trans rfl; have hcz39_2 : w35.cell? ⟨gb338, 2, none⟩ = some (.int .i64 0) := (blk_cell BK338.out 2).trans rfl; have hfz39_0 := blk_frozen BK338.out 0; have hfz39_1 := blk_frozen BK338.out 1; have hfz39_2 := blk_frozen BK338.out 2))
      go_roundg k1
      case measure => have := HK1.out; omega
      case rel => exact ⟨(x9_1), (wrap64 (x10_1 + 1)), (x337000_1), (x337001_1), (x337002_1), (by first | rfl | (simp; done) | (simp [*]; done)), (by first | rfl | (simp; done) | (simp [*]; done)), H', ⟨by have := HK1.out; omega⟩, ⟨by (with_reducible repeat (first | refine blk_drewN ?_ _ | refine blk_drew ?_ | refine blk_alloc ?_ _)); refine blk_far ?_ NB334_338.out _; (with_reducible repeat (first | refine blk_drewN ?_ _ | refine blk_drew ?_ | refine blk_alloc ?_ _)); refine blk_far ?_ NB334_338.out _; (with_reducible repeat (first | refine blk_drewN ?_ _ | refine blk_drew ?_ | refine blk_alloc ?_ _)); refine blk_far ?_ NB334_338.out _; (with_reducible repeat (first | refine blk_drewN ?_ _ | refine blk_drew ?_ | refine blk_alloc ?_ _)); exact BK334.out⟩, ⟨by (with_reducible repeat (first | refine blk_drewN ?_ _ | refine blk_drew ?_ | refine blk_alloc ?_ _)); refine blk_far ?_ NB335_338.out _; (with_reducible repeat (first | refine blk_drewN ?_ _ | refine blk_drew ?_ | refine blk_alloc ?_ _)); refine blk_far ?_ NB335_338.out _; (with_reducible repeat (first | refine blk_drewN ?_ _ | refine blk_drew ?_ | refine blk_alloc ?_ _)); refine blk_far ?_ NB335_338.out _; (with_reducible repeat (first | refine blk_drewN ?_ _ | refine blk_drew ?_ | refine blk_alloc ?_ _)); exact BK335.out⟩, ⟨by (with_reducible repeat (first | refine blk_drewN ?_ _ | refine blk_drew ?_ | refine blk_alloc ?_ _)); refine blk_far ?_ NB336_338.out _; (with_reducible repeat (first | refine blk_drewN ?_ _ | refine blk_drew ?_ | refine blk_alloc ?_ _)); refine blk_far ?_ NB336_338.out _; (with_reducible repeat (first | refine blk_drewN ?_ _ | refine blk_drew ?_ | refine blk_alloc ?_ _)); refine blk_far ?_ NB336_338.out _; (with_reducible repeat (first | refine blk_drewN ?_ _ | refine blk_drew ?_ | refine blk_alloc ?_ _)); exact BK336.out⟩, ⟨by repeat (first | (with_reducible first | exact HB.out | apply below_alloc | apply pw_below_drewN | apply below_drew1 | refine below_set ?_ GE334.out | refine below_set ?_ GE335.out | refine below_set ?_ GE336.out | refine below_set ?_ GE338.out) | exact HB.out)⟩⟩
    · rw [if_neg c11] at H; exact absurd H (by simp)
   · rw [if_neg c10] at H; have c10b0 : decide (x10_1 < (l0_1.length : Int)) = false := decide_eq_false c10; clear c10; simp only [Option.some.injEq, Prod.mk.injEq] at H; obtain ⟨rfl, rfl, rfl, rfl⟩ := H; have hnb40 := NB334_335.out; have hnc40 := NB335_334.out; have hnb41 := NB334_336.out; have hnc41 := NB336_334.out; have hcz42_0 : wr.cell? ⟨gb334, 0, none⟩ = some (.int .i64 a0_0) := (blk_cell BK334.out 0).trans rfl; have hcz42_1 : wr.cell? ⟨gb334, 1, none⟩ = some (.slice A0_1 l0_1.length c0_1) := (blk_cell BK334.out 1).trans rfl; have hfz42_0 := blk_frozen BK334.out 0; have hfz42_1 := blk_frozen BK334.out 1; have hnb43 := NB336_335.out; have hnc43 := NB335_336.out; have hcz44_0 : wr.cell? ⟨gb336, 0, none⟩ = some (.int .i64 x337000_1) := (blk_cell BK336.out 0).trans rfl; have hcz44_1 : wr.cell? ⟨gb336, 1, none⟩ = some (.int .i64 x337001_1) := (blk_cell BK336.out 1).trans rfl; have hcz44_2 : wr.cell? ⟨gb336, 2, none⟩ = some (.int .i64 x337002_1) := (blk_cell BK336.out 2).trans rfl; have hfz44_0 := blk_frozen BK336.out 0; have hfz44_1 := blk_frozen BK336.out 1; have hfz44_2 := blk_frozen BK336.out 2; have hcz45_0 : wr.cell? ⟨gb335, 0, none⟩ = some (.int .i64 0) := (blk_cell BK335.out 0).trans rfl; have hcz45_1 : wr.cell? ⟨gb335, 1, none⟩ = some (.int .i64 0) := (blk_cell BK335.out 1).trans rfl; have hcz45_2 : wr.cell? ⟨gb335, 2, none⟩ = some (.int .i64 0) := (blk_cell BK335.out 2).trans rfl; have hfz45_0 := blk_frozen BK335.out 0; have hfz45_1 := blk_frozen BK335.out 1; have hfz45_2 := blk_frozen BK335.out 2; go_wp2; refine bodyPost_ret (results_ct rfl _ _ gb335 26 #[.int .i64 x337000_1, .int .i64 x337001_1, .int .i64 x337002_1] (0, 0) _ rfl (by (with_reducible repeat (first | refine blk_drewN ?_ _ | refine blk_drew ?_ | refine blk_alloc ?_ _)); refine blk_put (cs := #[.int .i64 x337000_1, .int .i64 x337001_1, .int .i64 0]) ?_ 2 _ rfl; (with_reducible repeat (first | refine blk_drewN ?_ _ | refine blk_drew ?_ | refine blk_alloc ?_ _)); refine blk_put (cs := #[.int .i64 x337000_1, .int .i64 0, .int .i64 0]) ?_ 1 _ rfl; (with_reducible repeat (first | refine blk_drewN ?_ _ | refine blk_drew ?_ | refine blk_alloc ?_ _)); refine blk_put (cs := #[.int .i64 0, .int .i64 0, .int .i64 0]) ?_ 0 _ rfl; (with_reducible repeat (first | refine blk_drewN ?_ _ | refine blk_drew ?_ | refine blk_alloc ?_ _)); exact BK335.out) Tryz.underlying26 rfl (by kernel_rfl)) rfl ?_; exact ⟨by first | rfl | (simp [errW_none, errW_some] <;> rfl) | (simp [*, errW_none, errW_some] <;> rfl), by repeat (first | (with_reducible first | exact HB.out | apply below_alloc | apply pw_below_drewN | apply below_drew1 | refine below_set ?_ GE334.out | refine below_set ?_ GE335.out | refine below_set ?_ GE336.out) | exact HB.out)⟩
end Go.Proofs.YtholbmidciapdaaGreatDoor.Pr
namespace Go.Proofs.YtholbmidciapdaaGreatDoor.Pr
open Go.RowKit Go.Proofs.YtholbmidciapdaaGreatDoorW.PrintWords Go.Proofs.YtholbmidciapdaaGreatDoorW.PrintLast Go.Proofs.YtholbmidciapdaaGreatDoorW.PrintMore Go.Proofs.YtholbmidciapdaaGreatDoor.X
attribute [local go_sem] max2_int min2_int max_two min_two max_three min_three max_four min_four   -- for this text's walks alone
set_option linter.unusedVariables false
set_option linter.unusedSimpArgs false
attribute [local go_sem high] eqA26
def spileref46_Amount.f (a0 : Int) (a1 : Int) (a2 : Int) : Option (Int) := if a0 = 2 then (if (Int.tmod (wrap64 (a1 * (Int.tmod a2 10000000))) 10000000) > 0 then (some (wrap64 ((wrap64 ((wrap64 (a1 * (wrap64 (Int.tdiv a2 10000000)))) + (wrap64 (Int.tdiv (wrap64 (a1 * (Int.tmod a2 10000000))) 10000000)))) + 1))) else (some (wrap64 ((wrap64 (a1 * (wrap64 (Int.tdiv a2 10000000)))) + (wrap64 (Int.tdiv (wrap64 (a1 * (Int.tmod a2 10000000))) 10000000)))))) else (if a0 = 3 then (if (wrap64 (2 * (Int.tmod (wrap64 (a1 * (Int.tmod a2 10000000))) 10000000))) ≥ 10000000 then (some (wrap64 ((wrap64 ((wrap64 (a1 * (wrap64 (Int.tdiv a2 10000000)))) + (wrap64 (Int.tdiv (wrap64 (a1 * (Int.tmod a2 10000000))) 10000000)))) + 1))) else (some (wrap64 ((wrap64 (a1 * (wrap64 (Int.tdiv a2 10000000)))) + (wrap64 (Int.tdiv (wrap64 (a1 * (Int.tmod a2 10000000))) 10000000)))))) else (if a0 = 4 then (if (wrap64 (2 * (Int.tmod (wrap64 (a1 * (Int.tmod a2 10000000))) 10000000))) > 10000000 then (some (wrap64 ((wrap64 ((wrap64 (a1 * (wrap64 (Int.tdiv a2 10000000)))) + (wrap64 (Int.tdiv (wrap64 (a1 * (Int.tmod a2 10000000))) 10000000)))) + 1))) else (if (wrap64 (2 * (Int.tmod (wrap64 (a1 * (Int.tmod a2 10000000))) 10000000))) = 10000000 then (if (Int.tmod (wrap64 ((wrap64 (a1 * (wrap64 (Int.tdiv a2 10000000)))) + (wrap64 (Int.tdiv (wrap64 (a1 * (Int.tmod a2 10000000))) 10000000)))) 2) = 1 then (some (wrap64 ((wrap64 ((wrap64 (a1 * (wrap64 (Int.tdiv a2 10000000)))) + (wrap64 (Int.tdiv (wrap64 (a1 * (Int.tmod a2 10000000))) 10000000)))) + 1))) else (some (wrap64 ((wrap64 (a1 * (wrap64 (Int.tdiv a2 10000000)))) + (wrap64 (Int.tdiv (wrap64 (a1 * (Int.tmod a2 10000000))) 10000000)))))) else (some (wrap64 ((wrap64 (a1 * (wrap64 (Int.tdiv a2 10000000)))) + (wrap64 (Int.tdiv (wrap64 (a1 * (Int.tmod a2 10000000))) 10000000))))))) else (some (wrap64 ((wrap64 (a1 * (wrap64 (Int.tdiv a2 10000000)))) + (wrap64 (Int.tdiv (wrap64 (a1 * (Int.tmod a2 10000000))) 10000000)))))))
set_option maxHeartbeats 8000000 in
set_option maxRecDepth 100000 in
theorem spileref46_Amount.calls (a0 : Int) (a1 : Int) (a2 : Int) (r : Int) (w : World) (h : spileref46_Amount.f a0 a1 a2 = some r) :
  Calls Tryz.prog 51 #[.int .i64 a0, .int .i64 a1, .int .i64 a2] w fun e w' => e = .returned (.int .i64 r) ∧ Drawn0 w w' := by
 have H : (if a0 = 2 then (if (Int.tmod (wrap64 (a1 * (Int.tmod a2 10000000))) 10000000) > 0 then (some (wrap64 ((wrap64 ((wrap64 (a1 * (wrap64 (Int.tdiv a2 10000000)))) + (wrap64 (Int.tdiv (wrap64 (a1 * (Int.tmod a2 10000000))) 10000000)))) + 1))) else (some (wrap64 ((wrap64 (a1 * (wrap64 (Int.tdiv a2 10000000)))) + (wrap64 (Int.tdiv (wrap64 (a1 * (Int.tmod a2 10000000))) 10000000)))))) else (if a0 = 3 then (if (wrap64 (2 * (Int.tmod (wrap64 (a1 * (Int.tmod a2 10000000))) 10000000))) ≥ 10000000 then (some (wrap64 ((wrap64 ((wrap64 (a1 * (wrap64 (Int.tdiv a2 10000000)))) + (wrap64 (Int.tdiv (wrap64 (a1 * (Int.tmod a2 10000000))) 10000000)))) + 1))) else (some (wrap64 ((wrap64 (a1 * (wrap64 (Int.tdiv a2 10000000)))) + (wrap64 (Int.tdiv (wrap64 (a1 * (Int.tmod a2 10000000))) 10000000)))))) else (if a0 = 4 then (if (wrap64 (2 * (Int.tmod (wrap64 (a1 * (Int.tmod a2 10000000))) 10000000))) > 10000000 then (some (wrap64 ((wrap64 ((wrap64 (a1 * (wrap64 (Int.tdiv a2 10000000)))) + (wrap64 (Int.tdiv (wrap64 (a1 * (Int.tmod a2 10000000))) 10000000)))) + 1))) else (if (wrap64 (2 * (Int.tmod (wrap64 (a1 * (Int.tmod a2 10000000))) 10000000))) = 10000000 then (if (Int.tmod (wrap64 ((wrap64 (a1 * (wrap64 (Int.tdiv a2 10000000)))) + (wrap64 (Int.tdiv (wrap64 (a1 * (Int.tmod a2 10000000))) 10000000)))) 2) = 1 then (some (wrap64 ((wrap64 ((wrap64 (a1 * (wrap64 (Int.tdiv a2 10000000)))) + (wrap64 (Int.tdiv (wrap64 (a1 * (Int.tmod a2 10000000))) 10000000)))) + 1))) else (some (wrap64 ((wrap64 (a1 * (wrap64 (Int.tdiv a2 10000000)))) + (wrap64 (Int.tdiv (wrap64 (a1 * (Int.tmod a2 10000000))) 10000000)))))) else (some (wrap64 ((wrap64 (a1 * (wrap64 (Int.tdiv a2 10000000)))) + (wrap64 (Int.tdiv (wrap64 (a1 * (Int.tmod a2 10000000))) 10000000))))))) else (some (wrap64 ((wrap64 (a1 * (wrap64 (Int.tdiv a2 10000000)))) + (wrap64 (Int.tdiv (wrap64 (a1 * (Int.tmod a2 10000000))) 10000000)))))))) = some r := h; clear h; by_cases c4 : a0 = 2
 ·
  rw [if_pos c4] at H; have c4b0 : (a0 == 2) = true := beq_iff_eq.mpr c4; have c4b1 : (a0 != 2) = false := bne_eq_false_iff_eq.mpr c4; clear c4; by_cases c5 : (Int.tmod (wrap64 (a1 * (Int.tmod a2 10000000))) 10000000) > 0
  ·
   rw [if_pos c5] at H; have c5b0 : decide (0 < (Int.tmod (wrap64 (a1 * (Int.tmod a2 10000000))) 10000000)) = true := decide_eq_true c5; clear c5; obtain rfl := Option.some.inj H; go_enter Tryz.func51, Tryz.ntmps51
   go_wp2; go_ret
   exact ⟨by first | rfl | (simp; done) | (simp [*]; done), by repeat (first | exact Drawn0.refl _ | apply Drawn0.step)⟩
  ·
   rw [if_neg c5] at H; have c5b0 : decide (0 < (Int.tmod (wrap64 (a1 * (Int.tmod a2 10000000))) 10000000)) = false := decide_eq_false c5; clear c5; obtain rfl := Option.some.inj H; go_enter Tryz.func51, Tryz.ntmps51
   go_wp2; go_ret
   exact ⟨by first | rfl | (simp; done) | (simp [*]; done), by repeat (first | exact Drawn0.refl _ | apply Drawn0.step)⟩
 ·
  rw [if_neg c4] at H; have c4b0 : (a0 == 2) = false := beq_eq_false_iff_ne.mpr c4; have c4b1 : (a0 != 2) = true := bne_iff_ne.mpr c4; by_cases c6 : a0 = 3
  ·
   rw [if_pos c6] at H; have c6b0 : (a0 == 3) = true := beq_iff_eq.mpr c6; have c6b1 : (a0 != 3) = false := bne_eq_false_iff_eq.mpr c6; clear c6; by_cases c7 : (wrap64 (2 * (Int.tmod (wrap64 (a1 * (Int.tmod a2 10000000))) 10000000))) ≥ 10000000
   ·
    rw [if_pos c7] at H; have c7b0 : decide (10000000 ≤ (wrap64 (2 * (Int.tmod (wrap64 (a1 * (Int.tmod a2 10000000))) 10000000)))) = true := decide_eq_true c7; clear c7; obtain rfl := Option.some.inj H; go_enter Tryz.func51, Tryz.ntmps51
    go_wp2; go_ret
    exact ⟨by first | rfl | (simp; done) | (simp [*]; done), by repeat (first | exact Drawn0.refl _ | apply Drawn0.step)⟩
   ·
    rw [if_neg c7] at H; have c7b0 : decide (10000000 ≤ (wrap64 (2 * (Int.tmod (wrap64 (a1 * (Int.tmod a2 10000000))) 10000000)))) = false := decide_eq_false c7; clear c7; obtain rfl := Option.some.inj H; go_enter Tryz.func51, Tryz.ntmps51
    go_wp2; go_ret
    exact ⟨by first | rfl | (simp; done) | (simp [*]; done), by repeat (first | exact Drawn0.refl _ | apply Drawn0.step)⟩
  ·
   rw [if_neg c6] at H; have c6b0 : (a0 == 3) = false := beq_eq_false_iff_ne.mpr c6; have c6b1 : (a0 != 3) = true := bne_iff_ne.mpr c6; by_cases c8 : a0 = 4
   ·
    rw [if_pos c8] at H; have c8b0 : (a0 == 4) = true := beq_iff_eq.mpr c8; have c8b1 : (a0 != 4) = false := bne_eq_false_iff_eq.mpr c8; clear c8; by_cases c9 : (wrap64 (2 * (Int.tmod (wrap64 (a1 * (Int.tmod a2 10000000))) 10000000))) > 10000000
    ·
     rw [if_pos c9] at H; have c9b0 : decide (10000000 < (wrap64 (2 * (Int.tmod (wrap64 (a1 * (Int.tmod a2 10000000))) 10000000)))) = true := decide_eq_true c9; clear c9; obtain rfl := Option.some.inj H; go_enter Tryz.func51, Tryz.ntmps51
     go_wp2; go_ret
     exact ⟨by first | rfl | (simp; done) | (simp [*]; done), by repeat (first | exact Drawn0.refl _ | apply Drawn0.step)⟩
    ·
     rw [if_neg c9] at H; have c9b0 : decide (10000000 < (wrap64 (2 * (Int.tmod (wrap64 (a1 * (Int.tmod a2 10000000))) 10000000)))) = false := decide_eq_false c9; clear c9; by_cases c10 : (wrap64 (2 * (Int.tmod (wrap64 (a1 * (Int.tmod a2 10000000))) 10000000))) = 10000000
     ·
      rw [if_pos c10] at H; have c10b0 : ((wrap64 (2 * (Int.tmod (wrap64 (a1 * (Int.tmod a2 10000000))) 10000000))) == 10000000) = true := beq_iff_eq.mpr c10; have c10b1 : ((wrap64 (2 * (Int.tmod (wrap64 (a1 * (Int.tmod a2 10000000))) 10000000))) != 10000000) = false := bne_eq_false_iff_eq.mpr c10; clear c10; by_cases c11 : (Int.tmod (wrap64 ((wrap64 (a1 * (wrap64 (Int.tdiv a2 10000000)))) + (wrap64 (Int.tdiv (wrap64 (a1 * (Int.tmod a2 10000000))) 10000000)))) 2) = 1
      ·
       rw [if_pos c11] at H; have c11b0 : ((Int.tmod (wrap64 ((wrap64 (a1 * (wrap64 (Int.tdiv a2 10000000)))) + (wrap64 (Int.tdiv (wrap64 (a1 * (Int.tmod a2 10000000))) 10000000)))) 2) == 1) = true := beq_iff_eq.mpr c11; have c11b1 : ((Int.tmod (wrap64 ((wrap64 (a1 * (wrap64 (Int.tdiv a2 10000000)))) + (wrap64 (Int.tdiv (wrap64 (a1 * (Int.tmod a2 10000000))) 10000000)))) 2) != 1) = false := bne_eq_false_iff_eq.mpr c11; clear c11; obtain rfl := Option.some.inj H; go_enter Tryz.func51, Tryz.ntmps51
       go_wp2; go_ret
       exact ⟨by first | rfl | (simp; done) | (simp [*]; done), by repeat (first | exact Drawn0.refl _ | apply Drawn0.step)⟩
      ·
       rw [if_neg c11] at H; have c11b0 : ((Int.tmod (wrap64 ((wrap64 (a1 * (wrap64 (Int.tdiv a2 10000000)))) + (wrap64 (Int.tdiv (wrap64 (a1 * (Int.tmod a2 10000000))) 10000000)))) 2) == 1) = false := beq_eq_false_iff_ne.mpr c11; have c11b1 : ((Int.tmod (wrap64 ((wrap64 (a1 * (wrap64 (Int.tdiv a2 10000000)))) + (wrap64 (Int.tdiv (wrap64 (a1 * (Int.tmod a2 10000000))) 10000000)))) 2) != 1) = true := bne_iff_ne.mpr c11; obtain rfl := Option.some.inj H; go_enter Tryz.func51, Tryz.ntmps51
       go_wp2; go_ret
       exact ⟨by first | rfl | (simp; done) | (simp [*]; done), by repeat (first | exact Drawn0.refl _ | apply Drawn0.step)⟩
     ·
      rw [if_neg c10] at H; have c10b0 : ((wrap64 (2 * (Int.tmod (wrap64 (a1 * (Int.tmod a2 10000000))) 10000000))) == 10000000) = false := beq_eq_false_iff_ne.mpr c10; have c10b1 : ((wrap64 (2 * (Int.tmod (wrap64 (a1 * (Int.tmod a2 10000000))) 10000000))) != 10000000) = true := bne_iff_ne.mpr c10; obtain rfl := Option.some.inj H; go_enter Tryz.func51, Tryz.ntmps51
      go_wp2; go_ret
      exact ⟨by first | rfl | (simp; done) | (simp [*]; done), by repeat (first | exact Drawn0.refl _ | apply Drawn0.step)⟩
   ·
    rw [if_neg c8] at H; have c8b0 : (a0 == 4) = false := beq_eq_false_iff_ne.mpr c8; have c8b1 : (a0 != 4) = true := bne_iff_ne.mpr c8; obtain rfl := Option.some.inj H; go_enter Tryz.func51, Tryz.ntmps51
    go_wp2; go_ret
    exact ⟨by first | rfl | (simp; done) | (simp [*]; done), by repeat (first | exact Drawn0.refl _ | apply Drawn0.step)⟩
end Go.Proofs.YtholbmidciapdaaGreatDoor.Pr
namespace Go.Proofs.YtholbmidciapdaaGreatDoor.Pr
open Go.RowKit Go.Proofs.YtholbmidciapdaaGreatDoorW.PrintWords Go.Proofs.YtholbmidciapdaaGreatDoorW.PrintLast Go.Proofs.YtholbmidciapdaaGreatDoorW.PrintMore Go.Proofs.YtholbmidciapdaaGreatDoor.X
attribute [local go_sem] max2_int min2_int max_two min_two max_three min_three max_four min_four   -- for this text's walks alone
set_option linter.unusedVariables false
set_option linter.unusedSimpArgs false
def spileref46_Duty.j0 : Nat → Int → Int → Int → Bool → Int → List (S26) → Option (Int × Int)
 | 0, _, _, _, _, _, _ => none
 | k + 1, x1, x2, x3, x26, x422000, x422001 => if x26 = true then (some (0, 2)) else ((spileref46_Force.f k x422000 x422001 x1 x2).bind fun bt424 => (if bt424.2.2.2 = true then ((spileref46_Amount.f x422000 bt424.2.2.1 x3).bind fun t429 => (some (t429, 0))) else (some (0, 7))))
def spileref46_Duty.f (k : Nat) (a0_0 : Int) (l0_1 : List (S26)) (a1 : Int) (a2 : Int) (a3 : Int) : Option (Int × Int) := (spileref46_Right.f k a0_0 l0_1).bind fun t422 => (if t422 = true then ((spileref46_Ranges.f a1 a2).bind fun t423 => (if t423 = true then (if a3 < 0 then (spileref46_Duty.j0 k a1 a2 a3 true a0_0 l0_1) else (spileref46_Duty.j0 k a1 a2 a3 (decide (a3 > 10737418240000)) a0_0 l0_1)) else (spileref46_Duty.j0 k a1 a2 a3 true a0_0 l0_1))) else (some (0, 1)))
set_option maxHeartbeats 8000000 in
set_option maxRecDepth 100000 in
theorem spileref46_Duty.calls (k : Nat) (a0_0 : Int) (A0_1 : Option Addr) (c0_1 : Nat) (l0_1 : List (S26)) (a1 : Int) (a2 : Int) (a3 : Int) (r1 : Int) (r2 : Int) (w : World) (hr0_1 : Kd.C k26 w A0_1 l0_1.length l0_1) (hc0_1 : l0_1.length ≤ c0_1) (h : spileref46_Duty.f k a0_0 l0_1 a1 a2 a3 = some (r1, r2)) :
  Calls Tryz.prog 27 #[.agg #[.int .i64 a0_0, .slice A0_1 l0_1.length c0_1], .int .i64 a1, .int .i64 a2, .int .i64 a3] w fun e w' => e = .returned (.tuple #[.int .i64 r1, .int .i64 r2]) ∧ Below w.heap.size w w' := by
 have hu24 := Tryz.underlying24; have hu26 := Tryz.underlying26; have HR0_1 := Aside0.mk hr0_1; have HC0_1 := Aside0.mk hc0_1; clear hr0_1 hc0_1; have HB := Aside0.mk (Below.refl w.heap.size w); have H : ((spileref46_Right.f k a0_0 l0_1).bind fun t422 => (if t422 = true then ((spileref46_Ranges.f a1 a2).bind fun t423 => (if t423 = true then (if a3 < 0 then (spileref46_Duty.j0 k a1 a2 a3 true a0_0 l0_1) else (spileref46_Duty.j0 k a1 a2 a3 (decide (a3 > 10737418240000)) a0_0 l0_1)) else (spileref46_Duty.j0 k a1 a2 a3 true a0_0 l0_1))) else (some (0, 1)))) = some (r1, r2) := h; clear h; replace H := Option.bind_eq_some_iff.mp H; obtain ⟨t422, A50, H⟩ := H; replace H : (if t422 = true then ((spileref46_Ranges.f a1 a2).bind fun t423 => (if t423 = true then (if a3 < 0 then (spileref46_Duty.j0 k a1 a2 a3 true a0_0 l0_1) else (spileref46_Duty.j0 k a1 a2 a3 (decide (a3 > 10737418240000)) a0_0 l0_1)) else (spileref46_Duty.j0 k a1 a2 a3 true a0_0 l0_1))) else (some (0, 1))) = some (r1, r2) := H; have A5 := Aside0.mk A50; clear A50; by_cases c6 : t422 = true
 ·
  subst c6; replace H : ((spileref46_Ranges.f a1 a2).bind fun t423 => (if t423 = true then (if a3 < 0 then (spileref46_Duty.j0 k a1 a2 a3 true a0_0 l0_1) else (spileref46_Duty.j0 k a1 a2 a3 (decide (a3 > 10737418240000)) a0_0 l0_1)) else (spileref46_Duty.j0 k a1 a2 a3 true a0_0 l0_1))) = some (r1, r2) := by rw [if_pos rfl] at H; exact H
  have HC7 := Aside0.mk H; clear H; go_enter Tryz.func27, Tryz.ntmps27
  go_upto_region 3 with (first | ((with_reducible refine gate_dst (N := 4) rfl ?_); refine box_event ?hg (N := 4) ?hd (cs := #[.int .i64 a0_0, .slice A0_1 l0_1.length c0_1]) (t := 24) ?hr ?_; (case hd => rfl); (case hg => rfl); (case hr => first | (go_simp; done) | (go_simp; rfl)); intro gb421 hg w8 hbox hb; have n0_ := Aside0.mk (below_step (by repeat (with_reducible first | exact HB.out | apply below_alloc | apply pw_below_drewN | apply below_drew1)) hb); have n1_ := Aside0.mk (hbox); have n2_ := Aside0.mk ((by rw [hg]; exact (below_size (by repeat (with_reducible first | exact HB.out | apply below_alloc | apply pw_below_drewN | apply below_drew1))) : w.heap.size ≤ gb421)); have n3_ := Aside0.mk ((by rw [hg]; exact (below_size (by repeat (with_reducible first | exact HB.out | apply below_alloc | apply pw_below_drewN | apply below_drew1))) : w.heap.size ≤ gb421)); clear HB; have HB := n0_; have BK421 := n1_; have GW421 := n2_; have GE421 := n3_; clear n0_ n1_ n2_ n3_; clear hb hbox hg; have hcz9_0 : w8.cell? ⟨gb421, 0, none⟩ = some (.int .i64 a0_0) := (blk_cell BK421.out 0).trans rfl; have hcz9_1 : w8.cell? ⟨gb421, 1, none⟩ = some (.slice A0_1 l0_1.length c0_1) := (blk_cell BK421.out 1).trans rfl; have hfz9_0 := blk_frozen BK421.out 0; have hfz9_1 := blk_frozen BK421.out 1) | ((with_reducible refine gate_callee (f := 44) rfl ?_); refine goesL_ (some 13) rfl rfl Tryz.func44 (by kernel_rfl) rfl #[.agg #[.int .i64 a0_0, .slice A0_1 l0_1.length c0_1]] rfl (by (try simp only [List.map_toArray, List.map_cons, List.map_nil]); first | done | rfl | (simp only [List.length_drop, List.length_take]; rfl)) ?_; (with_reducible refine (spileref46_Right.calls k a0_0 _ _ l0_1 true _ ?side1 ?side2 A5.out).mono ?_); (case side1 => repeat (first | exact (Kd.C_below HR0_1.out HB.out) | (with_reducible refine Kd.C_alloc ?_ _) | (with_reducible refine Kd.C_drewN ?_ _) | (with_reducible refine Kd.C_drew ?_))); (case side2 => exact HC0_1.out); rintro e w10 ⟨rfl, hb⟩; refine ⟨_, rfl, ?_⟩; have n0_ := Aside0.mk (blk_below (bG BK421.out) hb); have n1_ := Aside0.mk (below_step (by repeat (with_reducible first | exact HB.out | apply below_alloc | apply pw_below_drewN | apply below_drew1 | refine below_set ?_ GE421.out)) hb); clear BK421; clear HB; have BK421 := n0_; have HB := n1_; clear n0_ n1_; (try clear hb); (try clear hb2); (try clear hk); (try clear hi)))
  (try simp only [Act.put, sIA, sC0, sCS])
  go_cut [26] (fun v26 wc => ∃ (kq : Nat) (x26_6 : Bool), v26 = .bool x26_6 ∧ Aside0 (spileref46_Duty.j0 kq a1 a2 a3 x26_6 a0_0 l0_1 = some (r1, r2)) ∧ Aside0 (kq ≤ k) ∧ Aside0 (wc.heap[gb421]? = some (.cells #[.int .i64 a0_0, (.slice A0_1 l0_1.length c0_1)] 24 (0, 0))) ∧ Aside0 (Below w.heap.size w wc))
  case first =>
   have H := HC7.out; clear HC7; replace H := Option.bind_eq_some_iff.mp H; obtain ⟨t423, A110, H⟩ := H; replace H : (if t423 = true then (if a3 < 0 then (spileref46_Duty.j0 k a1 a2 a3 true a0_0 l0_1) else (spileref46_Duty.j0 k a1 a2 a3 (decide (a3 > 10737418240000)) a0_0 l0_1)) else (spileref46_Duty.j0 k a1 a2 a3 true a0_0 l0_1)) = some (r1, r2) := H; have A11 := Aside0.mk A110; clear A110; by_cases c12 : t423 = true
   ·
    subst c12; replace H : (if a3 < 0 then (spileref46_Duty.j0 k a1 a2 a3 true a0_0 l0_1) else (spileref46_Duty.j0 k a1 a2 a3 (decide (a3 > 10737418240000)) a0_0 l0_1)) = some (r1, r2) := by rw [if_pos rfl] at H; exact H
    by_cases c13 : a3 < 0
    ·
     rw [if_pos c13] at H; have c13b0 : decide (a3 < 0) = true := decide_eq_true c13; clear c13; (first | rw [c13b0] | (simp only [i64_w, i32_w]; rw [c13b0]) | skip)
     have H' := Aside0.mk H; clear H; go_wp2_with (first | ((with_reducible refine gate_callee (f := 46) rfl ?_); refine goesL_ (some 17) rfl rfl Tryz.func46 (by kernel_rfl) rfl #[.int .i64 a1, .int .i64 a2] rfl (by (try simp only [List.map_toArray, List.map_cons, List.map_nil]); first | done | rfl | (simp only [List.length_drop, List.length_take]; rfl)) ?_; (with_reducible refine (spileref46_Ranges.calls a1 a2 true _ A11.out).mono ?_); rintro e w' ⟨rfl, ⟨nd, rfl⟩⟩; refine ⟨_, rfl, ?_⟩))
     go_meet
     case rel => exact ⟨_, (true), (by first | rfl | (simp; done) | (simp [*]; done)), H', ⟨by first | omega | exact Nat.le_refl _⟩, ⟨by (with_reducible repeat (first | refine blk_drewN ?_ _ | refine blk_drew ?_ | refine blk_alloc ?_ _)); exact BK421.out⟩, ⟨by repeat (first | (with_reducible first | exact HB.out | apply below_alloc | apply pw_below_drewN | apply below_drew1 | refine below_set ?_ GE421.out) | exact HB.out)⟩⟩
    ·
     rw [if_neg c13] at H; have c13b0 : decide (a3 < 0) = false := decide_eq_false c13; clear c13; (first | rw [c13b0] | (simp only [i64_w, i32_w]; rw [c13b0]) | skip)
     have H' := Aside0.mk H; clear H; go_wp2_with (first | ((with_reducible refine gate_callee (f := 46) rfl ?_); refine goesL_ (some 17) rfl rfl Tryz.func46 (by kernel_rfl) rfl #[.int .i64 a1, .int .i64 a2] rfl (by (try simp only [List.map_toArray, List.map_cons, List.map_nil]); first | done | rfl | (simp only [List.length_drop, List.length_take]; rfl)) ?_; (with_reducible refine (spileref46_Ranges.calls a1 a2 true _ A11.out).mono ?_); rintro e w' ⟨rfl, ⟨nd, rfl⟩⟩; refine ⟨_, rfl, ?_⟩))
     go_meet
     case rel => exact ⟨_, (decide (a3 > 10737418240000)), (by first | rfl | (simp; done) | (simp [*]; done)), H', ⟨by first | omega | exact Nat.le_refl _⟩, ⟨by (with_reducible repeat (first | refine blk_drewN ?_ _ | refine blk_drew ?_ | refine blk_alloc ?_ _)); exact BK421.out⟩, ⟨by repeat (first | (with_reducible first | exact HB.out | apply below_alloc | apply pw_below_drewN | apply below_drew1 | refine below_set ?_ GE421.out) | exact HB.out)⟩⟩
   ·
    replace c12 := Bool.eq_false_iff.mpr c12; subst c12; replace H : (spileref46_Duty.j0 k a1 a2 a3 true a0_0 l0_1) = some (r1, r2) := by rw [if_neg (show ¬ (false = true) by decide)] at H; exact H
    have H' := Aside0.mk H; clear H; go_wp2_with (first | ((with_reducible refine gate_callee (f := 46) rfl ?_); refine goesL_ (some 17) rfl rfl Tryz.func46 (by kernel_rfl) rfl #[.int .i64 a1, .int .i64 a2] rfl (by (try simp only [List.map_toArray, List.map_cons, List.map_nil]); first | done | rfl | (simp only [List.length_drop, List.length_take]; rfl)) ?_; (with_reducible refine (spileref46_Ranges.calls a1 a2 false _ A11.out).mono ?_); rintro e w' ⟨rfl, ⟨nd, rfl⟩⟩; refine ⟨_, rfl, ?_⟩))
    go_meet
    case rel => exact ⟨_, (true), (by first | rfl | (simp; done) | (simp [*]; done)), H', ⟨by first | omega | exact Nat.le_refl _⟩, ⟨by (with_reducible repeat (first | refine blk_drewN ?_ _ | refine blk_drew ?_ | refine blk_alloc ?_ _)); exact BK421.out⟩, ⟨by repeat (first | (with_reducible first | exact HB.out | apply below_alloc | apply pw_below_drewN | apply below_drew1 | refine below_set ?_ GE421.out) | exact HB.out)⟩⟩
  case rest =>
   clear HC7; repeat first | clear c1 | clear c2 | clear p2 | clear c4 | clear c6 | clear c12 | clear c13 | clear c13b0 | clear hcz9_0 | clear hcz9_1 | clear hfz9_0 | clear hfz9_1
   obtain ⟨kq, x26_6, rfl, HA, HJ6, BK421, HB⟩ := hcut
   cases kq with
   | zero => exact absurd HA.out (by simp [spileref46_Duty.j0])
   | succ kj6 =>
    have H := HA.out; clear HA; simp only [spileref46_Duty.j0] at H; by_cases c14 : x26_6 = true
    ·
     subst c14; replace H : (some (0, 2)) = some (r1, r2) := by rw [if_pos rfl] at H; exact H
     simp only [Option.some.injEq, Prod.mk.injEq] at H; obtain ⟨rfl, rfl⟩ := H; go_wp2; go_ret2
     exact ⟨by first | rfl | (simp [errW_none, errW_some] <;> rfl) | (simp [*, errW_none, errW_some] <;> rfl), by repeat (first | (with_reducible first | exact HB.out | apply below_alloc | apply pw_below_drewN | apply below_drew1 | refine below_set ?_ GE421.out) | exact HB.out)⟩
    ·
     replace c14 := Bool.eq_false_iff.mpr c14; subst c14; replace H : ((spileref46_Force.f kj6 a0_0 l0_1 a1 a2).bind fun bt424 => (if bt424.2.2.2 = true then ((spileref46_Amount.f a0_0 bt424.2.2.1 a3).bind fun t429 => (some (t429, 0))) else (some (0, 7)))) = some (r1, r2) := by rw [if_neg (show ¬ (false = true) by decide)] at H; exact H
     replace H := Option.bind_eq_some_iff.mp H; obtain ⟨⟨t424, t425, t426, t427⟩, A150, H⟩ := H; replace H : (if t427 = true then ((spileref46_Amount.f a0_0 t426 a3).bind fun t429 => (some (t429, 0))) else (some (0, 7))) = some (r1, r2) := H; have A15 := Aside0.mk A150; clear A150; by_cases c16 : t427 = true
     ·
      subst c16; replace H : ((spileref46_Amount.f a0_0 t426 a3).bind fun t429 => (some (t429, 0))) = some (r1, r2) := by rw [if_pos rfl] at H; exact H
      replace H := Option.bind_eq_some_iff.mp H; obtain ⟨t429, A170, H⟩ := H; replace H : (some (t429, 0)) = some (r1, r2) := H; have A17 := Aside0.mk A170; clear A170; simp only [Option.some.injEq, Prod.mk.injEq] at H; obtain ⟨rfl, rfl⟩ := H; have hcz18_0 : wc.cell? ⟨gb421, 0, none⟩ = some (.int .i64 a0_0) := (blk_cell BK421.out 0).trans rfl; have hcz18_1 : wc.cell? ⟨gb421, 1, none⟩ = some (.slice A0_1 l0_1.length c0_1) := (blk_cell BK421.out 1).trans rfl; have hfz18_0 := blk_frozen BK421.out 0; have hfz18_1 := blk_frozen BK421.out 1; go_wp2_with (first | ((with_reducible refine gate_callee (f := 47) rfl ?_); refine goesL_ (some 31) rfl rfl Tryz.func47 (by kernel_rfl) rfl #[.agg #[.int .i64 a0_0, .slice A0_1 l0_1.length c0_1], .int .i64 a1, .int .i64 a2] rfl (by (try simp only [List.map_toArray, List.map_cons, List.map_nil]); first | done | rfl | (simp only [List.length_drop, List.length_take]; rfl)) ?_; (with_reducible refine (spileref46_Force.calls kj6 a0_0 _ _ l0_1 a1 a2 t424 t425 t426 true _ ?side1 ?side2 A15.out).mono ?_); (case side1 => repeat (first | exact (Kd.C_below HR0_1.out HB.out) | (with_reducible refine Kd.C_alloc ?_ _) | (with_reducible refine Kd.C_drewN ?_ _) | (with_reducible refine Kd.C_drew ?_))); (case side2 => exact HC0_1.out); rintro e w19 ⟨rfl, hb⟩; refine ⟨_, rfl, ?_⟩; have n0_ := Aside0.mk (blk_below (bG BK421.out) hb); have n1_ := Aside0.mk (below_step (by repeat (with_reducible first | exact HB.out | apply below_alloc | apply pw_below_drewN | apply below_drew1 | refine below_set ?_ GE421.out)) hb); clear BK421; clear HB; have BK421 := n0_; have HB := n1_; clear n0_ n1_; (try clear hb); (try clear hb2); (try clear hk); (try clear hi)) | ((with_reducible refine gate_dst (N := 10) rfl ?_); refine box_event ?hg (N := 10) ?hd (cs := #[.int .i64 0, .int .i64 0, .int .i64 0]) (t := 26) ?hr ?_; (case hd => rfl); (case hg => rfl); (case hr => first | (go_simp; done) | (go_simp; rfl)); intro gb428 hg w20 hbox hb; have n0_ := Aside0.mk (blk_below (bG BK421.out) hb); have n1_ := Aside0.mk (below_step (by repeat (with_reducible first | exact HB.out | apply below_alloc | apply pw_below_drewN | apply below_drew1 | refine below_set ?_ GE421.out)) hb); have n2_ := Aside0.mk (hbox); have n3_ := Aside0.mk ((by rw [hg]; exact (below_size (by repeat (with_reducible first | exact HB.out | apply below_alloc | apply pw_below_drewN | apply below_drew1 | refine below_set ?_ GE421.out))) : w.heap.size ≤ gb428)); have n4_ := Aside0.mk ((by rw [hg]; exact (below_size (by repeat (with_reducible first | exact HB.out | apply below_alloc | apply pw_below_drewN | apply below_drew1 | refine below_set ?_ GE421.out))) : w.heap.size ≤ gb428)); have n5_ := Aside0.mk ((by rw [hg]; exact Nat.ne_of_lt (blk_lt (bG BK421.out)) : gb421 ≠ gb428)); have n6_ := Aside0.mk ((by rw [hg]; exact Nat.ne_of_gt (blk_lt (bG BK421.out)) : gb428 ≠ gb421)); clear BK421; clear HB; have BK421 := n0_; have HB := n1_; have BK428 := n2_; have GW428 := n3_; have GE428 := n4_; have NB421_428 := n5_; have NB428_421 := n6_; clear n0_ n1_ n2_ n3_ n4_ n5_ n6_; clear hb hbox hg; have hnb21 := NB428_421.out; have hnc21 := NB421_428.out; have hcz22_0 : w20.cell? ⟨gb428, 0, none⟩ = some (.int .i64 0) := (blk_cell BK428.out 0).trans rfl; have hcz22_1 : w20.cell? ⟨gb428, 1, none⟩ = some (.int .i64 0) := (blk_cell BK428.out 1).trans rfl; have hcz22_2 : w20.cell? ⟨gb428, 2, none⟩ = some (.int .i64 0) := (blk_cell BK428.out 2).trans rfl; have hfz22_0 := blk_frozen BK428.out 0; have hfz22_1 := blk_frozen BK428.out 1; have hfz22_2 := blk_frozen BK428.out 2; have hcz23_0 : w20.cell? ⟨gb421, 0, none⟩ = some (.int .i64 a0_0) := (blk_cell BK421.out 0).trans rfl; have hcz23_1 : w20.cell? ⟨gb421, 1, none⟩ = some (.slice A0_1 l0_1.length c0_1) := (blk_cell BK421.out 1).trans rfl; have hfz23_0 := blk_frozen BK421.out 0; have hfz23_1 := blk_frozen BK421.out 1) | ((with_reducible refine gate_callee (f := 51) rfl ?_); refine goesL_ (some 41) rfl rfl Tryz.func51 (by kernel_rfl) rfl #[.int .i64 a0_0, .int .i64 t426, .int .i64 a3] rfl (by (try simp only [List.map_toArray, List.map_cons, List.map_nil]); first | done | rfl | (simp only [List.length_drop, List.length_take]; rfl)) ?_; (with_reducible refine (spileref46_Amount.calls a0_0 t426 a3 t429 _ A17.out).mono ?_); rintro e w' ⟨rfl, ⟨nd, rfl⟩⟩; refine ⟨_, rfl, ?_⟩))
      go_ret2
      exact ⟨by first | rfl | (simp [errW_none, errW_some] <;> rfl) | (simp [*, errW_none, errW_some] <;> rfl), by repeat (first | (with_reducible first | exact HB.out | apply below_alloc | apply pw_below_drewN | apply below_drew1 | refine below_set ?_ GE421.out | refine below_set ?_ GE428.out) | exact HB.out)⟩
     ·
      replace c16 := Bool.eq_false_iff.mpr c16; subst c16; replace H : (some (0, 7)) = some (r1, r2) := by rw [if_neg (show ¬ (false = true) by decide)] at H; exact H
      simp only [Option.some.injEq, Prod.mk.injEq] at H; obtain ⟨rfl, rfl⟩ := H; have hcz24_0 : wc.cell? ⟨gb421, 0, none⟩ = some (.int .i64 a0_0) := (blk_cell BK421.out 0).trans rfl; have hcz24_1 : wc.cell? ⟨gb421, 1, none⟩ = some (.slice A0_1 l0_1.length c0_1) := (blk_cell BK421.out 1).trans rfl; have hfz24_0 := blk_frozen BK421.out 0; have hfz24_1 := blk_frozen BK421.out 1; go_wp2_with (first | ((with_reducible refine gate_callee (f := 47) rfl ?_); refine goesL_ (some 31) rfl rfl Tryz.func47 (by kernel_rfl) rfl #[.agg #[.int .i64 a0_0, .slice A0_1 l0_1.length c0_1], .int .i64 a1, .int .i64 a2] rfl (by (try simp only [List.map_toArray, List.map_cons, List.map_nil]); first | done | rfl | (simp only [List.length_drop, List.length_take]; rfl)) ?_; (with_reducible refine (spileref46_Force.calls kj6 a0_0 _ _ l0_1 a1 a2 t424 t425 t426 false _ ?side1 ?side2 A15.out).mono ?_); (case side1 => repeat (first | exact (Kd.C_below HR0_1.out HB.out) | (with_reducible refine Kd.C_alloc ?_ _) | (with_reducible refine Kd.C_drewN ?_ _) | (with_reducible refine Kd.C_drew ?_))); (case side2 => exact HC0_1.out); rintro e w25 ⟨rfl, hb⟩; refine ⟨_, rfl, ?_⟩; have n0_ := Aside0.mk (blk_below (bG BK421.out) hb); have n1_ := Aside0.mk (below_step (by repeat (with_reducible first | exact HB.out | apply below_alloc | apply pw_below_drewN | apply below_drew1 | refine below_set ?_ GE421.out)) hb); clear BK421; clear HB; have BK421 := n0_; have HB := n1_; clear n0_ n1_; (try clear hb); (try clear hb2); (try clear hk); (try clear hi)) | ((with_reducible refine gate_dst (N := 10) rfl ?_); refine box_event ?hg (N := 10) ?hd (cs := #[.int .i64 0, .int .i64 0, .int .i64 0]) (t := 26) ?hr ?_; (case hd => rfl); (case hg => rfl); (case hr => first | (go_simp; done) | (go_simp; rfl)); intro gb428 hg w26 hbox hb; have n0_ := Aside0.mk (blk_below (bG BK421.out) hb); have n1_ := Aside0.mk (below_step (by repeat (with_reducible first | exact HB.out | apply below_alloc | apply pw_below_drewN | apply below_drew1 | refine below_set ?_ GE421.out)) hb); have n2_ := Aside0.mk (hbox); have n3_ := Aside0.mk ((by rw [hg]; exact (below_size (by repeat (with_reducible first | exact HB.out | apply below_alloc | apply pw_below_drewN | apply below_drew1 | refine below_set ?_ GE421.out))) : w.heap.size ≤ gb428)); have n4_ := Aside0.mk ((by rw [hg]; exact (below_size (by repeat (with_reducible first | exact HB.out | apply below_alloc | apply pw_below_drewN | apply below_drew1 | refine below_set ?_ GE421.out))) : w.heap.size ≤ gb428)); have n5_ := Aside0.mk ((by rw [hg]; exact Nat.ne_of_lt (blk_lt (bG BK421.out)) : gb421 ≠ gb428)); have n6_ := Aside0.mk ((by rw [hg]; exact Nat.ne_of_gt (blk_lt (bG BK421.out)) : gb428 ≠ gb421)); clear BK421; clear HB; have BK421 := n0_; have HB := n1_; have BK428 := n2_; have GW428 := n3_; have GE428 := n4_; have NB421_428 := n5_; have NB428_421 := n6_; clear n0_ n1_ n2_ n3_ n4_ n5_ n6_; clear hb hbox hg; have hnb27 := NB428_421.out; have hnc27 := NB421_428.out; have hcz28_0 : w26.cell? ⟨gb428, 0, none⟩ = some (.int .i64 0) := (blk_cell BK428.out 0).trans rfl; have hcz28_1 : w26.cell? ⟨gb428, 1, none⟩ = some (.int .i64 0) := (blk_cell BK428.out 1).trans rfl; have hcz28_2 : w26.cell? ⟨gb428, 2, none⟩ = some (.int .i64 0) := (blk_cell BK428.out 2).trans rfl; have hfz28_0 := blk_frozen BK428.out 0; have hfz28_1 := blk_frozen BK428.out 1; have hfz28_2 := blk_frozen BK428.out 2))
      go_ret2
      exact ⟨by first | rfl | (simp [errW_none, errW_some] <;> rfl) | (simp [*, errW_none, errW_some] <;> rfl), by repeat (first | (with_reducible first | exact HB.out | apply below_alloc | apply pw_below_drewN | apply below_drew1 | refine below_set ?_ GE421.out | refine below_set ?_ GE428.out) | exact HB.out)⟩
 ·
  replace c6 := Bool.eq_false_iff.mpr c6; subst c6; replace H : (some (0, 1)) = some (r1, r2) := by rw [if_neg (show ¬ (false = true) by decide)] at H; exact H
  simp only [Option.some.injEq, Prod.mk.injEq] at H; obtain ⟨rfl, rfl⟩ := H; go_enter Tryz.func27, Tryz.ntmps27
  go_wp2_with (first | ((with_reducible refine gate_dst (N := 4) rfl ?_); refine box_event ?hg (N := 4) ?hd (cs := #[.int .i64 a0_0, .slice A0_1 l0_1.length c0_1]) (t := 24) ?hr ?_; (case hd => rfl); (case hg => rfl); (case hr => first | (go_simp; done) | (go_simp; rfl)); intro gb421 hg w29 hbox hb; have n0_ := Aside0.mk (below_step (by repeat (with_reducible first | exact HB.out | apply below_alloc | apply pw_below_drewN | apply below_drew1)) hb); have n1_ := Aside0.mk (hbox); have n2_ := Aside0.mk ((by rw [hg]; exact (below_size (by repeat (with_reducible first | exact HB.out | apply below_alloc | apply pw_below_drewN | apply below_drew1))) : w.heap.size ≤ gb421)); have n3_ := Aside0.mk ((by rw [hg]; exact (below_size (by repeat (with_reducible first | exact HB.out | apply below_alloc | apply pw_below_drewN | apply below_drew1))) : w.heap.size ≤ gb421)); clear HB; have HB := n0_; have BK421 := n1_; have GW421 := n2_; have GE421 := n3_; clear n0_ n1_ n2_ n3_; clear hb hbox hg; have hcz30_0 : w29.cell? ⟨gb421, 0, none⟩ = some (.int .i64 a0_0) := (blk_cell BK421.out 0).trans rfl; have hcz30_1 : w29.cell? ⟨gb421, 1, none⟩ = some (.slice A0_1 l0_1.length c0_1) := (blk_cell BK421.out 1).trans rfl; have hfz30_0 := blk_frozen BK421.out 0; have hfz30_1 := blk_frozen BK421.out 1) | ((with_reducible refine gate_callee (f := 44) rfl ?_); refine goesL_ (some 13) rfl rfl Tryz.func44 (by kernel_rfl) rfl #[.agg #[.int .i64 a0_0, .slice A0_1 l0_1.length c0_1]] rfl (by (try simp only [List.map_toArray, List.map_cons, List.map_nil]); first | done | rfl | (simp only [List.length_drop, List.length_take]; rfl)) ?_; (with_reducible refine (spileref46_Right.calls k a0_0 _ _ l0_1 false _ ?side1 ?side2 A5.out).mono ?_); (case side1 => repeat (first | exact (Kd.C_below HR0_1.out HB.out) | (with_reducible refine Kd.C_alloc ?_ _) | (with_reducible refine Kd.C_drewN ?_ _) | (with_reducible refine Kd.C_drew ?_))); (case side2 => exact HC0_1.out); rintro e w31 ⟨rfl, hb⟩; refine ⟨_, rfl, ?_⟩; have n0_ := Aside0.mk (blk_below (bG BK421.out) hb); have n1_ := Aside0.mk (below_step (by repeat (with_reducible first | exact HB.out | apply below_alloc | apply pw_below_drewN | apply below_drew1 | refine below_set ?_ GE421.out)) hb); clear BK421; clear HB; have BK421 := n0_; have HB := n1_; clear n0_ n1_; (try clear hb); (try clear hb2); (try clear hk); (try clear hi)))
  go_ret2
  exact ⟨by first | rfl | (simp [errW_none, errW_some] <;> rfl) | (simp [*, errW_none, errW_some] <;> rfl), by repeat (first | (with_reducible first | exact HB.out | apply below_alloc | apply pw_below_drewN | apply below_drew1 | refine below_set ?_ GE421.out) | exact HB.out)⟩
def spilelaw46_TariffDuties.j0 : Nat → Int → Int → Int → Bool → Int → List (S26) → Option (Bool)
 | 0, _, _, _, _, _, _ => none
 | k + 1, x1, x2, x3, x19, x431000, x431001 => if x19 = true then ((spilelaw46_awake.f).bind fun t433 => (some t433)) else ((spilelaw46_cp.f x431000 x431001).bind fun bt434 => ((tariff_Duty.f k bt434.1 bt434.2 x1 x2 x3).bind fun bt438 => ((spileref46_Duty.f k x431000 x431001 x1 x2 x3).bind fun bt440 => (if bt438.1 = bt440.1 then (some (bt438.2 == bt440.2)) else (some false)))))
def spilelaw46_TariffDuties.f (k : Nat) (a0_0 : Int) (l0_1 : List (S26)) (a1 : Int) (a2 : Int) (a3 : Int) : Option (Bool) := (spilelaw46_awake.f).bind fun t431 => (if t431 = true then ((spileref46_Few.f a0_0 l0_1).bind fun t432 => (spilelaw46_TariffDuties.j0 k a1 a2 a3 (!t432) a0_0 l0_1)) else (spilelaw46_TariffDuties.j0 k a1 a2 a3 true a0_0 l0_1))
set_option maxHeartbeats 8000000 in
set_option maxRecDepth 100000 in
theorem spilelaw46_TariffDuties.calls (k : Nat) (a0_0 : Int) (A0_1 : Option Addr) (c0_1 : Nat) (l0_1 : List (S26)) (a1 : Int) (a2 : Int) (a3 : Int) (r : Bool) (w : World) (hr0_1 : Kd.C k26 w A0_1 l0_1.length l0_1) (hc0_1 : l0_1.length ≤ c0_1) (hG : GI w) (hr_ : r = true) (h : spilelaw46_TariffDuties.f k a0_0 l0_1 a1 a2 a3 = some r) :
  Calls Tryz.prog 5 #[.agg #[.int .i64 a0_0, .slice A0_1 l0_1.length c0_1], .int .i64 a1, .int .i64 a2, .int .i64 a3] w fun e w' => e = .returned (.bool r) ∧ Below w.heap.size w w' := by
 have hu24 := Tryz.underlying24; have HR0_1 := Aside0.mk hr0_1; have HC0_1 := Aside0.mk hc0_1; clear hr0_1 hc0_1; have HG := Aside0.mk hG; clear hG; have HB := Aside0.mk (Below.refl w.heap.size w); have H : ((spilelaw46_awake.f).bind fun t431 => (if t431 = true then ((spileref46_Few.f a0_0 l0_1).bind fun t432 => (spilelaw46_TariffDuties.j0 k a1 a2 a3 (!t432) a0_0 l0_1)) else (spilelaw46_TariffDuties.j0 k a1 a2 a3 true a0_0 l0_1))) = some r := h; clear h; have HC5 := Aside0.mk H; clear H; go_enter Tryz.func5, Tryz.ntmps5
 go_upto_region 1 with (first | ((with_reducible refine gate_dst (N := 4) rfl ?_); refine box_event ?hg (N := 4) ?hd (cs := #[.int .i64 a0_0, .slice A0_1 l0_1.length c0_1]) (t := 24) ?hr ?_; (case hd => rfl); (case hg => rfl); (case hr => first | (go_simp; done) | (go_simp; rfl)); intro gb430 hg w6 hbox hb; have n0_ := Aside0.mk (below_step (by repeat (with_reducible first | exact HB.out | apply below_alloc | apply pw_below_drewN | apply below_drew1)) hb); have n1_ := Aside0.mk (hbox); have n2_ := Aside0.mk ((by rw [hg]; exact (below_size (by repeat (with_reducible first | exact HB.out | apply below_alloc | apply pw_below_drewN | apply below_drew1))) : w.heap.size ≤ gb430)); have n3_ := Aside0.mk ((by rw [hg]; exact (below_size (by repeat (with_reducible first | exact HB.out | apply below_alloc | apply pw_below_drewN | apply below_drew1))) : w.heap.size ≤ gb430)); clear HB; have HB := n0_; have BK430 := n1_; have GW430 := n2_; have GE430 := n3_; clear n0_ n1_ n2_ n3_; clear hb hbox hg))
 (try simp only [Act.put, sIA, sC0, sCS])
 go_cut [19] (fun v19 wc => ∃ (kq : Nat) (x19_4 : Bool), v19 = .bool x19_4 ∧ Aside0 (spilelaw46_TariffDuties.j0 kq a1 a2 a3 x19_4 a0_0 l0_1 = some r) ∧ Aside0 (kq ≤ k) ∧ Aside0 (wc.heap[gb430]? = some (.cells #[.int .i64 a0_0, (.slice A0_1 l0_1.length c0_1)] 24 (0, 0))) ∧ Aside0 (Below w.heap.size w wc))
 case first =>
  have H := HC5.out; clear HC5; replace H := Option.bind_eq_some_iff.mp H; obtain ⟨t431, A70, H⟩ := H; replace H : (if t431 = true then ((spileref46_Few.f a0_0 l0_1).bind fun t432 => (spilelaw46_TariffDuties.j0 k a1 a2 a3 (!t432) a0_0 l0_1)) else (spilelaw46_TariffDuties.j0 k a1 a2 a3 true a0_0 l0_1)) = some r := H; have A7 := Aside0.mk A70; clear A70; by_cases c8 : t431 = true
  ·
   subst c8; replace H : ((spileref46_Few.f a0_0 l0_1).bind fun t432 => (spilelaw46_TariffDuties.j0 k a1 a2 a3 (!t432) a0_0 l0_1)) = some r := by rw [if_pos rfl] at H; exact H
   replace H := Option.bind_eq_some_iff.mp H; obtain ⟨t432, A90, H⟩ := H; replace H : (spilelaw46_TariffDuties.j0 k a1 a2 a3 (!t432) a0_0 l0_1) = some r := H; have A9 := Aside0.mk A90; clear A90; have H' := Aside0.mk H; clear H; go_wp2_with (first | ((with_reducible refine gate_callee (f := 11) rfl ?_); refine goesL_ (some 13) rfl rfl Tryz.func11 (by kernel_rfl) rfl #[] rfl (by (try simp only [List.map_toArray, List.map_cons, List.map_nil]); first | done | rfl | (simp only [List.length_drop, List.length_take]; rfl)) ?_; (with_reducible refine (spilelaw46_awake.calls  true _ ?side1 A7.out).mono ?_); (case side1 => exact GI.below HG.out (by repeat (with_reducible first | exact HB.out | apply below_alloc | apply pw_below_drewN | apply below_drew1 | refine below_set ?_ GE430.out))); rintro e w10 ⟨rfl, hb⟩; refine ⟨_, rfl, ?_⟩; have n0_ := Aside0.mk (blk_below (bG BK430.out) hb); have n1_ := Aside0.mk (below_step (by repeat (with_reducible first | exact HB.out | apply below_alloc | apply pw_below_drewN | apply below_drew1 | refine below_set ?_ GE430.out)) hb); clear BK430; clear HB; have BK430 := n0_; have HB := n1_; clear n0_ n1_; (try clear hb); (try clear hb2); (try clear hk); (try clear hi); have hcz11_0 : w10.cell? ⟨gb430, 0, none⟩ = some (.int .i64 a0_0) := (blk_cell BK430.out 0).trans rfl; have hcz11_1 : w10.cell? ⟨gb430, 1, none⟩ = some (.slice A0_1 l0_1.length c0_1) := (blk_cell BK430.out 1).trans rfl; have hfz11_0 := blk_frozen BK430.out 0; have hfz11_1 := blk_frozen BK430.out 1) | (go_at_call 12; (with_reducible refine (spileref46_Few.calls a0_0 _ _ l0_1 t432 _ ?side1 ?side2 A9.out).mono ?_); (case side1 => repeat (first | exact (Kd.C_below HR0_1.out HB.out) | (with_reducible refine Kd.C_alloc ?_ _) | (with_reducible refine Kd.C_drewN ?_ _) | (with_reducible refine Kd.C_drew ?_))); (case side2 => exact HC0_1.out); rintro e w12 ⟨rfl, hb⟩; have n0_ := Aside0.mk (blk_below (bG BK430.out) hb); have n1_ := Aside0.mk (below_step (by repeat (with_reducible first | exact HB.out | apply below_alloc | apply pw_below_drewN | apply below_drew1 | refine below_set ?_ GE430.out)) hb); clear BK430; clear HB; have BK430 := n0_; have HB := n1_; clear n0_ n1_; (try clear hb); (try clear hb2); (try clear hk); (try clear hi)))
   go_meet
   case rel => exact ⟨_, (!t432), (by first | rfl | (simp; done) | (simp [*]; done)), H', ⟨by first | omega | exact Nat.le_refl _⟩, ⟨by (with_reducible repeat (first | refine blk_drewN ?_ _ | refine blk_drew ?_ | refine blk_alloc ?_ _)); exact BK430.out⟩, ⟨by repeat (first | (with_reducible first | exact HB.out | apply below_alloc | apply pw_below_drewN | apply below_drew1 | refine below_set ?_ GE430.out) | exact HB.out)⟩⟩
  ·
   replace c8 := Bool.eq_false_iff.mpr c8; subst c8; replace H : (spilelaw46_TariffDuties.j0 k a1 a2 a3 true a0_0 l0_1) = some r := by rw [if_neg (show ¬ (false = true) by decide)] at H; exact H
   have H' := Aside0.mk H; clear H; go_wp2_with (first | ((with_reducible refine gate_callee (f := 11) rfl ?_); refine goesL_ (some 13) rfl rfl Tryz.func11 (by kernel_rfl) rfl #[] rfl (by (try simp only [List.map_toArray, List.map_cons, List.map_nil]); first | done | rfl | (simp only [List.length_drop, List.length_take]; rfl)) ?_; (with_reducible refine (spilelaw46_awake.calls  false _ ?side1 A7.out).mono ?_); (case side1 => exact GI.below HG.out (by repeat (with_reducible first | exact HB.out | apply below_alloc | apply pw_below_drewN | apply below_drew1 | refine below_set ?_ GE430.out))); rintro e w13 ⟨rfl, hb⟩; refine ⟨_, rfl, ?_⟩; have n0_ := Aside0.mk (blk_below (bG BK430.out) hb); have n1_ := Aside0.mk (below_step (by repeat (with_reducible first | exact HB.out | apply below_alloc | apply pw_below_drewN | apply below_drew1 | refine below_set ?_ GE430.out)) hb); clear BK430; clear HB; have BK430 := n0_; have HB := n1_; clear n0_ n1_; (try clear hb); (try clear hb2); (try clear hk); (try clear hi)))
   go_meet
   case rel => exact ⟨_, (true), (by first | rfl | (simp; done) | (simp [*]; done)), H', ⟨by first | omega | exact Nat.le_refl _⟩, ⟨by (with_reducible repeat (first | refine blk_drewN ?_ _ | refine blk_drew ?_ | refine blk_alloc ?_ _)); exact BK430.out⟩, ⟨by repeat (first | (with_reducible first | exact HB.out | apply below_alloc | apply pw_below_drewN | apply below_drew1 | refine below_set ?_ GE430.out) | exact HB.out)⟩⟩
 case rest =>
  clear HC5; repeat first | clear c1 | clear p2 | clear c5 | clear c8 | clear c11 | clear hcz11_0 | clear hcz11_1 | clear hfz11_0 | clear hfz11_1
  obtain ⟨kq, x19_4, rfl, HA, HJ4, BK430, HB⟩ := hcut
  cases kq with
  | zero => exact absurd HA.out (by simp [spilelaw46_TariffDuties.j0])
  | succ kj4 =>
   have H := HA.out; clear HA; simp only [spilelaw46_TariffDuties.j0] at H; by_cases c14 : x19_4 = true
   ·
    subst c14; replace H : ((spilelaw46_awake.f).bind fun t433 => (some t433)) = some r := by rw [if_pos rfl] at H; exact H
    replace H := Option.bind_eq_some_iff.mp H; obtain ⟨t433, A150, H⟩ := H; replace H : (some t433) = some r := H; have A15 := Aside0.mk A150; clear A150; obtain rfl := Option.some.inj H; go_wp2_with (first | ((with_reducible refine gate_callee (f := 11) rfl ?_); refine goesL_ (some 20) rfl rfl Tryz.func11 (by kernel_rfl) rfl #[] rfl (by (try simp only [List.map_toArray, List.map_cons, List.map_nil]); first | done | rfl | (simp only [List.length_drop, List.length_take]; rfl)) ?_; (with_reducible refine (spilelaw46_awake.calls  t433 _ ?side1 A15.out).mono ?_); (case side1 => exact GI.below HG.out (by repeat (with_reducible first | exact HB.out | apply below_alloc | apply pw_below_drewN | apply below_drew1 | refine below_set ?_ GE430.out))); rintro e w16 ⟨rfl, hb⟩; refine ⟨_, rfl, ?_⟩; have n0_ := Aside0.mk (blk_below (bG BK430.out) hb); have n1_ := Aside0.mk (below_step (by repeat (with_reducible first | exact HB.out | apply below_alloc | apply pw_below_drewN | apply below_drew1 | refine below_set ?_ GE430.out)) hb); clear BK430; clear HB; have BK430 := n0_; have HB := n1_; clear n0_ n1_; (try clear hb); (try clear hb2); (try clear hk); (try clear hi)))
    go_ret
    exact ⟨by first | rfl | (simp [errW_none, errW_some] <;> rfl) | (simp [*, errW_none, errW_some] <;> rfl), by repeat (first | (with_reducible first | exact HB.out | apply below_alloc | apply pw_below_drewN | apply below_drew1 | refine below_set ?_ GE430.out) | exact HB.out)⟩
   ·
    replace c14 := Bool.eq_false_iff.mpr c14; subst c14; replace H : ((spilelaw46_cp.f a0_0 l0_1).bind fun bt434 => ((tariff_Duty.f kj4 bt434.1 bt434.2 a1 a2 a3).bind fun bt438 => ((spileref46_Duty.f kj4 a0_0 l0_1 a1 a2 a3).bind fun bt440 => (if bt438.1 = bt440.1 then (some (bt438.2 == bt440.2)) else (some false))))) = some r := by rw [if_neg (show ¬ (false = true) by decide)] at H; exact H
    replace H := Option.bind_eq_some_iff.mp H; obtain ⟨⟨t434, t435⟩, A170, H⟩ := H; replace H : ((tariff_Duty.f kj4 t434 t435 a1 a2 a3).bind fun bt438 => ((spileref46_Duty.f kj4 a0_0 l0_1 a1 a2 a3).bind fun bt440 => (if bt438.1 = bt440.1 then (some (bt438.2 == bt440.2)) else (some false)))) = some r := H; have A17 := Aside0.mk A170; clear A170; replace H := Option.bind_eq_some_iff.mp H; obtain ⟨⟨t438, t439⟩, A180, H⟩ := H; replace H : ((spileref46_Duty.f kj4 a0_0 l0_1 a1 a2 a3).bind fun bt440 => (if t438 = bt440.1 then (some (t439 == bt440.2)) else (some false))) = some r := H; have A18 := Aside0.mk A180; clear A180; replace H := Option.bind_eq_some_iff.mp H; obtain ⟨⟨t440, t441⟩, A190, H⟩ := H; replace H : (if t438 = t440 then (some (t439 == t441)) else (some false)) = some r := H; have A19 := Aside0.mk A190; clear A190; by_cases c20 : t438 = t440
    ·
     rw [if_pos c20] at H; have c20b0 : (t438 == t440) = true := beq_iff_eq.mpr c20; have c20b1 : (t438 != t440) = false := bne_eq_false_iff_eq.mpr c20; clear c20; obtain rfl := Option.some.inj H; have hcz21_0 : wc.cell? ⟨gb430, 0, none⟩ = some (.int .i64 a0_0) := (blk_cell BK430.out 0).trans rfl; have hcz21_1 : wc.cell? ⟨gb430, 1, none⟩ = some (.slice A0_1 l0_1.length c0_1) := (blk_cell BK430.out 1).trans rfl; have hfz21_0 := blk_frozen BK430.out 0; have hfz21_1 := blk_frozen BK430.out 1; go_wp2_with (first | ((with_reducible refine gate_callee (f := 14) rfl ?_); refine goesL_ (some 23) rfl rfl Tryz.func14 (by kernel_rfl) rfl #[.agg #[.int .i64 a0_0, .slice A0_1 l0_1.length c0_1]] rfl (by (try simp only [List.map_toArray, List.map_cons, List.map_nil]); first | done | rfl | (simp only [List.length_drop, List.length_take]; rfl)) ?_; (with_reducible refine (spilelaw46_cp.calls a0_0 _ _ l0_1 t434 t435 _ ?side1 ?side2 A17.out).mono ?_); (case side1 => repeat (first | exact (Kd.C_below HR0_1.out HB.out) | (with_reducible refine Kd.C_alloc ?_ _) | (with_reducible refine Kd.C_drewN ?_ _) | (with_reducible refine Kd.C_drew ?_))); (case side2 => exact HC0_1.out); rintro e w22 ⟨v436, rfl, ho0, hb⟩; refine ⟨_, rfl, ?_⟩; have n0_ := Aside0.mk (Kd.R_lower ho0 (below_size (by repeat (with_reducible first | exact HB.out | apply below_alloc | apply pw_below_drewN | apply below_drew1 | refine below_set ?_ GE430.out)))); have n1_ := Aside0.mk (blk_below (bG BK430.out) hb); have n2_ := Aside0.mk (below_step (by repeat (with_reducible first | exact HB.out | apply below_alloc | apply pw_below_drewN | apply below_drew1 | refine below_set ?_ GE430.out)) hb); clear BK430; clear HB; have HO437 := n0_; have BK430 := n1_; have HB := n2_; clear n0_ n1_ n2_; (try clear hb); (try clear hb2); (try clear hk); (try clear hi); (try clear ho0); obtain ⟨Ao23, co23, eo23⟩ := Kd.R_slice HO437.out; subst eo23) | ((with_reducible refine gate_callee (f := 26) rfl ?_); refine goesL_ (some 27) rfl rfl Tryz.func26 (by kernel_rfl) rfl #[.agg #[.int .i64 t434, .slice Ao23 t435.length co23], .int .i64 a1, .int .i64 a2, .int .i64 a3] rfl (by (try simp only [List.map_toArray, List.map_cons, List.map_nil]); first | done | rfl | (simp only [List.length_drop, List.length_take]; rfl)) ?_; (with_reducible refine (tariff_Duty.calls kj4 t434 _ _ t435 a1 a2 a3 t438 t439 _ ?side1 ?side2 A18.out).mono ?_); (case side1 => repeat (first | exact (Kd.R_reads' HO437.out).2.2 | (with_reducible refine Kd.C_alloc ?_ _) | (with_reducible refine Kd.C_drewN ?_ _) | (with_reducible refine Kd.C_drew ?_))); (case side2 => exact (Kd.R_reads' HO437.out).2.1); rintro e w24 ⟨rfl, hb⟩; refine ⟨_, rfl, ?_⟩; have n0_ := Aside0.mk (Kd.R_below (rG HO437.out) hb); have n1_ := Aside0.mk (blk_below (bG BK430.out) hb); have n2_ := Aside0.mk (below_step (by repeat (with_reducible first | exact HB.out | apply below_alloc | apply pw_below_drewN | apply below_drew1 | refine below_set ?_ GE430.out)) hb); clear HO437; clear BK430; clear HB; have HO437 := n0_; have BK430 := n1_; have HB := n2_; clear n0_ n1_ n2_; (try clear hb); (try clear hb2); (try clear hk); (try clear hi); have hcz25_0 : w24.cell? ⟨gb430, 0, none⟩ = some (.int .i64 a0_0) := (blk_cell BK430.out 0).trans rfl; have hcz25_1 : w24.cell? ⟨gb430, 1, none⟩ = some (.slice A0_1 l0_1.length c0_1) := (blk_cell BK430.out 1).trans rfl; have hfz25_0 := blk_frozen BK430.out 0; have hfz25_1 := blk_frozen BK430.out 1) | ((with_reducible refine gate_callee (f := 27) rfl ?_); refine goesL_ (some 35) rfl rfl Tryz.func27 (by kernel_rfl) rfl #[.agg #[.int .i64 a0_0, .slice A0_1 l0_1.length c0_1], .int .i64 a1, .int .i64 a2, .int .i64 a3] rfl (by (try simp only [List.map_toArray, List.map_cons, List.map_nil]); first | done | rfl | (simp only [List.length_drop, List.length_take]; rfl)) ?_; (with_reducible refine (spileref46_Duty.calls kj4 a0_0 _ _ l0_1 a1 a2 a3 t440 t441 _ ?side1 ?side2 A19.out).mono ?_); (case side1 => repeat (first | exact (Kd.C_below HR0_1.out HB.out) | (with_reducible refine Kd.C_alloc ?_ _) | (with_reducible refine Kd.C_drewN ?_ _) | (with_reducible refine Kd.C_drew ?_))); (case side2 => exact HC0_1.out); rintro e w26 ⟨rfl, hb⟩; refine ⟨_, rfl, ?_⟩; have n0_ := Aside0.mk (Kd.R_below (rG HO437.out) hb); have n1_ := Aside0.mk (blk_below (bG BK430.out) hb); have n2_ := Aside0.mk (below_step (by repeat (with_reducible first | exact HB.out | apply below_alloc | apply pw_below_drewN | apply below_drew1 | refine below_set ?_ GE430.out)) hb); clear HO437; clear BK430; clear HB; have HO437 := n0_; have BK430 := n1_; have HB := n2_; clear n0_ n1_ n2_; (try clear hb); (try clear hb2); (try clear hk); (try clear hi)))
     go_ret
     exact ⟨by first | rfl | (simp [errW_none, errW_some] <;> rfl) | (simp [*, errW_none, errW_some] <;> rfl), by repeat (first | (with_reducible first | exact HB.out | apply below_alloc | apply pw_below_drewN | apply below_drew1 | refine below_set ?_ GE430.out) | exact HB.out)⟩
    · rw [if_neg c20] at H; have c20b0 : (t438 == t440) = false := beq_eq_false_iff_ne.mpr c20; have c20b1 : (t438 != t440) = true := bne_iff_ne.mpr c20; subst hr_; exact absurd H (by simp)
end Go.Proofs.YtholbmidciapdaaGreatDoor.Pr
namespace Go.Proofs.YtholbmidciapdaaGreatDoor.Pr
open Go.RowKit Go.Proofs.YtholbmidciapdaaGreatDoorW.PrintWords Go.Proofs.YtholbmidciapdaaGreatDoorW.PrintLast Go.Proofs.YtholbmidciapdaaGreatDoorW.PrintMore Go.Proofs.YtholbmidciapdaaGreatDoor.X
attribute [local go_sem] max2_int min2_int max_two min_two max_three min_three max_four min_four   -- for this text's walks alone
set_option linter.unusedVariables false
set_option linter.unusedSimpArgs false
def bits_Mul64.f (a0 : Int) (a1 : Int) : Option (Int × Int) := some (IntKind.u64.wrap ((IntKind.u64.wrap ((IntKind.u64.wrap ((a0 / 4294967296) * (a1 / 4294967296))) + ((IntKind.u64.wrap ((IntKind.u64.wrap ((a0 / 4294967296) * (Go.bits .and .u64 a1 4294967295))) + ((IntKind.u64.wrap ((Go.bits .and .u64 a0 4294967295) * (Go.bits .and .u64 a1 4294967295))) / 4294967296))) / 4294967296))) + ((IntKind.u64.wrap ((Go.bits .and .u64 (IntKind.u64.wrap ((IntKind.u64.wrap ((a0 / 4294967296) * (Go.bits .and .u64 a1 4294967295))) + ((IntKind.u64.wrap ((Go.bits .and .u64 a0 4294967295) * (Go.bits .and .u64 a1 4294967295))) / 4294967296))) 4294967295) + (IntKind.u64.wrap ((Go.bits .and .u64 a0 4294967295) * (a1 / 4294967296))))) / 4294967296)), IntKind.u64.wrap (a0 * a1))
end Go.Proofs.YtholbmidciapdaaGreatDoor.Pr
namespace Go.Proofs.YtholbmidciapdaaGreatDoor.Opn
open Go Go.RowKit Go.Proofs.YtholbmidciapdaaGreatDoorW.PrintWords Go.Proofs.YtholbmidciapdaaGreatDoor.O Go.Proofs.YtholbmidciapdaaGreatDoor.Pr
theorem opens3 : Opens Tryz.prog 3 (Kd.int .i64) (fun x => (Lit.int .i64 x).wf = true) := opens_int Tryz.underlying3 (by kernel_rfl)
def ok26 (x : S26) : Prop := (Lit.int .i64 x.f0).wf = true ∧ (Lit.int .i64 x.f1).wf = true ∧ (Lit.int .i64 x.f2).wf = true
theorem opens26 : Opens Tryz.prog 26 k26 ok26 :=
  ⟨by kernel_rfl, fun H enc w base sp held fuel cs x h => by
    obtain ⟨xs, n, _, _, hl, hx, hf⟩ := DataW.trod_struct Tryz.underlying26 h
    have hc_ : Tryz.prog.cellsOf 26 = 3 := by kernel_rfl
    rw [hc_] at hl
    obtain ⟨c0, c1, c2, rfl⟩ : ∃ c0 c1 c2, cs = [c0, c1, c2] := by
      clear h hf hx
      rcases cs with _ | ⟨c0, _ | ⟨c1, _ | ⟨c2, _ | ⟨_, _⟩⟩⟩⟩
      all_goals first | exact ⟨_, _, _, rfl⟩ | (simp at hl)
    obtain ⟨y0, hy0⟩ : ∃ y, xs[0]? = some y := ⟨xs[0]'(by rw [hx]; decide), List.getElem?_eq_getElem _⟩
    have e0 : DataW.trod enc Tryz.prog w base sp held n 3 ((List.drop 0 [c0, c1, c2]).take (Tryz.prog.cellsOf 3)) = xs[0]? := hf 0 _ rfl
    rw [hy0, show Tryz.prog.cellsOf 3 = 1 from by kernel_rfl] at e0
    obtain ⟨v0, K0, o0⟩ := opens3.2 H enc w base sp held n _ _ e0
    replace K0 : (Kd.int .i64).K w v0 [c0] := K0
    obtain ⟨y1, hy1⟩ : ∃ y, xs[1]? = some y := ⟨xs[1]'(by rw [hx]; decide), List.getElem?_eq_getElem _⟩
    have e1 : DataW.trod enc Tryz.prog w base sp held n 3 ((List.drop 1 [c0, c1, c2]).take (Tryz.prog.cellsOf 3)) = xs[1]? := hf 1 _ rfl
    rw [hy1, show Tryz.prog.cellsOf 3 = 1 from by kernel_rfl] at e1
    obtain ⟨v1, K1, o1⟩ := opens3.2 H enc w base sp held n _ _ e1
    replace K1 : (Kd.int .i64).K w v1 [c1] := K1
    obtain ⟨y2, hy2⟩ : ∃ y, xs[2]? = some y := ⟨xs[2]'(by rw [hx]; decide), List.getElem?_eq_getElem _⟩
    have e2 : DataW.trod enc Tryz.prog w base sp held n 3 ((List.drop 2 [c0, c1, c2]).take (Tryz.prog.cellsOf 3)) = xs[2]? := hf 2 _ rfl
    rw [hy2, show Tryz.prog.cellsOf 3 = 1 from by kernel_rfl] at e2
    obtain ⟨v2, K2, o2⟩ := opens3.2 H enc w base sp held n _ _ e2
    replace K2 : (Kd.int .i64).K w v2 [c2] := K2
    obtain rfl : c0 = _ := List.singleton_inj.1 K0
    obtain rfl : c1 = _ := List.singleton_inj.1 K1
    obtain rfl : c2 = _ := List.singleton_inj.1 K2
    refine ⟨⟨v0, v1, v2⟩, ?_, o0, o1, o2⟩
    exact k26_mk w ⟨v0, v1, v2⟩ ⟩
theorem opens22 : Opens Tryz.prog 22 (Kd.slice 26 k26) (fun x => (x.length ≤ maxLen ∧ ∀ x0_, x0_ ∈ x → ok26 x0_)) := opens_slice (P := Tryz.prog) (t := 22) (e := 26) Tryz.underlying22 (by kernel_rfl) opens26
def ok24 (x : S24) : Prop := (Lit.int .i64 x.f0).wf = true ∧ (x.f1.length ≤ maxLen ∧ ∀ x0_, x0_ ∈ x.f1 → ok26 x0_)
theorem opens24 : Opens Tryz.prog 24 k24 ok24 :=
  ⟨by kernel_rfl, fun H enc w base sp held fuel cs x h => by
    obtain ⟨xs, n, _, _, hl, hx, hf⟩ := DataW.trod_struct Tryz.underlying24 h
    have hc_ : Tryz.prog.cellsOf 24 = 2 := by kernel_rfl
    rw [hc_] at hl
    obtain ⟨c0, c1, rfl⟩ : ∃ c0 c1, cs = [c0, c1] := by
      clear h hf hx
      rcases cs with _ | ⟨c0, _ | ⟨c1, _ | ⟨_, _⟩⟩⟩
      all_goals first | exact ⟨_, _, rfl⟩ | (simp at hl)
    obtain ⟨y0, hy0⟩ : ∃ y, xs[0]? = some y := ⟨xs[0]'(by rw [hx]; decide), List.getElem?_eq_getElem _⟩
    have e0 : DataW.trod enc Tryz.prog w base sp held n 3 ((List.drop 0 [c0, c1]).take (Tryz.prog.cellsOf 3)) = xs[0]? := hf 0 _ rfl
    rw [hy0, show Tryz.prog.cellsOf 3 = 1 from by kernel_rfl] at e0
    obtain ⟨v0, K0, o0⟩ := opens3.2 H enc w base sp held n _ _ e0
    replace K0 : (Kd.int .i64).K w v0 [c0] := K0
    obtain ⟨y1, hy1⟩ : ∃ y, xs[1]? = some y := ⟨xs[1]'(by rw [hx]; decide), List.getElem?_eq_getElem _⟩
    have e1 : DataW.trod enc Tryz.prog w base sp held n 22 ((List.drop 1 [c0, c1]).take (Tryz.prog.cellsOf 22)) = xs[1]? := hf 1 _ rfl
    rw [hy1, show Tryz.prog.cellsOf 22 = 1 from by kernel_rfl] at e1
    obtain ⟨v1, K1, o1⟩ := opens22.2 H enc w base sp held n _ _ e1
    replace K1 : (Kd.slice 26 k26).K w v1 [c1] := K1
    obtain rfl : c0 = _ := List.singleton_inj.1 K0
    obtain ⟨A1, q1, w1, m1, g1⟩ := K1
    obtain rfl : c1 = _ := List.singleton_inj.1 w1
    refine ⟨⟨v0, v1⟩, ?_, o0, o1⟩
    exact k24_mk w ⟨v0, v1⟩ m1 g1⟩
end Go.Proofs.YtholbmidciapdaaGreatDoor.Opn
namespace Go.Proofs.YtholbmidciapdaaGreatDoor.Pure
open Go Go.RowKit Go.Proofs.YtholbmidciapdaaGreatDoor.Pr Go.Proofs.YtholbmidciapdaaGreatDoor.Opn
def tariffDutiesPure : Prop := ∀ (a0_0 : Int) (l0_1 : (List S26)) (a1 : Int) (a2 : Int) (a3 : Int), (Lit.int .i64 a0_0).wf = true → (l0_1.length ≤ maxLen ∧ ∀ x0_, x0_ ∈ l0_1 → ok26 x0_) → (Lit.int .i64 a1).wf = true → (Lit.int .i64 a2).wf = true → (Lit.int .i64 a3).wf = true → ∃ k, spilelaw46_TariffDuties.f k a0_0 l0_1 a1 a2 a3 = some true
end Go.Proofs.YtholbmidciapdaaGreatDoor.Pure
namespace Go.Proofs.YtholbmidciapdaaGreatDoor.PL
open Go Go.RowKit Go.Proofs.YtholbmidciapdaaGreatDoorW.PrintWords Go.Proofs.YtholbmidciapdaaGreatDoorW.PrintLast Go.Proofs.YtholbmidciapdaaGreatDoorW.PrintMore
theorem evp {α : Type} {c : Prop} [Decidable c] {g h : Nat → Option α} {r : α} (hc : c) (k : Ev g r) : Ev (fun n => if c then g n else h n) r :=
  Ev.congr (fun n => if_pos hc) k
theorem evn {α : Type} {c : Prop} [Decidable c] {g h : Nat → Option α} {r : α} (hc : ¬ c) (k : Ev h r) : Ev (fun n => if c then g n else h n) r :=
  Ev.congr (fun n => if_neg hc) k
theorem evb {α β : Type} {g : Nat → Option α} {f : Nat → α → Option β} {a : α} {r : β} (h : Ev g a) (k : Ev (fun n => f n a) r) : Ev (fun n => (g n).bind (f n)) r := Ev.bind h k
theorem evr {α : Type} {a r : α} (h : a = r) : Ev (fun _ => some a) r := by subst h; exact Ev.now _
theorem evc {α : Type} {g : Nat → Option α} {r : α} {o : Option α} (hg : ∀ n, g n = o) (h : o = some r) : Ev g r := by
  subst h
  exact Ev.congr hg (Ev.now _)
/-- A loop that counts upwards to n. -/
theorem count_up (a n : Int) (P : Int → Prop) (hend : P n) (hround : ∀ i, a ≤ i → i < n → P (i + 1) → P i) : ∀ i, a ≤ i → i ≤ n → P i := by
  intro i h0 h1
  obtain ⟨d, hd⟩ : ∃ d : Nat, n - i = d := ⟨(n - i).toNat, by omega⟩
  induction d generalizing i with
  | zero =>
    obtain rfl : i = n := by omega
    exact hend
  | succ d ih => exact hround i h0 (by omega) (ih (i + 1) (by omega) (by omega) (by omega))
theorem w64 {x : Int} (h0 : -9223372036854775808 ≤ x) (h1 : x ≤ 9223372036854775807) : wrap64 x = x := by
  unfold wrap64
  omega
theorem w64_succ {i n : Int} (h0 : 0 ≤ i) (h : i < n) (hn : n ≤ 9223372036854775807) : wrap64 (i + 1) = i + 1 := w64 (by omega) (by omega)
theorem w64_pred {i n : Int} (h0 : 0 ≤ i) (h : i ≤ n) (hn : n ≤ 9223372036854775807) : wrap64 (i - 1) = i - 1 := w64 (by omega) (by omega)
/-- A test that comes to true where P holds, and else to false. -/
def EvB (g : Nat → Option Bool) (P : Prop) : Prop := (P → Ev g true) ∧ (¬ P → Ev g false)
theorem EvB.map {g : Nat → Option Bool} {f : Nat → Bool → Option Bool} {P Q : Prop} (h : EvB g P) (ht : P → EvB (fun n => f n true) Q) (hf : ¬ P → EvB (fun n => f n false) Q) : EvB (fun n => (g n).bind (f n)) Q := by
  by_cases hp : P
  · exact ⟨fun q => Ev.bind (h.1 hp) ((ht hp).1 q), fun q => Ev.bind (h.1 hp) ((ht hp).2 q)⟩
  · exact ⟨fun q => Ev.bind (h.2 hp) ((hf hp).1 q), fun q => Ev.bind (h.2 hp) ((hf hp).2 q)⟩
theorem mulb {x y X Y : Int} (h0 : 0 ≤ x) (h1 : x ≤ X) (k0 : 0 ≤ y) (k1 : y ≤ Y) : 0 ≤ x * y ∧ x * y ≤ X * Y :=
  ⟨Int.mul_nonneg h0 k0, Int.mul_le_mul h1 k1 k0 (Int.le_trans h0 h1)⟩
end Go.Proofs.YtholbmidciapdaaGreatDoor.PL
namespace Go.Proofs.YtholbmidciapdaaGreatDoor.PL
open Go Go.RowKit Go.Proofs.YtholbmidciapdaaGreatDoorW.PrintWords Go.Proofs.YtholbmidciapdaaGreatDoorW.PrintLast Go.Proofs.YtholbmidciapdaaGreatDoorW.PrintMore Go.Proofs.YtholbmidciapdaaGreatDoor.Pr
def Lt26 (a b : S26) : Prop := a.f0 < b.f0 ∨ (a.f0 = b.f0 ∧ a.f1 < b.f1)
instance (a b : S26) : Decidable (Lt26 a b) := by unfold Lt26; infer_instance
def Key26 (a b : S26) : Prop := a.f0 = b.f0 ∧ a.f1 = b.f1
instance (a b : S26) : Decidable (Key26 a b) := by unfold Key26; infer_instance
def Hit (c d : Int) (x : S26) : Prop := x.f0 = c ∧ x.f1 ≤ d
instance (c d : Int) (x : S26) : Decidable (Hit c d x) := by unfold Hit; infer_instance
abbrev Srt (l : List S26) : Prop := l.Pairwise Lt26
/-- The last one that is in force. -/
def frc (c d : Int) : List S26 → S26 × Bool → S26 × Bool
  | [], s => s
  | x :: r, s => frc c d r (if Hit c d x then (x, true) else s)
theorem frc_spec (c d : Int) : ∀ (l : List S26) (s : S26 × Bool), Srt l → ((∀ x, x ∈ l → ¬ Hit c d x) ∧ frc c d l s = s) ∨ (∃ x, x ∈ l ∧ Hit c d x ∧ frc c d l s = (x, true) ∧ ∀ y, y ∈ l → Hit c d y → y.f1 ≤ x.f1)
  | [], s, _ => .inl ⟨fun x h => absurd h (by simp), rfl⟩
  | x :: r, s, hs => by
    obtain ⟨h1, h2⟩ := List.pairwise_cons.1 hs
    by_cases c1 : Hit c d x
    · rcases frc_spec c d r (x, true) h2 with ⟨q1, q2⟩ | ⟨y, y1, y2, y3, y4⟩
      · refine .inr ⟨x, by simp, c1, ?_, fun y hy hh => ?_⟩
        · show frc c d r (if Hit c d x then (x, true) else s) = _
          rw [if_pos c1]; exact q2
        · rcases List.mem_cons.1 hy with rfl | hy
          · exact Int.le_refl _
          · exact absurd hh (q1 y hy)
      · refine .inr ⟨y, by simp [y1], y2, ?_, fun z hz hh => ?_⟩
        · show frc c d r (if Hit c d x then (x, true) else s) = _
          rw [if_pos c1]; exact y3
        · rcases List.mem_cons.1 hz with rfl | hz
          · have := h1 y y1
            unfold Lt26 at this
            have a := c1.1
            have b := y2.1
            omega
          · exact y4 z hz hh
    · rcases frc_spec c d r s h2 with ⟨q1, q2⟩ | ⟨y, y1, y2, y3, y4⟩
      · refine .inl ⟨fun y hy => ?_, ?_⟩
        · rcases List.mem_cons.1 hy with rfl | hy
          · exact c1
          · exact q1 y hy
        · show frc c d r (if Hit c d x then (x, true) else s) = _
          rw [if_neg c1]; exact q2
      · refine .inr ⟨y, by simp [y1], y2, ?_, fun z hz hh => ?_⟩
        · show frc c d r (if Hit c d x then (x, true) else s) = _
          rw [if_neg c1]; exact y3
        · rcases List.mem_cons.1 hz with rfl | hz
          · exact absurd hh c1
          · exact y4 z hz hh
/-- The greatest one of some days: behind lo, or from lo on. -/
def Mst (strict : Bool) (c lo hi : Int) (s : S26 × Bool) (x : S26) : Prop := x.f0 = c ∧ (if strict = true then lo < x.f1 else lo ≤ x.f1) ∧ x.f1 ≤ hi ∧ (s.2 = false ∨ s.1.f2 < x.f2)
instance (b : Bool) (c lo hi : Int) (s : S26 × Bool) (x : S26) : Decidable (Mst b c lo hi s x) := by unfold Mst; infer_instance
theorem lt_trans26 {a b c : S26} (h1 : Lt26 a b) (h2 : Lt26 b c) : Lt26 a c := by unfold Lt26 at *; omega
end Go.Proofs.YtholbmidciapdaaGreatDoor.PL
namespace Go.Proofs.YtholbmidciapdaaGreatDoor.PL
open Go Go.RowKit Go.Proofs.YtholbmidciapdaaGreatDoorW.PrintWords Go.Proofs.YtholbmidciapdaaGreatDoorW.PrintLast Go.Proofs.YtholbmidciapdaaGreatDoorW.PrintMore Go.Proofs.YtholbmidciapdaaGreatDoor.Pr Go.Proofs.YtholbmidciapdaaGreatDoor.X
theorem within_eq (a b c : Int) : tariff_within.f a b c = some (decide (b ≤ a ∧ a ≤ c)) := by
  unfold tariff_within.f
  by_cases h : a ≥ b
  · rw [if_pos h]; exact congrArg some (decide_eq_decide.2 ⟨fun q => ⟨h, q⟩, fun q => q.2⟩)
  · rw [if_neg h, decide_eq_false (fun q => h q.1)]
def Rng (x : S26) : Prop := (1 ≤ x.f0 ∧ x.f0 ≤ 9) ∧ (0 ≤ x.f1 ∧ x.f1 ≤ 100000) ∧ 0 ≤ x.f2 ∧ x.f2 ≤ 1000000
instance (x : S26) : Decidable (Rng x) := by unfold Rng; infer_instance
theorem ranged_eq (a b c : Int) : tariff_ranged.f a b c = some (decide (Rng ⟨a, b, c⟩)) := by
  unfold tariff_ranged.f
  simp only [within_eq, Option.bind_some]
  by_cases h1 : 1 ≤ a ∧ a ≤ 9
  · rw [if_pos (decide_eq_true h1)]
    by_cases h2 : 0 ≤ b ∧ b ≤ 100000
    · rw [if_pos (decide_eq_true h2)]
      exact congrArg some (decide_eq_decide.2 ⟨fun q => ⟨h1, h2, q⟩, fun q => q.2.2⟩)
    · rw [if_neg (by simpa using h2), decide_eq_false (fun q : Rng ⟨a, b, c⟩ => h2 q.2.1)]
  · rw [if_neg (by simpa using h1), decide_eq_false (fun q : Rng ⟨a, b, c⟩ => h1 q.1)]
theorem refright_eq (a b c : Int) : spileref46_right.f a b c = some (decide (Rng ⟨a, b, c⟩)) := by
  unfold spileref46_right.f
  by_cases h1 : a ≥ 1
  case neg => rw [if_neg h1, decide_eq_false (fun q : Rng ⟨a, b, c⟩ => h1 q.1.1)]
  rw [if_pos h1]
  by_cases h2 : a ≤ 9
  case neg => rw [if_neg h2, decide_eq_false (fun q : Rng ⟨a, b, c⟩ => h2 q.1.2)]
  rw [if_pos h2]
  by_cases h3 : b ≥ 0
  case neg => rw [if_neg h3, decide_eq_false (fun q : Rng ⟨a, b, c⟩ => h3 q.2.1.1)]
  rw [if_pos h3]
  by_cases h4 : b ≤ 100000
  case neg => rw [if_neg h4, decide_eq_false (fun q : Rng ⟨a, b, c⟩ => h4 q.2.1.2)]
  rw [if_pos h4]
  by_cases h5 : c ≥ 0
  case neg => rw [if_neg h5, decide_eq_false (fun q : Rng ⟨a, b, c⟩ => h5 q.2.2.1)]
  rw [if_pos h5]
  exact congrArg some (decide_eq_decide.2 ⟨fun q => ⟨⟨h1, h2⟩, ⟨h3, h4⟩, h5, q⟩, fun q => q.2.2.2⟩)
def cmpv (a b : Int) : Int := if a < b then -1 else if a > b then 1 else 0
theorem cmp_eq (a b : Int) : cmp_Compare_int.f a b = some (cmpv a b) := by
  unfold cmp_Compare_int.f cmp_isNaN_int.f cmpv
  simp only [bne_self_eq_false, Option.bind_some, Bool.false_eq_true, if_false]
  split
  · rfl
  · split <;> rfl
theorem or_ev (x y : Int) : Ev (fun k => cmp_Or_int.f k [x, y]) (if x = 0 then y else x) := by
  refine Ev.step (fun k => cmp_Or_int.l0.eq_2 ..) (evp (by simp) (evp (by omega) (evp (by simp) ?_)))
  rw [show rd [x, y] 0 = x from rfl, show wrap64 (0 + 1) = 1 from by unfold wrap64; omega]
  by_cases c : x = 0
  · rw [if_pos c]
    refine evp c (Ev.step (fun k => cmp_Or_int.l0.eq_2 ..) (evp (by simp) (evp (by omega) (evp (by simp) ?_))))
    rw [show rd [x, y] 1 = y from rfl, show wrap64 (1 + 1) = 2 from by unfold wrap64; omega]
    by_cases d : y = 0
    · refine evp d (Ev.step (fun k => cmp_Or_int.l0.eq_2 ..) (evn (by simp) (evr d.symm)))
    · exact evn d (Ev.now _)
  · rw [if_neg c]; exact evn c (Ev.now _)
theorem compare_ev (a b : S26) : ∃ v, Ev (fun k => tariff_compare.f k a.f0 a.f1 a.f2 b.f0 b.f1 b.f2) v ∧ (v < 0 ↔ Lt26 a b) ∧ (v = 0 ↔ Key26 a b) := by
  refine ⟨_, evb (evc (fun _ => rfl) (cmp_eq _ _)) (evb (evc (fun _ => rfl) (cmp_eq _ _)) (evb (or_ev _ _) (Ev.now _))), ?_, ?_⟩
  · unfold cmpv Lt26; split <;> (try split) <;> (try split) <;> omega
  · unfold cmpv Key26; split <;> (try split) <;> (try split) <;> omega
theorem before_eq (a b : S26) : spileref46_before.f a.f0 a.f1 a.f2 b.f0 b.f1 b.f2 = some (decide (Lt26 a b)) := by
  unfold spileref46_before.f
  by_cases h : a.f0 < b.f0
  · rw [if_pos h]; exact congrArg some (decide_eq_true (show Lt26 a b from .inl h)).symm
  · rw [if_neg h]
    by_cases h2 : a.f0 = b.f0
    · rw [if_pos h2]; exact congrArg some (decide_eq_decide.2 ⟨fun q => (show Lt26 a b from .inr ⟨h2, q⟩), fun q => by unfold Lt26 at q; omega⟩)
    · rw [if_neg h2]; exact congrArg some (decide_eq_false (show ¬ Lt26 a b from fun q => by unfold Lt26 at q; omega)).symm
theorem rd26_get {l : List S26} {i : Nat} (h : i < l.length) : rd_T26 l (i : Int) = l[i] := by
  unfold rd_T26
  rw [Int.toNat_natCast, List.getD_eq_getElem?_getD, List.getElem?_eq_getElem h]
  rfl
theorem rd26_mem {l : List S26} {i : Int} (h0 : 0 ≤ i) (h : i < (l.length : Int)) : rd_T26 l i ∈ l := by
  obtain ⟨n, rfl⟩ : ∃ n : Nat, i = (n : Int) := ⟨i.toNat, by omega⟩
  rw [rd26_get (by omega)]
  exact List.getElem_mem _
theorem rd26_of_mem {l : List S26} {x : S26} (h : x ∈ l) : ∃ i : Int, 0 ≤ i ∧ i < (l.length : Int) ∧ rd_T26 l i = x := by
  obtain ⟨i, hi, rfl⟩ := List.mem_iff_getElem.1 h
  exact ⟨(i : Int), by omega, by omega, rd26_get hi⟩
theorem drop26 {l : List S26} {i : Int} (h0 : 0 ≤ i) (h1 : i < (l.length : Int)) : l.drop i.toNat = rd_T26 l i :: l.drop (i + 1).toNat := by
  obtain ⟨n, rfl⟩ : ∃ n : Nat, i = (n : Int) := ⟨i.toNat, by omega⟩
  rw [rd26_get (by omega), Int.toNat_natCast, show ((n : Int) + 1).toNat = n + 1 from by omega]
  exact List.drop_eq_getElem_cons (by omega)
def OKT (r : Int) (l : List S26) : Prop := (1 ≤ r ∧ r ≤ 4) ∧ (l.length : Int) ≤ 64 ∧ (∀ x, x ∈ l → Rng x) ∧ Srt l
theorem chain_lt {l : List S26} (h : ∀ j, 0 < j → j < (l.length : Int) → Lt26 (rd_T26 l (j - 1)) (rd_T26 l j)) : ∀ (d : Nat) (a : Int), 0 ≤ a → a + d + 1 < (l.length : Int) → Lt26 (rd_T26 l a) (rd_T26 l (a + d + 1))
  | 0, a, h0, h1 => by
    have := h (a + 1) (by omega) (by omega)
    rw [show a + 1 - 1 = a from by omega] at this
    rwa [show a + ((0 : Nat) : Int) + 1 = a + 1 from by omega]
  | d + 1, a, h0, h1 => by
    have ih := chain_lt h d a h0 (by omega)
    have := h (a + d + 1 + 1) (by omega) (by omega)
    rw [show a + (d : Int) + 1 + 1 - 1 = a + d + 1 from by omega] at this
    rw [show a + ((d + 1 : Nat) : Int) + 1 = a + d + 1 + 1 from by omega]
    exact lt_trans26 ih this
theorem srt_iff (l : List S26) : (∀ j, 0 < j → j < (l.length : Int) → Lt26 (rd_T26 l (j - 1)) (rd_T26 l j)) ↔ Srt l := by
  constructor
  · intro h
    refine List.pairwise_iff_getElem.2 (fun i j hi hj hij => ?_)
    have := chain_lt h (j - i - 1) (i : Int) (by omega) (by omega)
    rwa [show (i : Int) + ((j - i - 1 : Nat) : Int) + 1 = (j : Int) from by omega, rd26_get hi, rd26_get hj] at this
  · intro h j h0 h1
    obtain ⟨n, rfl⟩ : ∃ n : Nat, j = (n : Int) := ⟨j.toNat, by omega⟩
    have := List.pairwise_iff_getElem.1 h (n - 1) n (by omega) (by omega) (by omega)
    rwa [show (n : Int) - 1 = ((n - 1 : Nat) : Int) from by omega, rd26_get (by omega), rd26_get (by omega)]
theorem check_loop (r : Int) (l : List S26) (hl : (l.length : Int) ≤ 64) : ∀ i, 0 ≤ i → i ≤ (l.length : Int) →
    ∃ e : Int × Int, Ev (fun k => tariff_Check.l0 k l (l.length : Int) i r l) e ∧ Ev (fun k => spileref46_Check.l0 k i r l) e ∧
      (e.2 = 0 ↔ ∀ j, i ≤ j → j < (l.length : Int) → Rng (rd_T26 l j) ∧ (0 < j → Lt26 (rd_T26 l (j - 1)) (rd_T26 l j))) ∧ (e.2 = 0 → e.1 = -1) := by
  refine count_up 0 (l.length : Int) _ ?_ ?_
  · exact ⟨(-1, 0), Ev.step (fun k => tariff_Check.l0.eq_2 ..) (evn (by omega) (Ev.now _)), Ev.step (fun k => spileref46_Check.l0.eq_2 ..) (evn (by omega) (Ev.now _)), ⟨fun _ j a b => by omega, fun _ => rfl⟩, fun _ => rfl⟩
  · intro i h0 h1 ih
    have hw := w64_succ h0 h1 (by omega)
    have re := ranged_eq (rd_T26 l i).f0 (rd_T26 l i).f1 (rd_T26 l i).f2
    have rr := refright_eq (rd_T26 l i).f0 (rd_T26 l i).f1 (rd_T26 l i).f2
    have e26 : (⟨(rd_T26 l i).f0, (rd_T26 l i).f1, (rd_T26 l i).f2⟩ : S26) = rd_T26 l i := rfl
    rw [e26] at re rr
    by_cases c1 : Rng (rd_T26 l i)
    case neg =>
      rw [decide_eq_false c1] at re rr
      exact ⟨(i, 2), Ev.step (fun k => tariff_Check.l0.eq_2 ..) (evp h1 (evp h0 (evp h1 (evb (evc (fun _ => rfl) re) (evn (by simp) (Ev.now _)))))), Ev.step (fun k => spileref46_Check.l0.eq_2 ..) (evp h1 (evp h0 (evb (evc (fun _ => rfl) rr) (evn (by simp) (Ev.now _))))),
        ⟨fun q => by simp at q, fun q => absurd (q i (by omega) h1).1 c1⟩, fun q => by simp at q⟩
    rw [decide_eq_true c1] at re rr
    obtain ⟨e, e1, e2, e3, e4⟩ := ih
    have ext : (0 < i → Lt26 (rd_T26 l (i - 1)) (rd_T26 l i)) → ((∀ j, i + 1 ≤ j → j < (l.length : Int) → Rng (rd_T26 l j) ∧ (0 < j → Lt26 (rd_T26 l (j - 1)) (rd_T26 l j))) ↔ ∀ j, i ≤ j → j < (l.length : Int) → Rng (rd_T26 l j) ∧ (0 < j → Lt26 (rd_T26 l (j - 1)) (rd_T26 l j))) := fun hh =>
      ⟨fun q j a b => by
        by_cases e : j = i
        · rw [e]; exact ⟨c1, hh⟩
        · exact q j (by omega) b, fun q j a b => q j (by omega) b⟩
    by_cases c2 : i > 0
    · have hp := w64_pred (i := i) (n := (l.length : Int)) h0 (by omega) (by omega)
      obtain ⟨v, v1, v2, v3⟩ := compare_ev (rd_T26 l (i - 1)) (rd_T26 l i)
      have hb := before_eq (rd_T26 l (i - 1)) (rd_T26 l i)
      by_cases c3 : Lt26 (rd_T26 l (i - 1)) (rd_T26 l i)
      · rw [decide_eq_true c3] at hb
        have v4 := v2.2 c3
        refine ⟨e, Ev.step (fun k => tariff_Check.l0.eq_2 ..) (evp h1 (evp h0 (evp h1 (evb (evc (fun _ => rfl) re) (evp rfl (evp c2 ?_)))))), Ev.step (fun k => spileref46_Check.l0.eq_2 ..) (evp h1 (evp h0 (evb (evc (fun _ => rfl) rr) (evp rfl (evp c2 ?_))))), e3.trans (ext (fun _ => c3)), e4⟩
        · rw [hp, hw]; exact evp (by omega) (evp (by omega) (evb v1 (evn (by omega) e1)))
        · rw [hp, hw]; exact evp (by omega) (evp (by omega) (evb (evc (fun _ => rfl) hb) (evp rfl e2)))
      · rw [decide_eq_false c3] at hb
        have v4 : v ≥ 0 := by
          by_cases q : v < 0
          · exact absurd (v2.1 q) c3
          · omega
        refine ⟨(i, 5), Ev.step (fun k => tariff_Check.l0.eq_2 ..) (evp h1 (evp h0 (evp h1 (evb (evc (fun _ => rfl) re) (evp rfl (evp c2 ?_)))))), Ev.step (fun k => spileref46_Check.l0.eq_2 ..) (evp h1 (evp h0 (evb (evc (fun _ => rfl) rr) (evp rfl (evp c2 ?_))))), ⟨fun q => by simp at q, fun q => absurd ((q i (by omega) h1).2 c2) c3⟩, fun q => by simp at q⟩
        · rw [hp]; exact evp (by omega) (evp (by omega) (evb v1 (evp v4 (Ev.now _))))
        · rw [hp]; exact evp (by omega) (evp (by omega) (evb (evc (fun _ => rfl) hb) (evn (by simp) (Ev.now _))))
    · refine ⟨e, Ev.step (fun k => tariff_Check.l0.eq_2 ..) (evp h1 (evp h0 (evp h1 (evb (evc (fun _ => rfl) re) (evp rfl (evn c2 ?_)))))), Ev.step (fun k => spileref46_Check.l0.eq_2 ..) (evp h1 (evp h0 (evb (evc (fun _ => rfl) rr) (evp rfl (evn c2 ?_))))), e3.trans (ext (fun q => absurd q c2)), e4⟩
      · rw [hw]; exact e1
      · rw [hw]; exact e2
theorem check_both (r : Int) (l : List S26) : ∃ e : Int × Int, Ev (fun k => tariff_Check.f k r l) e ∧ Ev (fun k => spileref46_Check.f k r l) e ∧ (e.2 = 0 ↔ OKT r l) ∧ (e.2 = 0 → e.1 = -1) := by
  have two : ∀ b : Bool, b = true → Ev (fun k => spileref46_Check.j0 k b r l) (-1, 2) := fun b hb => Ev.step (fun k => spileref46_Check.j0.eq_2 ..) (evp hb (Ev.now _))
  have w := within_eq r 1 4
  by_cases c0 : 1 ≤ r ∧ r ≤ 4
  case neg =>
    rw [decide_eq_false c0] at w
    refine ⟨(-1, 2), evb (evc (fun _ => rfl) w) (evn (by simp) (Ev.now _)), ?_, ⟨fun q => by simp at q, fun q => absurd q.1 c0⟩, fun _ => rfl⟩
    by_cases c1 : r < 1
    · exact evp c1 (two _ rfl)
    · exact evn c1 (two _ (decide_eq_true (by omega)))
  rw [decide_eq_true c0] at w
  have pre : ∀ e, Ev (fun k => if (l.length : Int) > 64 then (some ((-1), 8)) else (spileref46_Check.l0 k 0 r l)) e → Ev (fun k => spileref46_Check.f k r l) e := fun e he => by
    refine evn (by omega) ?_
    rw [decide_eq_false (show ¬ r > 4 by omega)]
    exact Ev.step (fun k => spileref46_Check.j0.eq_2 ..) (evn (by simp) he)
  by_cases c2 : (l.length : Int) > 64
  · exact ⟨(-1, 8), evb (evc (fun _ => rfl) w) (evp rfl (evp c2 (Ev.now _))), pre _ (evp c2 (Ev.now _)), ⟨fun q => by simp at q, fun q => absurd q.2.1 (by omega)⟩, fun _ => rfl⟩
  · obtain ⟨e, e1, e2, e3, e4⟩ := check_loop r l (by omega) 0 (by omega) (by omega)
    refine ⟨e, evb (evc (fun _ => rfl) w) (evp rfl (evn c2 e1)), pre _ (evn c2 e2), e3.trans ⟨fun q => ⟨c0, by omega, fun x hx => ?_, (srt_iff l).1 (fun j a b => (q j (by omega) b).2 a)⟩, fun q j a b => ⟨q.2.2.1 _ (rd26_mem a b), fun p => (srt_iff l).2 q.2.2.2 j p b⟩⟩, e4⟩
    obtain ⟨i, i0, i1, rfl⟩ := rd26_of_mem hx
    exact (q i i0 i1).1
theorem right_B (r : Int) (l : List S26) : EvB (fun k => tariff_right.f k r l) (OKT r l) := by
  obtain ⟨e, e1, _, e3, _⟩ := check_both r l
  refine ⟨fun h => evb e1 (evr (beq_iff_eq.2 (e3.2 h))), fun h => evb e1 (evr ?_)⟩
  rw [beq_eq_false_iff_ne]
  exact fun q => h (e3.1 q)
theorem Right_B (r : Int) (l : List S26) : EvB (fun k => spileref46_Right.f k r l) (OKT r l) := by
  obtain ⟨e, _, e1, e3, _⟩ := check_both r l
  refine ⟨fun h => evb e1 (evr (beq_iff_eq.2 (e3.2 h))), fun h => evb e1 (evr ?_)⟩
  rw [beq_eq_false_iff_ne]
  exact fun q => h (e3.1 q)
theorem clone_eq {l : List S26} (h : (l.length : Int) ≤ 65) : slices_Clone26.f l = some l := by
  unfold slices_Clone26.f
  rw [if_pos (by omega)]
theorem cp_eq {r : Int} {l : List S26} (h : (l.length : Int) ≤ 65) : spilelaw46_cp.f r l = some (r, l) := by
  unfold spilelaw46_cp.f
  rw [clone_eq h]
  rfl
theorem few_eq (r : Int) (l : List S26) : ∃ b, spileref46_Few.f r l = some b ∧ (b = true → (l.length : Int) ≤ 65) := by
  unfold spileref46_Few.f
  by_cases c : (l.length : Int) ≤ 20
  · exact ⟨true, if_pos c, fun _ => by omega⟩
  · refine ⟨(l.length : Int) == 65, if_neg c, fun q => ?_⟩
    have := beq_iff_eq.1 q
    omega
end Go.Proofs.YtholbmidciapdaaGreatDoor.PL
namespace Go.Proofs.YtholbmidciapdaaGreatDoor.PL
/-- Whether a quotient is rounded up. -/
def Up (rule q r : Int) : Prop := (rule = 2 ∧ r > 0) ∨ (rule = 3 ∧ 2 * r ≥ 10000000) ∨ (rule = 4 ∧ (2 * r > 10000000 ∨ (2 * r = 10000000 ∧ q % 2 = 1)))
instance (rule q r : Int) : Decidable (Up rule q r) := by unfold Up; infer_instance
def rnd (rule n : Int) : Int := if Up rule (n / 10000000) (n % 10000000) then n / 10000000 + 1 else n / 10000000
theorem prod_parts (c a : Int) : c * a / 10000000 = c * (a / 10000000) + c * (a % 10000000) / 10000000 ∧ c * a % 10000000 = c * (a % 10000000) % 10000000 := by
  have e : c * a = 10000000 * (c * (a / 10000000)) + c * (a % 10000000) := by
    have h : a = 10000000 * (a / 10000000) + a % 10000000 := by omega
    have : c * a = c * (10000000 * (a / 10000000) + a % 10000000) := by rw [← h]
    rw [this, Int.mul_add, Int.mul_left_comm]
  rw [e]
  omega
end Go.Proofs.YtholbmidciapdaaGreatDoor.PL
namespace Go.Proofs.YtholbmidciapdaaGreatDoor.PL
open Go Go.RowKit Go.Proofs.YtholbmidciapdaaGreatDoorW.PrintWords Go.Proofs.YtholbmidciapdaaGreatDoorW.PrintLast Go.Proofs.YtholbmidciapdaaGreatDoorW.PrintMore Go.Proofs.YtholbmidciapdaaGreatDoor.Pr Go.Proofs.YtholbmidciapdaaGreatDoor.X
instance (R : Int) (l : List S26) : Decidable (OKT R l) := by unfold OKT; infer_instance
def F4 (s : S26 × Bool) : Int × Int × Int × Bool := (s.1.f0, s.1.f1, s.1.f2, s.2)
def G4 (s : S26 × Bool) : Int × Int × Int × Int := if s.2 = true then (s.1.f0, s.1.f1, s.1.f2, 0) else (0, 0, 0, 7)
theorem frc_cons (c d : Int) (x : S26) (r : List S26) (s : S26 × Bool) : frc c d (x :: r) s = frc c d r (if Hit c d x then (x, true) else s) := rfl
theorem force_loop (l : List S26) (hl : (l.length : Int) ≤ 65) (R c d : Int) : ∀ i, 0 ≤ i → i ≤ (l.length : Int) → ∀ s : S26 × Bool,
    Ev (fun k => tariff_force.l0 k c d s.2 l (l.length : Int) i s.1.f0 s.1.f1 s.1.f2) (F4 (frc c d (l.drop i.toNat) s)) ∧
    Ev (fun k => spileref46_Force.l0 k c d s.2 i R l s.1.f0 s.1.f1 s.1.f2) (F4 (frc c d (l.drop i.toNat) s)) := by
  refine count_up 0 (l.length : Int) _ ?_ ?_
  · intro s
    rw [List.drop_eq_nil_of_le (by omega)]
    exact ⟨Ev.step (fun k => tariff_force.l0.eq_2 ..) (evn (by omega) (Ev.now _)), Ev.step (fun k => spileref46_Force.l0.eq_2 ..) (evn (by omega) (Ev.now _))⟩
  · intro i h0 h1 ih s
    have hw := w64_succ h0 h1 (by omega)
    rw [drop26 h0 h1, frc_cons]
    by_cases q : Hit c d (rd_T26 l i)
    · rw [if_pos q]
      obtain ⟨a, b⟩ := ih (rd_T26 l i, true)
      exact ⟨Ev.step (fun k => tariff_force.l0.eq_2 ..) (evp h1 (evp h0 (evp h1 (evp q.1 (evp q.2 (by rw [hw]; exact a)))))), Ev.step (fun k => spileref46_Force.l0.eq_2 ..) (evp h1 (evp h0 (evp q.1 (evp q.2 (by rw [hw]; exact b)))))⟩
    · rw [if_neg q]
      obtain ⟨a, b⟩ := ih s
      by_cases q1 : (rd_T26 l i).f0 = c
      · have q2 : ¬ (rd_T26 l i).f1 ≤ d := fun z => q ⟨q1, z⟩
        exact ⟨Ev.step (fun k => tariff_force.l0.eq_2 ..) (evp h1 (evp h0 (evp h1 (evp q1 (evn q2 (by rw [hw]; exact a)))))), Ev.step (fun k => spileref46_Force.l0.eq_2 ..) (evp h1 (evp h0 (evp q1 (evn q2 (by rw [hw]; exact b)))))⟩
      · exact ⟨Ev.step (fun k => tariff_force.l0.eq_2 ..) (evp h1 (evp h0 (evp h1 (evn q1 (by rw [hw]; exact a))))), Ev.step (fun k => spileref46_Force.l0.eq_2 ..) (evp h1 (evp h0 (evn q1 (by rw [hw]; exact b))))⟩
def s0 : S26 × Bool := (⟨0, 0, 0⟩, false)
theorem force_ev (R : Int) (l : List S26) (hl : (l.length : Int) ≤ 65) (c d : Int) : Ev (fun k => tariff_force.f k R l c d) (F4 (frc c d l s0)) := by
  have := (force_loop l hl R c d 0 (by omega) (by omega) s0).1
  rw [show (0 : Int).toNat = 0 from rfl, List.drop_zero] at this
  exact this
theorem Force_ev (R : Int) (l : List S26) (hl : (l.length : Int) ≤ 65) (c d : Int) : Ev (fun k => spileref46_Force.f k R l c d) (F4 (frc c d l s0)) := by
  have := (force_loop l hl R c d 0 (by omega) (by omega) s0).2
  rw [show (0 : Int).toNat = 0 from rfl, List.drop_zero] at this
  exact this
def InR (c d : Int) : Prop := (1 ≤ c ∧ c ≤ 9) ∧ 0 ≤ d ∧ d ≤ 100000
instance (c d : Int) : Decidable (InR c d) := by unfold InR; infer_instance
theorem ranges_eq (a b : Int) : spileref46_Ranges.f a b = some (decide (InR a b)) := by
  unfold spileref46_Ranges.f
  by_cases h1 : a ≥ 1
  case neg => rw [if_neg h1, decide_eq_false (fun q : InR a b => h1 q.1.1)]
  rw [if_pos h1]
  by_cases h2 : a ≤ 9
  case neg => rw [if_neg h2, decide_eq_false (fun q : InR a b => h2 q.1.2)]
  rw [if_pos h2]
  by_cases h3 : b ≥ 0
  case neg => rw [if_neg h3, decide_eq_false (fun q : InR a b => h3 q.2.1)]
  rw [if_pos h3]
  exact congrArg some (decide_eq_decide.2 ⟨fun q => ⟨⟨h1, h2⟩, h3, q⟩, fun q => q.2.2⟩)
theorem ranges_B (a b : Int) : EvB (fun _ => spileref46_Ranges.f a b) (InR a b) := by
  refine ⟨fun h => evc (fun _ => rfl) ?_, fun h => evc (fun _ => rfl) ?_⟩
  · rw [ranges_eq, decide_eq_true h]
  · rw [ranges_eq, decide_eq_false h]
theorem within_B (a b c : Int) : EvB (fun _ => tariff_within.f a b c) (b ≤ a ∧ a ≤ c) := by
  refine ⟨fun h => evc (fun _ => rfl) ?_, fun h => evc (fun _ => rfl) ?_⟩
  · rw [within_eq, decide_eq_true h]
  · rw [within_eq, decide_eq_false h]
def atV (R : Int) (l : List S26) (c d : Int) : Int × Int × Int × Int := if OKT R l then (if InR c d then G4 (frc c d l s0) else (0, 0, 0, 2)) else (0, 0, 0, 1)
theorem at_ev (R : Int) (l : List S26) (hl : (l.length : Int) ≤ 65) (c d : Int) : Ev (fun k => tariff_At.f k R l c d) (atV R l c d) := by
  have hb := right_B R l
  have b1 := within_B c 1 9
  have b2 := within_B d 0 100000
  unfold atV
  by_cases ok : OKT R l
  case neg => rw [if_neg ok]; exact evb (hb.2 ok) (evn (by simp) (Ev.now _))
  rw [if_pos ok]
  have two : ∀ b : Bool, b = true → Ev (fun k => tariff_At.j0 k c d b R l) (0, 0, 0, 2) := fun b hb => Ev.step (fun k => tariff_At.j0.eq_2 ..) (evp hb (Ev.now _))
  refine evb (hb.1 ok) (evp rfl ?_)
  by_cases h1 : 1 ≤ c ∧ c ≤ 9
  case neg => rw [if_neg (fun q : InR c d => h1 q.1)]; exact evb (b1.2 h1) (evn (by simp) (two _ rfl))
  refine evb (b1.1 h1) (evp rfl ?_)
  by_cases h2 : 0 ≤ d ∧ d ≤ 100000
  case neg => rw [if_neg (fun q : InR c d => h2 q.2)]; exact evb (b2.2 h2) (two _ rfl)
  rw [if_pos (show InR c d from ⟨h1, h2⟩)]
  refine evb (b2.1 h2) (Ev.step (fun k => tariff_At.j0.eq_2 ..) (evn (by simp) (evb (force_ev R l hl c d) ?_)))
  by_cases q : (frc c d l s0).2 = true
  · exact evp q (evr (by unfold G4; rw [if_pos q]; rfl))
  · exact evn q (evr (by unfold G4; rw [if_neg q]))
def InS (c a b : Int) : Prop := (1 ≤ c ∧ c ≤ 9) ∧ (0 ≤ a ∧ a ≤ 100000) ∧ a ≤ b ∧ b ≤ 100000
instance (c a b : Int) : Decidable (InS c a b) := by unfold InS; infer_instance
def InD (c a b : Int) (x : S26) : Prop := x.f0 = c ∧ a ≤ x.f1 ∧ x.f1 ≤ b
instance (c a b : Int) (x : S26) : Decidable (InD c a b x) := by unfold InD; infer_instance
theorem u64W {x : Int} (h0 : 0 ≤ x) (h1 : x < 18446744073709551616) : IntKind.u64.wrap x = x := by
  unfold IntKind.wrap
  simp [IntKind.signed, IntKind.bits]
  omega
theorem rounded_eq {n R : Int} (h0 : 0 ≤ n) (h1 : n < 18446744073709551616) (r1 : 1 ≤ R) (r2 : R ≤ 4) : tariff_rounded.f n R = some (rnd R n) := by
  have e1 : Int.tmod n 10000000 = n % 10000000 := Int.tmod_eq_emod_of_nonneg h0
  have e2 : Int.tdiv n 10000000 = n / 10000000 := Int.tdiv_eq_ediv_of_nonneg h0
  have e3 : IntKind.u64.wrap (n / 10000000) = n / 10000000 := u64W (by omega) (by omega)
  have e4 : IntKind.u64.wrap (2 * (n % 10000000)) = 2 * (n % 10000000) := u64W (by omega) (by omega)
  have e5 : IntKind.u64.wrap (n / 10000000 + 1) = n / 10000000 + 1 := u64W (by omega) (by omega)
  have e6 : wrap64 (n / 10000000) = n / 10000000 := w64 (by omega) (by omega)
  have e7 : wrap64 (n / 10000000 + 1) = n / 10000000 + 1 := w64 (by omega) (by omega)
  have e8 : Int.tmod (n / 10000000) 2 = (n / 10000000) % 2 := Int.tmod_eq_emod_of_nonneg (by omega)
  unfold tariff_rounded.f
  simp only [e1, e2, e3, e4, e5, e6, e7, e8]
  unfold rnd
  repeat' split
  all_goals first | rfl | omega | (exfalso; unfold Up at *; omega)
theorem amount_eq {R c a : Int} (c0 : 0 ≤ c) (c1 : c ≤ 1000000) (a0 : 0 ≤ a) (a1 : a ≤ 10737418240000) (r1 : 1 ≤ R) (r2 : R ≤ 4) : spileref46_Amount.f R c a = some (rnd R (c * a)) := by
  have e1 : Int.tmod a 10000000 = a % 10000000 := Int.tmod_eq_emod_of_nonneg a0
  have e2 : Int.tdiv a 10000000 = a / 10000000 := Int.tdiv_eq_ediv_of_nonneg a0
  have m1 := mulb (x := c) (y := a % 10000000) (X := 1000000) (Y := 9999999) c0 c1 (by omega) (by omega)
  have m2 := mulb (x := c) (y := a / 10000000) (X := 1000000) (Y := 1073742) c0 c1 (by omega) (by omega)
  have pp := prod_parts c a
  unfold rnd
  rw [pp.1, pp.2]
  have w0 : wrap64 (a / 10000000) = a / 10000000 := w64 (by omega) (by omega)
  generalize hp : c * (a / 10000000) = p at *
  generalize hq : c * (a % 10000000) = q at *
  have e3 : wrap64 q = q := w64 (by omega) (by omega)
  have e4 : wrap64 p = p := w64 (by omega) (by omega)
  have e5 : Int.tmod q 10000000 = q % 10000000 := Int.tmod_eq_emod_of_nonneg (by omega)
  have e6 : Int.tdiv q 10000000 = q / 10000000 := Int.tdiv_eq_ediv_of_nonneg (by omega)
  have e7 : wrap64 (q / 10000000) = q / 10000000 := w64 (by omega) (by omega)
  have e8 : wrap64 (p + q / 10000000) = p + q / 10000000 := w64 (by omega) (by omega)
  have e9 : wrap64 (p + q / 10000000 + 1) = p + q / 10000000 + 1 := w64 (by omega) (by omega)
  have e10 : wrap64 (2 * (q % 10000000)) = 2 * (q % 10000000) := w64 (by omega) (by omega)
  have e11 : Int.tmod (p + q / 10000000) 2 = (p + q / 10000000) % 2 := Int.tmod_eq_emod_of_nonneg (by omega)
  unfold spileref46_Amount.f
  simp only [e1, e2, w0, hp, hq, e3, e4, e5, e6, e7, e8, e9, e10, e11]
  repeat' split
  all_goals first | rfl | omega | (exfalso; unfold Up at *; omega)
/-- The rate in force has a right number of coins. -/
theorem at_coins {R : Int} {l : List S26} {c d : Int} (h : (atV R l c d).2.2.2 = 0) : OKT R l ∧ InR c d ∧ (frc c d l s0).2 = true ∧ (frc c d l s0).1 ∈ l ∧ atV R l c d = ((frc c d l s0).1.f0, (frc c d l s0).1.f1, (frc c d l s0).1.f2, 0) := by
  unfold atV at h ⊢
  by_cases ok : OKT R l
  case neg => rw [if_neg ok] at h; simp at h
  rw [if_pos ok] at h ⊢
  by_cases hr : InR c d
  case neg => rw [if_neg hr] at h; simp at h
  rw [if_pos hr] at h ⊢
  unfold G4 at h ⊢
  rcases frc_spec c d l s0 ok.2.2.2 with ⟨_, e⟩ | ⟨x, x1, _, e, _⟩
  · rw [e] at h; simp [s0] at h
  · rw [e]
    exact ⟨ok, hr, rfl, x1, if_pos rfl⟩
def dutyV (R : Int) (l : List S26) (c d a : Int) : Int × Int := if OKT R l then (if 0 ≤ a ∧ a ≤ 10737418240000 then (if (atV R l c d).2.2.2 = 0 then (rnd R ((atV R l c d).2.2.1 * a), 0) else (0, (atV R l c d).2.2.2)) else (0, 2)) else (0, 1)
theorem duty_ev (R : Int) (l : List S26) (hl : (l.length : Int) ≤ 65) (c d a : Int) : Ev (fun k => tariff_Duty.f k R l c d a) (dutyV R l c d a) := by
  have hb := right_B R l
  have bw := within_B a 0 10737418240000
  have ha := at_ev R l hl c d
  unfold dutyV
  by_cases ok : OKT R l
  case neg =>
    rw [if_neg ok]
    have e : atV R l c d = (0, 0, 0, 1) := by unfold atV; rw [if_neg ok]
    rw [e] at ha
    exact evb (hb.2 ok) (evn (by simp) (Ev.step (fun k => tariff_Duty.j0.eq_2 ..) (evn (by simp) (evb ha (evn (by simp) (Ev.now _))))))
  rw [if_pos ok]
  refine evb (hb.1 ok) (evp rfl ?_)
  by_cases h1 : 0 ≤ a ∧ a ≤ 10737418240000
  case neg => rw [if_neg h1]; exact evb (bw.2 h1) (Ev.step (fun k => tariff_Duty.j0.eq_2 ..) (evp rfl (Ev.now _)))
  rw [if_pos h1]
  refine evb (bw.1 h1) (Ev.step (fun k => tariff_Duty.j0.eq_2 ..) (evn (by simp) (evb ha ?_)))
  by_cases h2 : (atV R l c d).2.2.2 = 0
  case neg => exact evn h2 (evr (if_neg h2).symm)
  refine evp h2 ?_
  rw [if_pos h2]
  obtain ⟨_, _, _, hm, e⟩ := at_coins h2
  have rg := (ok.2.2.1 _ hm).2.2
  have ec : (atV R l c d).2.2.1 = (frc c d l s0).1.f2 := by rw [e]
  rw [← ec] at rg
  have m := mulb (x := (atV R l c d).2.2.1) (y := a) (X := 1000000) (Y := 10737418240000) rg.1 rg.2 h1.1 h1.2
  have er : tariff_rounded.f (IntKind.u64.wrap ((IntKind.u64.wrap ((atV R l c d).2.2.1)) * (IntKind.u64.wrap a))) R = some (rnd R ((atV R l c d).2.2.1 * a)) := by
    rw [u64W rg.1 (by omega), u64W h1.1 (by omega), u64W m.1 (by omega)]
    exact rounded_eq m.1 (by omega) ok.1.1 ok.1.2
  exact evb (evc (fun _ => rfl) er) (Ev.now _)
theorem Duty_ev (R : Int) (l : List S26) (hl : (l.length : Int) ≤ 65) (c d a : Int) : Ev (fun k => spileref46_Duty.f k R l c d a) (dutyV R l c d a) := by
  have hb := Right_B R l
  have br := ranges_B c d
  unfold dutyV
  by_cases ok : OKT R l
  case neg => rw [if_neg ok]; exact evb (hb.2 ok) (evn (by simp) (Ev.now _))
  rw [if_pos ok]
  refine evb (hb.1 ok) (evp rfl ?_)
  have two : ∀ b : Bool, b = true → Ev (fun k => spileref46_Duty.j0 k c d a b R l) (0, 2) := fun b hb => Ev.step (fun k => spileref46_Duty.j0.eq_2 ..) (evp hb (Ev.now _))
  by_cases hr : InR c d
  case neg =>
    have e : atV R l c d = (0, 0, 0, 2) := by unfold atV; rw [if_pos ok, if_neg hr]
    rw [e, show (if 0 ≤ a ∧ a ≤ 10737418240000 then (if ((0, 0, 0, 2) : Int × Int × Int × Int).2.2.2 = 0 then (rnd R (((0, 0, 0, 2) : Int × Int × Int × Int).2.2.1 * a), 0) else (0, ((0, 0, 0, 2) : Int × Int × Int × Int).2.2.2)) else (0, 2)) = ((0, 2) : Int × Int) from by split <;> simp]
    exact evb (br.2 hr) (evn (by simp) (two _ rfl))
  refine evb (br.1 hr) (evp rfl ?_)
  by_cases h0 : a < 0
  · rw [if_neg (by omega)]; exact evp h0 (two _ rfl)
  by_cases h1 : a > 10737418240000
  · rw [if_neg (by omega)]; exact evn h0 (two _ (decide_eq_true h1))
  rw [if_pos (by omega), decide_eq_false h1]
  refine evn h0 (Ev.step (fun k => spileref46_Duty.j0.eq_2 ..) (evn (by simp) (evb (Force_ev R l hl c d) ?_)))
  have ea : atV R l c d = G4 (frc c d l s0) := by unfold atV; rw [if_pos ok, if_pos hr]
  by_cases q : (frc c d l s0).2 = true
  · have e0 : G4 (frc c d l s0) = ((frc c d l s0).1.f0, (frc c d l s0).1.f1, (frc c d l s0).1.f2, 0) := if_pos q
    have h2 : (atV R l c d).2.2.2 = 0 := by rw [ea, e0]
    obtain ⟨_, _, _, hm, e⟩ := at_coins h2
    have rg := (ok.2.2.1 _ hm).2.2
    rw [if_pos h2, e]
    exact evp q (evb (evc (fun _ => rfl) (amount_eq rg.1 rg.2 (by omega) (by omega) ok.1.1 ok.1.2)) (Ev.now _))
  · have e0 : G4 (frc c d l s0) = (0, 0, 0, 7) := if_neg q
    rw [ea, e0]
    exact evn q (evr (by simp))
end Go.Proofs.YtholbmidciapdaaGreatDoor.PL
namespace Go.Proofs.YtholbmidciapdaaGreatDoor.Pure
open Go Go.RowKit Go.Proofs.YtholbmidciapdaaGreatDoorW.PrintWords Go.Proofs.YtholbmidciapdaaGreatDoorW.PrintLast Go.Proofs.YtholbmidciapdaaGreatDoorW.PrintMore Go.Proofs.YtholbmidciapdaaGreatDoor.Pr Go.Proofs.YtholbmidciapdaaGreatDoor.Opn Go.Proofs.YtholbmidciapdaaGreatDoor.X Go.Proofs.YtholbmidciapdaaGreatDoor.PL
theorem TariffDuties : tariffDutiesPure := by
  intro R l c d a hR hl hc hd ha
  refine Ev.rounds ?_
  obtain ⟨q, hq, hq2⟩ := few_eq R l
  have haw : Ev (fun _ : Nat => spilelaw46_awake.f) true := Ev.now _
  have yes : ∀ t, t = true → Ev (fun k => spilelaw46_TariffDuties.j0 k c d a t R l) true := fun t ht => Ev.step (fun k => spilelaw46_TariffDuties.j0.eq_2 ..) (evp ht (evb haw (Ev.now _)))
  refine evb haw (evp rfl (evb (evc (fun _ => rfl) hq) ?_))
  cases q with
  | false => exact yes _ rfl
  | true =>
    have hn := hq2 rfl
    have hcp : Ev (fun _ : Nat => spilelaw46_cp.f R l) (R, l) := evc (fun _ => rfl) (cp_eq hn)
    exact Ev.step (fun k => spilelaw46_TariffDuties.j0.eq_2 ..) (evn (by simp) (evb hcp (evb (duty_ev R l hn c d a) (evb (Duty_ev R l hn c d a) (evp rfl (evr (by simp)))))))
end Go.Proofs.YtholbmidciapdaaGreatDoor.Pure
namespace Go.Proofs.YtholbmidciapdaaGreatDoor.X
open Go
variable {H : Type} {enc : TypeId × Value → H}
theorem wrap_shaped {a : Assume} {C : Checked} {os : Os} {f : FuncId} {fn : Func} {s : ChangeSpec} {conds : List PathCond} {apart fresh handsOn again : Bool} {X : World → Array Value → Prop}
    (hX : ∀ (w w' : World) (args : Array Value), w.heap = w'.heap → X w args → X w' args)
    (own : ownKnob C.prog.godebug = none) (started : os.Started) (noInit : C.prog.inits.idxOf? f = none) (hfn : C.prog.funcs[f]? = some fn)
    (witness : ∃ (w : World) (tape : Tape) (i : Input), w.os = os ∧ (w.forCall tape i).Shaped C.prog ∧ i.vars = [] ∧ Input.okWide C.prog (w.forCall tape i) .any w.heap.size f i ∧
      ((s.pre enc C.prog fn conds apart (w.forCall tape i).memory i.args ∧ X (w.forCall tape i).memory i.args) ∧ sizedMet enc C.prog fn (OpenSpec.ofChange s) apart (w.forCall tape i).memory i.args) ∧ a.holds C.prog (lone (Frame.enter C.prog f i.args .normal) [] (w.forCall tape i)))
    (walk : ∀ (W : World) (base : Nat) (args : Array Value) (ds gs : List (DataW H)) (before : List MemPlace),
      (∀ (j : Nat) t v, fn.params[j]? = some t → args[j]? = some v → Value.okWide C.prog W .any base t v) →
      DataW.Whole enc C.prog fn.params.toList s.vars apart W args.toList ds gs before → X W args → W.ShapedOpen C.prog →
      Calls C.prog f args W fun e W' => ∃ v, e = .returned v ∧ s.post enc C.prog fn apart fresh handsOn again W args v W') :
    ReturnsInHanded a C os f .any (fun w args => (s.pre enc C.prog fn conds apart w args ∧ X w args) ∧ sizedMet enc C.prog fn (OpenSpec.ofChange s) apart w args) (s.post enc C.prog fn apart fresh handsOn again) := by
  refine returnsInHanded_of_calls own started noInit witness ?_
  intro w tape i _ hsh _ hok hpre _
  obtain ⟨_, _, _, fn', hfn', _, _, _, _, hval⟩ := hok
  obtain rfl : fn' = fn := Option.some.inj (hfn'.symm.trans hfn)
  obtain ⟨⟨⟨ds, gs, before, hw, _⟩, hx⟩, _⟩ := hpre
  refine (walk (w.forCall tape i) w.heap.size i.args ds gs before hval (DataW.Whole.of_heap (w' := w.forCall tape i) (by rfl) hw) (hX _ _ _ (by rfl) hx) hsh).mono fun e W' ⟨v, he, hp⟩ => ?_
  subst he
  exact ChangeSpec.post_blind hp
end Go.Proofs.YtholbmidciapdaaGreatDoor.X
namespace Go.Proofs.YtholbmidciapdaaGreatDoor.tariffDuties
open Go Go.ChangeShapes Go.WideShapes Go.ChangeAt Go.RowKit
open Go.ChangeMaps (open_string shut_string)
open Go.Proofs.YtholbmidciapdaaGreatDoorW.PrintWords Go.Proofs.YtholbmidciapdaaGreatDoor.O Go.Proofs.YtholbmidciapdaaGreatDoor.Opn Go.Proofs.YtholbmidciapdaaGreatDoor.Pr Go.Proofs.YtholbmidciapdaaGreatDoor.X
theorem own : ownKnob Tryz.prog.godebug = none := by kernel_rfl
theorem laidOut : laidOutB Tryz.prog = true := by kernel_rfl
abbrev laidL : List (String × DataW Unit) := [("math/bits.deBruijn32tab", Rows.laid_math_bits_deBruijn32tab), ("math/bits.deBruijn64tab", Rows.laid_math_bits_deBruijn64tab), ("internal/strconv.uint64pow10", Rows.laid_internal_strconv_uint64pow10), ("unicode/utf8.acceptRanges", Rows.laid_unicode_utf8_acceptRanges), ("strconv.ErrRange", Rows.laid_strconv_ErrRange), ("strconv.ErrSyntax", Rows.laid_strconv_ErrSyntax), ("spile/tariff.words", Rows.laid_spile_tariff_words), ("unicode/utf8.first", Rows.laid_unicode_utf8_first)]
set_option maxRecDepth 100000 in
theorem lifted (os : Os) (started : os.Started) (H : Type) (enc : TypeId × Value → H) :
    ReturnsInHanded {} Tryz.checked os 5 .any (fun w args => (Rows.tariffDutiesSpec.pre enc Tryz.prog Tryz.f5 [] false w args ∧ laidMetH Tryz.prog laidL w) ∧ sizedMet enc Tryz.prog Tryz.f5 (OpenSpec.ofChange Rows.tariffDutiesSpec) false w args)
      (Rows.tariffDutiesSpec.post enc Tryz.prog Tryz.f5 false true false false) := by
  refine wrap_shaped (C := Tryz.checked) (X := (fun w _ => laidMetH Tryz.prog laidL w)) (fun _ _ _ hh h => h.of_heap hh) own started (by kernel_rfl) Tryz.func5
    (ChangeSpec.witness_shaped (enc := enc) (C := Tryz.checked) (os := os) (X := (fun w _ => laidMetH Tryz.prog laidL w)) false (World.laidAll Tryz.prog os laidL) #[.agg #[.int .i64 0, .slice none 0 0], .int .i64 0, .int .i64 0, .int .i64 0] 8 (World.laidAll_os _ _ _) (World.shaped_of_ZipB (by kernel_rfl) (by kernel_rfl)) (by kernel_rfl) (by kernel_rfl) (by kernel_rfl) (by rw [MakeChecks.laidMetH_plain _ _ _ (by kernel_rfl)]; exact laidMet_laidAll _ (by kernel_rfl) (by kernel_rfl))) ?_
  intro W base args ds gs before hval0 hW hL hsh
  have hval : ∀ (j : Nat) t v, Tryz.f5.params[j]? = some t → args[j]? = some v → Value.okWide Tryz.prog W .any base t v := hval0
  have hW' := hW
  obtain ⟨p, q, hA0, hV, rfl, hfz, hnd⟩ := hW
  have hA : DataW.TrodAll enc Tryz.prog W 0 (fun _ => true) true Tryz.f5.params.toList args.toList ds p := hA0
  rw [Tryz.params5] at hA hval
  obtain ⟨v0, vs0, d0, ds0, p0, q0, hargs, rfl, rfl, h0, r0⟩ := trodAll_cons hA
  obtain ⟨v1, vs1, d1, ds1, p1, q1, rfl, rfl, rfl, h1, r1⟩ := trodAll_cons r0
  obtain ⟨v2, vs2, d2, ds2, p2, q2, rfl, rfl, rfl, h2, r2⟩ := trodAll_cons r1
  obtain ⟨v3, vs3, d3, ds3, p3, q3, rfl, rfl, rfl, h3, r3⟩ := trodAll_cons r2
  obtain ⟨rfl, rfl, rfl⟩ := trodAll_nil r3
  obtain rfl : args = #[v0, v1, v2, v3] := by cases args; simp_all
  obtain ⟨rfl, rfl⟩ := trodVars_none hV
  obtain ⟨cs0, rfl, _⟩ := okWide_struct Tryz.underlying24 (hval 0 24 v0 rfl rfl)
  have k0 := h0
  have lt0 : ∀ x ∈ p0, x.block < W.heap.size := by obtain ⟨m, hm⟩ := k0; exact DataW.trod_lt m _ _ _ hm
  obtain ⟨x0, K0, ok0⟩ : ∃ x, k24.K W x cs0.toList ∧ ok24 x := by
    obtain ⟨fuel, hf⟩ := h0
    exact opens24.2 _ _ _ _ _ _ _ _ _ hf
  obtain ⟨A0_1, c0_1, e0, g0_1, hr0_1⟩ := k24_open K0
  obtain rfl : cs0 = #[.int .i64 (x0.f0), .slice A0_1 (x0.f1).length c0_1] := by cases cs0; simpa using e0
  obtain ⟨a1, rfl, rfl, rfl, w1⟩ := open_int Tryz.underlying3 (hval 1 3 v1 rfl rfl) h1
  obtain ⟨a2, rfl, rfl, rfl, w2⟩ := open_int Tryz.underlying3 (hval 2 3 v2 rfl rfl) h2
  obtain ⟨a3, rfl, rfl, rfl, w3⟩ := open_int Tryz.underlying3 (hval 3 3 v3 rfl rfl) h3
  clear hA0 hval0
  obtain ⟨k, hp⟩ := Pure.TariffDuties (x0.f0) (x0.f1) a1 a2 a3 ok0.1 ok0.2 w1 w2 w3
  have hG : GI W := GI.of_laid laidL (by simp [laidL]) (by simp [laidL]) (by simp [laidL]) (by simp [laidL]) hL hsh
  refine (spilelaw46_TariffDuties.calls k (x0.f0) _ _ (x0.f1) a1 a2 a3 true W hr0_1 g0_1 hG rfl hp).mono fun e W' ⟨he, bel⟩ => ?_
  subst he
  exact ⟨_, rfl, _, _, _, [], _, [], hW', trodAll_mk1 (shut_bool Tryz.underlying4 _), (trodAll_cons_mk (Below.trod laidOut (by kernel_rfl) (of_decide_eq_true (by kernel_rfl)) k0 bel lt0) (trodAll_cons_mk (shut_int Tryz.underlying3 w1) (trodAll_cons_mk (shut_int Tryz.underlying3 w2) (trodAll_cons_mk (shut_int Tryz.underlying3 w3) trodAll_mk0)))), rfl, bel.frame _, fun h => by cases h⟩
theorem holds : Rows.TariffDutiesSaid :=
  OpenClaim.holds_of_wide 5 Tryz.f5 rfl rfl rfl rfl rfl rfl rfl ⟨rfl, rfl, rfl, rfl, rfl⟩ rfl rfl rfl rfl rfl (by kernel_rfl) Tryz.func5 (by kernel_rfl)
    (of_decide_eq_true (by kernel_rfl)) (by unfold Func.isWrapper; first | (rw [if_pos (by decide +kernel)]; kernel_rfl) | (rw [if_neg (by decide +kernel)]; exact ⟨rfl, rfl⟩))
    (fun os started H enc _ => lifted os started H enc)
theorem card : Rows.TariffDutiesCardSaid :=
  Claim7.holds_tied_plain_at .later [] [.data, .data, .data, .data, .sentinel, .sentinel, .widerDeep, .pinned] true (true, "e915a9bdfe9e1389aaf186e88c341004cfdabf0ce269b5d3aa2c8944f7f7b486") true
    holds (fun _ h => by cases h) (by kernel_rfl) (fun _ h => by cases h) tariffDuties_row_tie rfl ⟨rfl, rfl⟩ (by kernel_rfl) rfl
    (fun f fn hf hfn => by
      obtain rfl : f = 5 := Option.some.inj ((show Tryz.prog.funcNamed "spile/spilelaw46.TariffDuties" = some 5 by kernel_rfl).symm.trans hf) |>.symm
      obtain rfl : fn = Tryz.f5 := (Option.some.inj (Tryz.func5.symm.trans hfn)).symm
      exact ⟨by kernel_rfl, fun j t ht => by
        rw [Tryz.params5] at ht
        have hm : t ∈ [24, 3, 3, 3] := by simpa using Array.mem_of_getElem? ht
        have hall : ([24, 3, 3, 3].all fun u => !Tryz.prog.wantsStandIn u) = true := by kernel_rfl
        exact (show Tryz.prog.wantsStandIn t = false by simpa using List.all_eq_true.1 hall t hm)⟩)
    (by kernel_rfl)
end Go.Proofs.YtholbmidciapdaaGreatDoor.tariffDuties
namespace Go.Proofs.YtholbmidciapdaaGreatDoor
/-- The card, under a short name, for the claim. -/
theorem tariffDuties_holds : Rows.TariffDutiesCardSaid := tariffDuties.card
#print axioms tariffDuties_holds
end Go.Proofs.YtholbmidciapdaaGreatDoor
