/-
A part of what these laws rest on: contracts of the functions that they reach, and plain lemmas.
-/
import Derived.Shelf.Spec.SlicesInsertGrow
import Derived.Lib.AppendZerosOnto
import Derived.Shelf.SlSortFuncK.RowK2
import Derived.Deep.Upon
import Derived.Test.YtholbmidciapdaaGreatDoorTariffRatesB
set_option linter.unusedVariables false
set_option linter.unusedSimpArgs false
namespace Go.Proofs.YtholbmidciapdaaGreatDoor.Pr
open Go.RowKit Go.Proofs.YtholbmidciapdaaGreatDoorW.PrintWords Go.Proofs.YtholbmidciapdaaGreatDoorW.PrintLast Go.Proofs.YtholbmidciapdaaGreatDoorW.PrintMore Go.Proofs.YtholbmidciapdaaGreatDoor.X
attribute [local go_sem] max2_int min2_int max_two min_two max_three min_three max_four min_four   -- for this text's walks alone
set_option linter.unusedVariables false
set_option linter.unusedSimpArgs false
def tariff_Greatest.l0 : Nat → Int → Int → Int → Bool → List (S26) → Int → Int → Int → Int → Int → Option (Int × Int × Int × Int)
 | 0, _, _, _, _, _, _, _, _, _, _ => none
 | k + 1, x1, x2, x3, x12, x32, x33, x34, x163000, x163001, x163002 => if x34 < x33 then (if 0 ≤ x34 then (if x34 < (x32.length : Int) then (if ((rd_T26 x32 x34).f0) = x1 then ((tariff_within.f ((rd_T26 x32 x34).f1) x2 x3).bind fun t165 => (if t165 = true then (if x12 = true then (if ((rd_T26 x32 x34).f2) > x163002 then (tariff_Greatest.l0 k x1 x2 x3 true x32 x33 (wrap64 (x34 + 1)) ((rd_T26 x32 x34).f0) ((rd_T26 x32 x34).f1) ((rd_T26 x32 x34).f2)) else (tariff_Greatest.l0 k x1 x2 x3 x12 x32 x33 (wrap64 (x34 + 1)) x163000 x163001 x163002)) else (tariff_Greatest.l0 k x1 x2 x3 true x32 x33 (wrap64 (x34 + 1)) ((rd_T26 x32 x34).f0) ((rd_T26 x32 x34).f1) ((rd_T26 x32 x34).f2))) else (tariff_Greatest.l0 k x1 x2 x3 x12 x32 x33 (wrap64 (x34 + 1)) x163000 x163001 x163002))) else (tariff_Greatest.l0 k x1 x2 x3 x12 x32 x33 (wrap64 (x34 + 1)) x163000 x163001 x163002)) else (none)) else (none)) else (if x12 = true then (some (x163000, x163001, x163002, 0)) else (some (0, 0, 0, 7)))
def tariff_Greatest.f (k : Nat) (a0_0 : Int) (l0_1 : List (S26)) (a1 : Int) (a2 : Int) (a3 : Int) : Option (Int × Int × Int × Int) := (tariff_span.f k a0_0 l0_1 a1 a2 a3).bind fun t157 => (if t157 = 0 then ((tariff_force.f k a0_0 l0_1 a1 a2).bind fun bt158 => (tariff_Greatest.l0 k a1 a2 a3 bt158.2.2.2 l0_1 (l0_1.length : Int) 0 bt158.1 bt158.2.1 bt158.2.2.1)) else (some (0, 0, 0, t157)))
set_option maxHeartbeats 8000000 in
set_option maxRecDepth 100000 in
theorem tariff_Greatest.calls (k : Nat) (a0_0 : Int) (A0_1 : Option Addr) (c0_1 : Nat) (l0_1 : List (S26)) (a1 : Int) (a2 : Int) (a3 : Int) (r1 : Int) (r2 : Int) (r3 : Int) (r4 : Int) (w : World) (hr0_1 : Kd.C k26 w A0_1 l0_1.length l0_1) (hc0_1 : l0_1.length ≤ c0_1) (h : tariff_Greatest.f k a0_0 l0_1 a1 a2 a3 = some (r1, r2, r3, r4)) :
  Calls Tryz.prog 21 #[.agg #[.int .i64 a0_0, .slice A0_1 l0_1.length c0_1], .int .i64 a1, .int .i64 a2, .int .i64 a3] w fun e w' => e = .returned (.tuple #[.agg #[.int .i64 r1, .int .i64 r2, .int .i64 r3], .int .i64 r4]) ∧ Below w.heap.size w w' := by
 have hu24 := Tryz.underlying24; have hu26 := Tryz.underlying26; have HR0_1 := Aside0.mk hr0_1; have HC0_1 := Aside0.mk hc0_1; clear hr0_1 hc0_1; have HB := Aside0.mk (Below.refl w.heap.size w); have H : ((tariff_span.f k a0_0 l0_1 a1 a2 a3).bind fun t157 => (if t157 = 0 then ((tariff_force.f k a0_0 l0_1 a1 a2).bind fun bt158 => (tariff_Greatest.l0 k a1 a2 a3 bt158.2.2.2 l0_1 (l0_1.length : Int) 0 bt158.1 bt158.2.1 bt158.2.2.1)) else (some (0, 0, 0, t157)))) = some (r1, r2, r3, r4) := h; clear h; replace H := Option.bind_eq_some_iff.mp H; obtain ⟨t157, A50, H⟩ := H; replace H : (if t157 = 0 then ((tariff_force.f k a0_0 l0_1 a1 a2).bind fun bt158 => (tariff_Greatest.l0 k a1 a2 a3 bt158.2.2.2 l0_1 (l0_1.length : Int) 0 bt158.1 bt158.2.1 bt158.2.2.1)) else (some (0, 0, 0, t157))) = some (r1, r2, r3, r4) := H; have A5 := Aside0.mk A50; clear A50; by_cases c6 : t157 = 0
 ·
  rw [if_pos c6] at H; have c6b0 : (t157 == 0) = true := beq_iff_eq.mpr c6; have c6b1 : (t157 != 0) = false := bne_eq_false_iff_eq.mpr c6; clear c6; replace H := Option.bind_eq_some_iff.mp H; obtain ⟨⟨t158, t159, t160, t161⟩, A70, H⟩ := H; replace H : (tariff_Greatest.l0 k a1 a2 a3 t161 l0_1 (l0_1.length : Int) 0 t158 t159 t160) = some (r1, r2, r3, r4) := H; have A7 := Aside0.mk A70; clear A70; have H' := Aside0.mk H; clear H; go_enter Tryz.func21, Tryz.ntmps21
  go_wp2_with (first | ((with_reducible refine gate_dst (N := 4) rfl ?_); refine box_event ?hg (N := 4) ?hd (cs := #[.int .i64 a0_0, .slice A0_1 l0_1.length c0_1]) (t := 24) ?hr ?_; (case hd => rfl); (case hg => rfl); (case hr => first | (go_simp; done) | (go_simp; rfl)); intro gb155 hg w8 hbox hb; have n0_ := Aside0.mk (below_step (eG HB.out) hb); have n1_ := Aside0.mk (hbox); have n2_ := Aside0.mk ((by rw [hg]; exact (below_size (eG HB.out)) : w.heap.size ≤ gb155)); have n3_ := Aside0.mk ((by rw [hg]; exact (below_size (eG HB.out)) : w.heap.size ≤ gb155)); clear HB; have HB := n0_; have BK155 := n1_; have GW155 := n2_; have GE155 := n3_; have ig155_ := geI GE155; clear n0_ n1_ n2_ n3_; clear hb hbox hg) | ((with_reducible refine gate_dst (N := 8) rfl ?_); refine box_event ?hg (N := 8) ?hd (cs := #[.int .i64 0, .int .i64 0, .int .i64 0]) (t := 26) ?hr ?_; (case hd => rfl); (case hg => rfl); (case hr => first | (go_simp; done) | (go_simp; rfl)); intro gb156 hg w9 hbox hb; have n0_ := Aside0.mk (blk_below (bG BK155.out) hb); have n1_ := Aside0.mk (below_step (eG HB.out) hb); have n2_ := Aside0.mk (hbox); have n3_ := Aside0.mk ((by rw [hg]; exact (below_size (eG HB.out)) : w.heap.size ≤ gb156)); have n4_ := Aside0.mk ((by rw [hg]; exact (below_size (eG HB.out)) : w.heap.size ≤ gb156)); have n5_ := Aside0.mk ((by rw [hg]; exact Nat.ne_of_lt (blk_lt (bG BK155.out)) : gb155 ≠ gb156)); have n6_ := Aside0.mk ((by rw [hg]; exact Nat.ne_of_gt (blk_lt (bG BK155.out)) : gb156 ≠ gb155)); clear BK155; clear HB; have BK155 := n0_; have HB := n1_; have BK156 := n2_; have GW156 := n3_; have GE156 := n4_; have ig156_ := geI GE156; have NB155_156 := n5_; have NB156_155 := n6_; clear n0_ n1_ n2_ n3_ n4_ n5_ n6_; clear hb hbox hg; have hnb10 := NB155_156.out; have hnc10 := NB156_155.out; have hcz11_0 : w9.cell? ⟨gb155, 0, none⟩ = some (.int .i64 a0_0) := (blk_cell BK155.out 0).trans rfl; have hcz11_1 : w9.cell? ⟨gb155, 1, none⟩ = some (.slice A0_1 l0_1.length c0_1) := (blk_cell BK155.out 1).trans rfl; have hfz11_0 := blk_frozen BK155.out 0; have hfz11_1 := blk_frozen BK155.out 1) | ((with_reducible refine gate_callee (f := 48) rfl ?_); refine goesL_ (some 19) rfl rfl Tryz.func48 (by kernel_rfl) rfl #[.agg #[.int .i64 a0_0, .slice A0_1 l0_1.length c0_1], .int .i64 a1, .int .i64 a2, .int .i64 a3] rfl (by (try simp only [List.map_toArray, List.map_cons, List.map_nil]); first | done | rfl | (simp only [List.length_drop, List.length_take]; rfl)) ?_; (with_reducible refine (tariff_span.calls k a0_0 _ _ l0_1 a1 a2 a3 t157 _ ?side1 ?side2 A5.out).mono ?_); (case side1 => repeat (first | exact (Kd.C_below HR0_1.out HB.out) | (with_reducible refine Kd.C_alloc ?_ _) | (with_reducible refine Kd.C_drewN ?_ _) | (with_reducible refine Kd.C_drew ?_))); (case side2 => exact HC0_1.out); rintro e w12 ⟨rfl, hb⟩; refine ⟨_, rfl, ?_⟩; have n0_ := Aside0.mk (blk_below (bG BK155.out) hb); have n1_ := Aside0.mk (blk_below (bG BK156.out) hb); have n2_ := Aside0.mk (below_step (eG HB.out) hb); clear BK155; clear BK156; clear HB; have BK155 := n0_; have BK156 := n1_; have HB := n2_; clear n0_ n1_ n2_; (try clear hb); (try clear hb2); (try clear hk); (try clear hi); have hcz13_0 : w12.cell? ⟨gb155, 0, none⟩ = some (.int .i64 a0_0) := (blk_cell BK155.out 0).trans rfl; have hcz13_1 : w12.cell? ⟨gb155, 1, none⟩ = some (.slice A0_1 l0_1.length c0_1) := (blk_cell BK155.out 1).trans rfl; have hfz13_0 := blk_frozen BK155.out 0; have hfz13_1 := blk_frozen BK155.out 1) | ((with_reducible refine gate_callee (f := 45) rfl ?_); refine goesL_ (some 28) rfl rfl Tryz.func45 (by kernel_rfl) rfl #[.agg #[.int .i64 a0_0, .slice A0_1 l0_1.length c0_1], .int .i64 a1, .int .i64 a2] rfl (by (try simp only [List.map_toArray, List.map_cons, List.map_nil]); first | done | rfl | (simp only [List.length_drop, List.length_take]; rfl)) ?_; (with_reducible refine (tariff_force.calls k a0_0 _ _ l0_1 a1 a2 t158 t159 t160 t161 _ ?side1 ?side2 A7.out).mono ?_); (case side1 => repeat (first | exact (Kd.C_below HR0_1.out HB.out) | (with_reducible refine Kd.C_alloc ?_ _) | (with_reducible refine Kd.C_drewN ?_ _) | (with_reducible refine Kd.C_drew ?_))); (case side2 => exact HC0_1.out); rintro e w14 ⟨rfl, hb⟩; refine ⟨_, rfl, ?_⟩; have n0_ := Aside0.mk (blk_below (bG BK155.out) hb); have n1_ := Aside0.mk (blk_below (bG BK156.out) hb); have n2_ := Aside0.mk (below_step (eG HB.out) hb); clear BK155; clear BK156; clear HB; have BK155 := n0_; have BK156 := n1_; have HB := n2_; clear n0_ n1_ n2_; (try clear hb); (try clear hb2); (try clear hk); (try clear hi)) | ((with_reducible refine gate_dst (N := 11) rfl ?_); refine box_event ?hg (N := 11) ?hd (cs := #[.int .i64 0, .int .i64 0, .int .i64 0]) (t := 26) ?hr ?_; (case hd => rfl); (case hg => rfl); (case hr => first | (go_simp; done) | (go_simp; rfl)); intro gb162 hg w15 hbox hb; have n0_ := Aside0.mk (blk_below (bG BK155.out) hb); have n1_ := Aside0.mk (blk_below (bG BK156.out) hb); have n2_ := Aside0.mk (below_step (eG HB.out) hb); have n3_ := Aside0.mk (hbox); have n4_ := Aside0.mk ((by rw [hg]; exact (below_size (eG HB.out)) : w.heap.size ≤ gb162)); have n5_ := Aside0.mk ((by rw [hg]; exact (below_size (eG HB.out)) : w.heap.size ≤ gb162)); have n6_ := Aside0.mk ((by rw [hg]; exact Nat.ne_of_lt (blk_lt (bG BK155.out)) : gb155 ≠ gb162)); have n7_ := Aside0.mk ((by rw [hg]; exact Nat.ne_of_gt (blk_lt (bG BK155.out)) : gb162 ≠ gb155)); have n8_ := Aside0.mk ((by rw [hg]; exact Nat.ne_of_lt (blk_lt (bG BK156.out)) : gb156 ≠ gb162)); have n9_ := Aside0.mk ((by rw [hg]; exact Nat.ne_of_gt (blk_lt (bG BK156.out)) : gb162 ≠ gb156)); clear BK155; clear BK156; clear HB; have BK155 := n0_; have BK156 := n1_; have HB := n2_; have BK162 := n3_; have GW162 := n4_; have GE162 := n5_; have ig162_ := geI GE162; have NB155_162 := n6_; have NB162_155 := n7_; have NB156_162 := n8_; have NB162_156 := n9_; clear n0_ n1_ n2_ n3_ n4_ n5_ n6_ n7_ n8_ n9_; clear hb hbox hg; have hnb16 := NB162_155.out; have hnc16 := NB155_162.out; have hnb17 := NB162_156.out; have hnc17 := NB156_162.out; have hcz18_0 : w15.cell? ⟨gb162, 0, none⟩ = some (.int .i64 0) := (blk_cell BK162.out 0).trans rfl; have hcz18_1 : w15.cell? ⟨gb162, 1, none⟩ = some (.int .i64 0) := (blk_cell BK162.out 1).trans rfl; have hcz18_2 : w15.cell? ⟨gb162, 2, none⟩ = some (.int .i64 0) := (blk_cell BK162.out 2).trans rfl; have hfz18_0 := blk_frozen BK162.out 0; have hfz18_1 := blk_frozen BK162.out 1; have hfz18_2 := blk_frozen BK162.out 2; have hcz19_0 : w15.cell? ⟨gb155, 0, none⟩ = some (.int .i64 a0_0) := (blk_cell BK155.out 0).trans rfl; have hcz19_1 : w15.cell? ⟨gb155, 1, none⟩ = some (.slice A0_1 l0_1.length c0_1) := (blk_cell BK155.out 1).trans rfl; have hfz19_0 := blk_frozen BK155.out 0; have hfz19_1 := blk_frozen BK155.out 1))
  go_loopg [12, 34] k (fun kq v12 v34 w' => ∃ (x12_1 : Bool) (x34_1 : Int) (x163000_1 : Int) (x163001_1 : Int) (x163002_1 : Int), v12 = .bool x12_1 ∧ v34 = .int .i64 x34_1 ∧ Aside0 (tariff_Greatest.l0 kq a1 a2 a3 x12_1 l0_1 (l0_1.length : Int) x34_1 x163000_1 x163001_1 x163002_1 = some (r1, r2, r3, r4)) ∧ Aside0 (kq ≤ k) ∧ Aside0 (w'.heap[gb155]? = some (.cells #[.int .i64 a0_0, (.slice A0_1 l0_1.length c0_1)] 24 (0, 0))) ∧ Aside0 (w'.heap[gb156]? = some (.cells #[.int .i64 0, .int .i64 0, .int .i64 0] 26 (0, 0))) ∧ Aside0 (w'.heap[gb162]? = some (.cells #[.int .i64 x163000_1, .int .i64 x163001_1, .int .i64 x163002_1] 26 (0, 0))) ∧ Aside0 (Below w.heap.size w w'))
  case atStart => exact ⟨(t161), (0), (t158), (t159), (t160), (by first | rfl | (simp; done) | (simp [*]; done)), (by first | rfl | (simp; done) | (simp [*]; done)), H', ⟨Nat.le_refl _⟩, ⟨by (with_reducible repeat first | apply bN | apply bD | apply bA); refine blk_far ?_ NB155_162.out _; (with_reducible repeat first | apply bN | apply bD | apply bA); refine blk_far ?_ NB155_162.out _; (with_reducible repeat first | apply bN | apply bD | apply bA); refine blk_far ?_ NB155_162.out _; (with_reducible repeat first | apply bN | apply bD | apply bA); exact BK155.out⟩, ⟨by (with_reducible repeat first | apply bN | apply bD | apply bA); refine blk_far ?_ NB156_162.out _; (with_reducible repeat first | apply bN | apply bD | apply bA); refine blk_far ?_ NB156_162.out _; (with_reducible repeat first | apply bN | apply bD | apply bA); refine blk_far ?_ NB156_162.out _; (with_reducible repeat first | apply bN | apply bD | apply bA); exact BK156.out⟩, ⟨by (with_reducible repeat first | apply bN | apply bD | apply bA); refine blk_put (cs := #[.int .i64 t158, .int .i64 t159, .int .i64 0]) ?_ 2 _ rfl; (with_reducible repeat first | apply bN | apply bD | apply bA); refine blk_put (cs := #[.int .i64 t158, .int .i64 0, .int .i64 0]) ?_ 1 _ rfl; (with_reducible repeat first | apply bN | apply bD | apply bA); refine blk_put (cs := #[.int .i64 0, .int .i64 0, .int .i64 0]) ?_ 0 _ rfl; (with_reducible repeat first | apply bN | apply bD | apply bA); exact BK162.out⟩, ⟨eG HB.out⟩⟩
  case round =>
   clear H'; repeat first | clear c1 | clear c2 | clear p2 | clear c4 | clear c6 | clear c6b0 | clear c6b1 | clear c10 | clear c16 | clear c17 | clear hcz11_0 | clear hcz11_1 | clear hcz13_0 | clear hcz13_1 | clear hcz18_0 | clear hcz18_1 | clear hcz18_2 | clear hcz19_0 | clear hcz19_1 | clear hfz11_0 | clear hfz11_1 | clear hfz13_0 | clear hfz13_1 | clear hfz18_0 | clear hfz18_1 | clear hfz18_2 | clear hfz19_0 | clear hfz19_1
   obtain ⟨x12_1, x34_1, x163000_1, x163001_1, x163002_1, rfl, rfl, HA, HK1, BK155, BK156, BK162, HB⟩ := hrel
   cases gk with
   | zero => exact absurd HA.out (by simp [tariff_Greatest.l0])
   | succ k1 =>
    have H := HA.out; clear HA; simp only [tariff_Greatest.l0] at H; by_cases c20 : x34_1 < (l0_1.length : Int)
    ·
     rw [if_pos c20] at H; have c20b0 : decide (x34_1 < (l0_1.length : Int)) = true := decide_eq_true c20; clear c20; by_cases c21 : 0 ≤ x34_1
     ·
      rw [if_pos c21] at H; have c21b0 : decide (0 ≤ x34_1) = true := decide_eq_true c21; clear c21; by_cases c22 : x34_1 < (l0_1.length : Int)
      ·
       rw [if_pos c22] at H; have c22b0 : decide (x34_1 < (l0_1.length : Int)) = true := decide_eq_true c22; clear c22; by_cases c23 : ((rd_T26 l0_1 x34_1).f0) = a1
       ·
        rw [if_pos c23] at H; have c23b0 : (((rd_T26 l0_1 x34_1).f0) == a1) = true := beq_iff_eq.mpr c23; have c23b1 : (((rd_T26 l0_1 x34_1).f0) != a1) = false := bne_eq_false_iff_eq.mpr c23; clear c23; replace H := Option.bind_eq_some_iff.mp H; obtain ⟨t165, A240, H⟩ := H; replace H : (if t165 = true then (if x12_1 = true then (if ((rd_T26 l0_1 x34_1).f2) > x163002_1 then (tariff_Greatest.l0 k1 a1 a2 a3 true l0_1 (l0_1.length : Int) (wrap64 (x34_1 + 1)) ((rd_T26 l0_1 x34_1).f0) ((rd_T26 l0_1 x34_1).f1) ((rd_T26 l0_1 x34_1).f2)) else (tariff_Greatest.l0 k1 a1 a2 a3 x12_1 l0_1 (l0_1.length : Int) (wrap64 (x34_1 + 1)) x163000_1 x163001_1 x163002_1)) else (tariff_Greatest.l0 k1 a1 a2 a3 true l0_1 (l0_1.length : Int) (wrap64 (x34_1 + 1)) ((rd_T26 l0_1 x34_1).f0) ((rd_T26 l0_1 x34_1).f1) ((rd_T26 l0_1 x34_1).f2))) else (tariff_Greatest.l0 k1 a1 a2 a3 x12_1 l0_1 (l0_1.length : Int) (wrap64 (x34_1 + 1)) x163000_1 x163001_1 x163002_1)) = some (r1, r2, r3, r4) := H; have A24 := Aside0.mk A240; clear A240; by_cases c25 : t165 = true
        ·
         subst c25; replace H : (if x12_1 = true then (if ((rd_T26 l0_1 x34_1).f2) > x163002_1 then (tariff_Greatest.l0 k1 a1 a2 a3 true l0_1 (l0_1.length : Int) (wrap64 (x34_1 + 1)) ((rd_T26 l0_1 x34_1).f0) ((rd_T26 l0_1 x34_1).f1) ((rd_T26 l0_1 x34_1).f2)) else (tariff_Greatest.l0 k1 a1 a2 a3 x12_1 l0_1 (l0_1.length : Int) (wrap64 (x34_1 + 1)) x163000_1 x163001_1 x163002_1)) else (tariff_Greatest.l0 k1 a1 a2 a3 true l0_1 (l0_1.length : Int) (wrap64 (x34_1 + 1)) ((rd_T26 l0_1 x34_1).f0) ((rd_T26 l0_1 x34_1).f1) ((rd_T26 l0_1 x34_1).f2))) = some (r1, r2, r3, r4) := by rw [if_pos rfl] at H; exact H
         by_cases c26 : x12_1 = true
         ·
          subst c26; replace H : (if ((rd_T26 l0_1 x34_1).f2) > x163002_1 then (tariff_Greatest.l0 k1 a1 a2 a3 true l0_1 (l0_1.length : Int) (wrap64 (x34_1 + 1)) ((rd_T26 l0_1 x34_1).f0) ((rd_T26 l0_1 x34_1).f1) ((rd_T26 l0_1 x34_1).f2)) else (tariff_Greatest.l0 k1 a1 a2 a3 true l0_1 (l0_1.length : Int) (wrap64 (x34_1 + 1)) x163000_1 x163001_1 x163002_1)) = some (r1, r2, r3, r4) := by rw [if_pos rfl] at H; exact H
          by_cases c27 : ((rd_T26 l0_1 x34_1).f2) > x163002_1
          ·
           rw [if_pos c27] at H; have c27b0 : decide (x163002_1 < ((rd_T26 l0_1 x34_1).f2)) = true := decide_eq_true c27; clear c27; have H' := Aside0.mk H; clear H; have p163 : 0 ≤ (x34_1 : Int) := of_decide_eq_true (by first | (with_reducible assumption) | assumption); have q163 : x34_1 < (l0_1.length : Int) := of_decide_eq_true (by first | (with_reducible assumption) | assumption); obtain ⟨ad163, e163, hx163_0, hx163_1, hx163_2⟩ := at_T26 HR0_1.out x34_1 p163 q163; cases e163; replace hx163_0 := (HB.out.cell (World.block_lt_of_cell? w _ hx163_0)).trans hx163_0; replace hx163_1 := (HB.out.cell (World.block_lt_of_cell? w _ hx163_1)).trans hx163_1; replace hx163_2 := (HB.out.cell (World.block_lt_of_cell? w _ hx163_2)).trans hx163_2; replace p163 := eq_true p163; replace q163 := eq_true q163; go_wp2_with (first | ((with_reducible refine gate_dst (N := 14) rfl ?_); refine box_event ?hg (N := 14) ?hd (cs := #[.int .i64 0, .int .i64 0, .int .i64 0]) (t := 26) ?hr ?_; (case hd => rfl); (case hg => rfl); (case hr => first | (go_simp; done) | (go_simp; rfl)); intro gb164 hg w28 hbox hb; have n0_ := Aside0.mk (blk_below (bG BK155.out) hb); have n1_ := Aside0.mk (blk_below (bG BK156.out) hb); have n2_ := Aside0.mk (blk_below (bG BK162.out) hb); have n3_ := Aside0.mk (below_step (eG HB.out) hb); have n4_ := Aside0.mk (hbox); have n5_ := Aside0.mk ((by rw [hg]; exact (below_size (eG HB.out)) : w.heap.size ≤ gb164)); have n6_ := Aside0.mk ((by rw [hg]; exact (below_size (eG HB.out)) : w.heap.size ≤ gb164)); have n7_ := Aside0.mk ((by rw [hg]; exact Nat.ne_of_lt (blk_lt (bG BK155.out)) : gb155 ≠ gb164)); have n8_ := Aside0.mk ((by rw [hg]; exact Nat.ne_of_gt (blk_lt (bG BK155.out)) : gb164 ≠ gb155)); have n9_ := Aside0.mk ((by rw [hg]; exact Nat.ne_of_lt (blk_lt (bG BK156.out)) : gb156 ≠ gb164)); have n10_ := Aside0.mk ((by rw [hg]; exact Nat.ne_of_gt (blk_lt (bG BK156.out)) : gb164 ≠ gb156)); have n11_ := Aside0.mk ((by rw [hg]; exact Nat.ne_of_lt (blk_lt (bG BK162.out)) : gb162 ≠ gb164)); have n12_ := Aside0.mk ((by rw [hg]; exact Nat.ne_of_gt (blk_lt (bG BK162.out)) : gb164 ≠ gb162)); clear BK155; clear BK156; clear BK162; clear HB; have BK155 := n0_; have BK156 := n1_; have BK162 := n2_; have HB := n3_; have BK164 := n4_; have GW164 := n5_; have GE164 := n6_; have ig164_ := geI GE164; have NB155_164 := n7_; have NB164_155 := n8_; have NB156_164 := n9_; have NB164_156 := n10_; have NB162_164 := n11_; have NB164_162 := n12_; clear n0_ n1_ n2_ n3_ n4_ n5_ n6_ n7_ n8_ n9_ n10_ n11_ n12_; clear hb hbox hg; have hnb29 := NB164_155.out; have hnc29 := NB155_164.out; have hnb30 := NB164_156.out; have hnc30 := NB156_164.out; have hnb31 := NB164_162.out; have hnc31 := NB162_164.out; have hcz32_0 : w28.cell? ⟨gb164, 0, none⟩ = some (.int .i64 0) := (blk_cell BK164.out 0).trans rfl; have hcz32_1 : w28.cell? ⟨gb164, 1, none⟩ = some (.int .i64 0) := (blk_cell BK164.out 1).trans rfl; have hcz32_2 : w28.cell? ⟨gb164, 2, none⟩ = some (.int .i64 0) := (blk_cell BK164.out 2).trans rfl; have hfz32_0 := blk_frozen BK164.out 0; have hfz32_1 := blk_frozen BK164.out 1; have hfz32_2 := blk_frozen BK164.out 2) | (go_at_call 35; (with_reducible refine (tariff_within.calls ((rd_T26 l0_1 x34_1).f1) a2 a3 true _ A24.out).mono ?_); rintro e w' ⟨rfl, ⟨nd, rfl⟩⟩; have hnb33 := NB162_155.out; have hnc33 := NB155_162.out; have hnb34 := NB162_156.out; have hnc34 := NB156_162.out; have hcz35_0 : w28.cell? ⟨gb162, 0, none⟩ = some (.int .i64 x163000_1) := (blk_cell BK162.out 0).trans rfl; have hcz35_1 : w28.cell? ⟨gb162, 1, none⟩ = some (.int .i64 x163001_1) := (blk_cell BK162.out 1).trans rfl; have hcz35_2 : w28.cell? ⟨gb162, 2, none⟩ = some (.int .i64 x163002_1) := (blk_cell BK162.out 2).trans rfl; have hfz35_0 := blk_frozen BK162.out 0; have hfz35_1 := blk_frozen BK162.out 1; have hfz35_2 := blk_frozen BK162.out 2))
           go_roundg k1
           case measure => have := HK1.out; omega
           case rel => exact ⟨(true), (wrap64 (x34_1 + 1)), ((rd_T26 l0_1 x34_1).f0), ((rd_T26 l0_1 x34_1).f1), ((rd_T26 l0_1 x34_1).f2), (by first | rfl | (simp; done) | (simp [*]; done)), (by first | rfl | (simp; done) | (simp [*]; done)), H', ⟨by have := HK1.out; omega⟩, ⟨by (with_reducible repeat first | apply bN | apply bD | apply bA); refine blk_far ?_ NB155_162.out _; (with_reducible repeat first | apply bN | apply bD | apply bA); refine blk_far ?_ NB155_162.out _; (with_reducible repeat first | apply bN | apply bD | apply bA); refine blk_far ?_ NB155_162.out _; (with_reducible repeat first | apply bN | apply bD | apply bA); refine blk_far ?_ NB155_164.out _; (with_reducible repeat first | apply bN | apply bD | apply bA); refine blk_far ?_ NB155_164.out _; (with_reducible repeat first | apply bN | apply bD | apply bA); refine blk_far ?_ NB155_164.out _; (with_reducible repeat first | apply bN | apply bD | apply bA); exact BK155.out⟩, ⟨by (with_reducible repeat first | apply bN | apply bD | apply bA); refine blk_far ?_ NB156_162.out _; (with_reducible repeat first | apply bN | apply bD | apply bA); refine blk_far ?_ NB156_162.out _; (with_reducible repeat first | apply bN | apply bD | apply bA); refine blk_far ?_ NB156_162.out _; (with_reducible repeat first | apply bN | apply bD | apply bA); refine blk_far ?_ NB156_164.out _; (with_reducible repeat first | apply bN | apply bD | apply bA); refine blk_far ?_ NB156_164.out _; (with_reducible repeat first | apply bN | apply bD | apply bA); refine blk_far ?_ NB156_164.out _; (with_reducible repeat first | apply bN | apply bD | apply bA); exact BK156.out⟩, ⟨by (with_reducible repeat first | apply bN | apply bD | apply bA); refine blk_put (cs := #[.int .i64 ((rd_T26 l0_1 x34_1).f0), .int .i64 ((rd_T26 l0_1 x34_1).f1), .int .i64 x163002_1]) ?_ 2 _ rfl; (with_reducible repeat first | apply bN | apply bD | apply bA); refine blk_put (cs := #[.int .i64 ((rd_T26 l0_1 x34_1).f0), .int .i64 x163001_1, .int .i64 x163002_1]) ?_ 1 _ rfl; (with_reducible repeat first | apply bN | apply bD | apply bA); refine blk_put (cs := #[.int .i64 x163000_1, .int .i64 x163001_1, .int .i64 x163002_1]) ?_ 0 _ rfl; (with_reducible repeat first | apply bN | apply bD | apply bA); refine blk_far ?_ NB162_164.out _; (with_reducible repeat first | apply bN | apply bD | apply bA); refine blk_far ?_ NB162_164.out _; (with_reducible repeat first | apply bN | apply bD | apply bA); refine blk_far ?_ NB162_164.out _; (with_reducible repeat first | apply bN | apply bD | apply bA); exact BK162.out⟩, ⟨eG HB.out⟩⟩
          ·
           rw [if_neg c27] at H; have c27b0 : decide (x163002_1 < ((rd_T26 l0_1 x34_1).f2)) = false := decide_eq_false c27; clear c27; have H' := Aside0.mk H; clear H; have p163 : 0 ≤ (x34_1 : Int) := of_decide_eq_true (by first | (with_reducible assumption) | assumption); have q163 : x34_1 < (l0_1.length : Int) := of_decide_eq_true (by first | (with_reducible assumption) | assumption); obtain ⟨ad163, e163, hx163_0, hx163_1, hx163_2⟩ := at_T26 HR0_1.out x34_1 p163 q163; cases e163; replace hx163_0 := (HB.out.cell (World.block_lt_of_cell? w _ hx163_0)).trans hx163_0; replace hx163_1 := (HB.out.cell (World.block_lt_of_cell? w _ hx163_1)).trans hx163_1; replace hx163_2 := (HB.out.cell (World.block_lt_of_cell? w _ hx163_2)).trans hx163_2; replace p163 := eq_true p163; replace q163 := eq_true q163; go_wp2_with (first | ((with_reducible refine gate_dst (N := 14) rfl ?_); refine box_event ?hg (N := 14) ?hd (cs := #[.int .i64 0, .int .i64 0, .int .i64 0]) (t := 26) ?hr ?_; (case hd => rfl); (case hg => rfl); (case hr => first | (go_simp; done) | (go_simp; rfl)); intro gb164 hg w36 hbox hb; have n0_ := Aside0.mk (blk_below (bG BK155.out) hb); have n1_ := Aside0.mk (blk_below (bG BK156.out) hb); have n2_ := Aside0.mk (blk_below (bG BK162.out) hb); have n3_ := Aside0.mk (below_step (eG HB.out) hb); have n4_ := Aside0.mk (hbox); have n5_ := Aside0.mk ((by rw [hg]; exact (below_size (eG HB.out)) : w.heap.size ≤ gb164)); have n6_ := Aside0.mk ((by rw [hg]; exact (below_size (eG HB.out)) : w.heap.size ≤ gb164)); have n7_ := Aside0.mk ((by rw [hg]; exact Nat.ne_of_lt (blk_lt (bG BK155.out)) : gb155 ≠ gb164)); have n8_ := Aside0.mk ((by rw [hg]; exact Nat.ne_of_gt (blk_lt (bG BK155.out)) : gb164 ≠ gb155)); have n9_ := Aside0.mk ((by rw [hg]; exact Nat.ne_of_lt (blk_lt (bG BK156.out)) : gb156 ≠ gb164)); have n10_ := Aside0.mk ((by rw [hg]; exact Nat.ne_of_gt (blk_lt (bG BK156.out)) : gb164 ≠ gb156)); have n11_ := Aside0.mk ((by rw [hg]; exact Nat.ne_of_lt (blk_lt (bG BK162.out)) : gb162 ≠ gb164)); have n12_ := Aside0.mk ((by rw [hg]; exact Nat.ne_of_gt (blk_lt (bG BK162.out)) : gb164 ≠ gb162)); clear BK155; clear BK156; clear BK162; clear HB; have BK155 := n0_; have BK156 := n1_; have BK162 := n2_; have HB := n3_; have BK164 := n4_; have GW164 := n5_; have GE164 := n6_; have ig164_ := geI GE164; have NB155_164 := n7_; have NB164_155 := n8_; have NB156_164 := n9_; have NB164_156 := n10_; have NB162_164 := n11_; have NB164_162 := n12_; clear n0_ n1_ n2_ n3_ n4_ n5_ n6_ n7_ n8_ n9_ n10_ n11_ n12_; clear hb hbox hg; have hnb37 := NB164_155.out; have hnc37 := NB155_164.out; have hnb38 := NB164_156.out; have hnc38 := NB156_164.out; have hnb39 := NB164_162.out; have hnc39 := NB162_164.out; have hcz40_0 : w36.cell? ⟨gb164, 0, none⟩ = some (.int .i64 0) := (blk_cell BK164.out 0).trans rfl; have hcz40_1 : w36.cell? ⟨gb164, 1, none⟩ = some (.int .i64 0) := (blk_cell BK164.out 1).trans rfl; have hcz40_2 : w36.cell? ⟨gb164, 2, none⟩ = some (.int .i64 0) := (blk_cell BK164.out 2).trans rfl; have hfz40_0 := blk_frozen BK164.out 0; have hfz40_1 := blk_frozen BK164.out 1; have hfz40_2 := blk_frozen BK164.out 2) | (go_at_call 35; (with_reducible refine (tariff_within.calls ((rd_T26 l0_1 x34_1).f1) a2 a3 true _ A24.out).mono ?_); rintro e w' ⟨rfl, ⟨nd, rfl⟩⟩; have hnb41 := NB162_155.out; have hnc41 := NB155_162.out; have hnb42 := NB162_156.out; have hnc42 := NB156_162.out; have hcz43_0 : w36.cell? ⟨gb162, 0, none⟩ = some (.int .i64 x163000_1) := (blk_cell BK162.out 0).trans rfl; have hcz43_1 : w36.cell? ⟨gb162, 1, none⟩ = some (.int .i64 x163001_1) := (blk_cell BK162.out 1).trans rfl; have hcz43_2 : w36.cell? ⟨gb162, 2, none⟩ = some (.int .i64 x163002_1) := (blk_cell BK162.out 2).trans rfl; have hfz43_0 := blk_frozen BK162.out 0; have hfz43_1 := blk_frozen BK162.out 1; have hfz43_2 := blk_frozen BK162.out 2))
           go_roundg k1
           case measure => have := HK1.out; omega
           case rel => exact ⟨(true), (wrap64 (x34_1 + 1)), (x163000_1), (x163001_1), (x163002_1), (by first | rfl | (simp; done) | (simp [*]; done)), (by first | rfl | (simp; done) | (simp [*]; done)), H', ⟨by have := HK1.out; omega⟩, ⟨by (with_reducible repeat first | apply bN | apply bD | apply bA); refine blk_far ?_ NB155_164.out _; (with_reducible repeat first | apply bN | apply bD | apply bA); refine blk_far ?_ NB155_164.out _; (with_reducible repeat first | apply bN | apply bD | apply bA); refine blk_far ?_ NB155_164.out _; (with_reducible repeat first | apply bN | apply bD | apply bA); exact BK155.out⟩, ⟨by (with_reducible repeat first | apply bN | apply bD | apply bA); refine blk_far ?_ NB156_164.out _; (with_reducible repeat first | apply bN | apply bD | apply bA); refine blk_far ?_ NB156_164.out _; (with_reducible repeat first | apply bN | apply bD | apply bA); refine blk_far ?_ NB156_164.out _; (with_reducible repeat first | apply bN | apply bD | apply bA); exact BK156.out⟩, ⟨by (with_reducible repeat first | apply bN | apply bD | apply bA); refine blk_far ?_ NB162_164.out _; (with_reducible repeat first | apply bN | apply bD | apply bA); refine blk_far ?_ NB162_164.out _; (with_reducible repeat first | apply bN | apply bD | apply bA); refine blk_far ?_ NB162_164.out _; (with_reducible repeat first | apply bN | apply bD | apply bA); exact BK162.out⟩, ⟨eG HB.out⟩⟩
         ·
          replace c26 := Bool.eq_false_iff.mpr c26; subst c26; replace H : (tariff_Greatest.l0 k1 a1 a2 a3 true l0_1 (l0_1.length : Int) (wrap64 (x34_1 + 1)) ((rd_T26 l0_1 x34_1).f0) ((rd_T26 l0_1 x34_1).f1) ((rd_T26 l0_1 x34_1).f2)) = some (r1, r2, r3, r4) := by rw [if_neg (show ¬ (false = true) by decide)] at H; exact H
          have H' := Aside0.mk H; clear H; have p163 : 0 ≤ (x34_1 : Int) := of_decide_eq_true (by first | (with_reducible assumption) | assumption); have q163 : x34_1 < (l0_1.length : Int) := of_decide_eq_true (by first | (with_reducible assumption) | assumption); obtain ⟨ad163, e163, hx163_0, hx163_1, hx163_2⟩ := at_T26 HR0_1.out x34_1 p163 q163; cases e163; replace hx163_0 := (HB.out.cell (World.block_lt_of_cell? w _ hx163_0)).trans hx163_0; replace hx163_1 := (HB.out.cell (World.block_lt_of_cell? w _ hx163_1)).trans hx163_1; replace hx163_2 := (HB.out.cell (World.block_lt_of_cell? w _ hx163_2)).trans hx163_2; replace p163 := eq_true p163; replace q163 := eq_true q163; go_wp2_with (first | ((with_reducible refine gate_dst (N := 14) rfl ?_); refine box_event ?hg (N := 14) ?hd (cs := #[.int .i64 0, .int .i64 0, .int .i64 0]) (t := 26) ?hr ?_; (case hd => rfl); (case hg => rfl); (case hr => first | (go_simp; done) | (go_simp; rfl)); intro gb164 hg w44 hbox hb; have n0_ := Aside0.mk (blk_below (bG BK155.out) hb); have n1_ := Aside0.mk (blk_below (bG BK156.out) hb); have n2_ := Aside0.mk (blk_below (bG BK162.out) hb); have n3_ := Aside0.mk (below_step (eG HB.out) hb); have n4_ := Aside0.mk (hbox); have n5_ := Aside0.mk ((by rw [hg]; exact (below_size (eG HB.out)) : w.heap.size ≤ gb164)); have n6_ := Aside0.mk ((by rw [hg]; exact (below_size (eG HB.out)) : w.heap.size ≤ gb164)); have n7_ := Aside0.mk ((by rw [hg]; exact Nat.ne_of_lt (blk_lt (bG BK155.out)) : gb155 ≠ gb164)); have n8_ := Aside0.mk ((by rw [hg]; exact Nat.ne_of_gt (blk_lt (bG BK155.out)) : gb164 ≠ gb155)); have n9_ := Aside0.mk ((by rw [hg]; exact Nat.ne_of_lt (blk_lt (bG BK156.out)) : gb156 ≠ gb164)); have n10_ := Aside0.mk ((by rw [hg]; exact Nat.ne_of_gt (blk_lt (bG BK156.out)) : gb164 ≠ gb156)); have n11_ := Aside0.mk ((by rw [hg]; exact Nat.ne_of_lt (blk_lt (bG BK162.out)) : gb162 ≠ gb164)); have n12_ := Aside0.mk ((by rw [hg]; exact Nat.ne_of_gt (blk_lt (bG BK162.out)) : gb164 ≠ gb162)); clear BK155; clear BK156; clear BK162; clear HB; have BK155 := n0_; have BK156 := n1_; have BK162 := n2_; have HB := n3_; have BK164 := n4_; have GW164 := n5_; have GE164 := n6_; have ig164_ := geI GE164; have NB155_164 := n7_; have NB164_155 := n8_; have NB156_164 := n9_; have NB164_156 := n10_; have NB162_164 := n11_; have NB164_162 := n12_; clear n0_ n1_ n2_ n3_ n4_ n5_ n6_ n7_ n8_ n9_ n10_ n11_ n12_; clear hb hbox hg; have hnb45 := NB164_155.out; have hnc45 := NB155_164.out; have hnb46 := NB164_156.out; have hnc46 := NB156_164.out; have hnb47 := NB164_162.out; have hnc47 := NB162_164.out; have hcz48_0 : w44.cell? ⟨gb164, 0, none⟩ = some (.int .i64 0) := (blk_cell BK164.out 0).trans rfl; have hcz48_1 : w44.cell? ⟨gb164, 1, none⟩ = some (.int .i64 0) := (blk_cell BK164.out 1).trans rfl; have hcz48_2 : w44.cell? ⟨gb164, 2, none⟩ = some (.int .i64 0) := (blk_cell BK164.out 2).trans rfl; have hfz48_0 := blk_frozen BK164.out 0; have hfz48_1 := blk_frozen BK164.out 1; have hfz48_2 := blk_frozen BK164.out 2) | (go_at_call 35; (with_reducible refine (tariff_within.calls ((rd_T26 l0_1 x34_1).f1) a2 a3 true _ A24.out).mono ?_); rintro e w' ⟨rfl, ⟨nd, rfl⟩⟩; have hnb49 := NB162_155.out; have hnc49 := NB155_162.out; have hnb50 := NB162_156.out; have hnc50 := NB156_162.out; have hcz51_0 : w44.cell? ⟨gb162, 0, none⟩ = some (.int .i64 x163000_1) := (blk_cell BK162.out 0).trans rfl; have hcz51_1 : w44.cell? ⟨gb162, 1, none⟩ = some (.int .i64 x163001_1) := (blk_cell BK162.out 1).trans rfl; have hcz51_2 : w44.cell? ⟨gb162, 2, none⟩ = some (.int .i64 x163002_1) := (blk_cell BK162.out 2).trans rfl; have hfz51_0 := blk_frozen BK162.out 0; have hfz51_1 := blk_frozen BK162.out 1; have hfz51_2 := blk_frozen BK162.out 2))
          go_roundg k1
          case measure => have := HK1.out; omega
          case rel => exact ⟨(true), (wrap64 (x34_1 + 1)), ((rd_T26 l0_1 x34_1).f0), ((rd_T26 l0_1 x34_1).f1), ((rd_T26 l0_1 x34_1).f2), (by first | rfl | (simp; done) | (simp [*]; done)), (by first | rfl | (simp; done) | (simp [*]; done)), H', ⟨by have := HK1.out; omega⟩, ⟨by (with_reducible repeat first | apply bN | apply bD | apply bA); refine blk_far ?_ NB155_162.out _; (with_reducible repeat first | apply bN | apply bD | apply bA); refine blk_far ?_ NB155_162.out _; (with_reducible repeat first | apply bN | apply bD | apply bA); refine blk_far ?_ NB155_162.out _; (with_reducible repeat first | apply bN | apply bD | apply bA); refine blk_far ?_ NB155_164.out _; (with_reducible repeat first | apply bN | apply bD | apply bA); refine blk_far ?_ NB155_164.out _; (with_reducible repeat first | apply bN | apply bD | apply bA); refine blk_far ?_ NB155_164.out _; (with_reducible repeat first | apply bN | apply bD | apply bA); exact BK155.out⟩, ⟨by (with_reducible repeat first | apply bN | apply bD | apply bA); refine blk_far ?_ NB156_162.out _; (with_reducible repeat first | apply bN | apply bD | apply bA); refine blk_far ?_ NB156_162.out _; (with_reducible repeat first | apply bN | apply bD | apply bA); refine blk_far ?_ NB156_162.out _; (with_reducible repeat first | apply bN | apply bD | apply bA); refine blk_far ?_ NB156_164.out _; (with_reducible repeat first | apply bN | apply bD | apply bA); refine blk_far ?_ NB156_164.out _; (with_reducible repeat first | apply bN | apply bD | apply bA); refine blk_far ?_ NB156_164.out _; (with_reducible repeat first | apply bN | apply bD | apply bA); exact BK156.out⟩, ⟨by (with_reducible repeat first | apply bN | apply bD | apply bA); refine blk_put (cs := #[.int .i64 ((rd_T26 l0_1 x34_1).f0), .int .i64 ((rd_T26 l0_1 x34_1).f1), .int .i64 x163002_1]) ?_ 2 _ rfl; (with_reducible repeat first | apply bN | apply bD | apply bA); refine blk_put (cs := #[.int .i64 ((rd_T26 l0_1 x34_1).f0), .int .i64 x163001_1, .int .i64 x163002_1]) ?_ 1 _ rfl; (with_reducible repeat first | apply bN | apply bD | apply bA); refine blk_put (cs := #[.int .i64 x163000_1, .int .i64 x163001_1, .int .i64 x163002_1]) ?_ 0 _ rfl; (with_reducible repeat first | apply bN | apply bD | apply bA); refine blk_far ?_ NB162_164.out _; (with_reducible repeat first | apply bN | apply bD | apply bA); refine blk_far ?_ NB162_164.out _; (with_reducible repeat first | apply bN | apply bD | apply bA); refine blk_far ?_ NB162_164.out _; (with_reducible repeat first | apply bN | apply bD | apply bA); exact BK162.out⟩, ⟨eG HB.out⟩⟩
        ·
         replace c25 := Bool.eq_false_iff.mpr c25; subst c25; replace H : (tariff_Greatest.l0 k1 a1 a2 a3 x12_1 l0_1 (l0_1.length : Int) (wrap64 (x34_1 + 1)) x163000_1 x163001_1 x163002_1) = some (r1, r2, r3, r4) := by rw [if_neg (show ¬ (false = true) by decide)] at H; exact H
         have H' := Aside0.mk H; clear H; have p163 : 0 ≤ (x34_1 : Int) := of_decide_eq_true (by first | (with_reducible assumption) | assumption); have q163 : x34_1 < (l0_1.length : Int) := of_decide_eq_true (by first | (with_reducible assumption) | assumption); obtain ⟨ad163, e163, hx163_0, hx163_1, hx163_2⟩ := at_T26 HR0_1.out x34_1 p163 q163; cases e163; replace hx163_0 := (HB.out.cell (World.block_lt_of_cell? w _ hx163_0)).trans hx163_0; replace hx163_1 := (HB.out.cell (World.block_lt_of_cell? w _ hx163_1)).trans hx163_1; replace hx163_2 := (HB.out.cell (World.block_lt_of_cell? w _ hx163_2)).trans hx163_2; replace p163 := eq_true p163; replace q163 := eq_true q163; go_wp2_with (first | ((with_reducible refine gate_dst (N := 14) rfl ?_); refine box_event ?hg (N := 14) ?hd (cs := #[.int .i64 0, .int .i64 0, .int .i64 0]) (t := 26) ?hr ?_; (case hd => rfl); (case hg => rfl); (case hr => first | (go_simp; done) | (go_simp; rfl)); intro gb164 hg w52 hbox hb; have n0_ := Aside0.mk (blk_below (bG BK155.out) hb); have n1_ := Aside0.mk (blk_below (bG BK156.out) hb); have n2_ := Aside0.mk (blk_below (bG BK162.out) hb); have n3_ := Aside0.mk (below_step (eG HB.out) hb); have n4_ := Aside0.mk (hbox); have n5_ := Aside0.mk ((by rw [hg]; exact (below_size (eG HB.out)) : w.heap.size ≤ gb164)); have n6_ := Aside0.mk ((by rw [hg]; exact (below_size (eG HB.out)) : w.heap.size ≤ gb164)); have n7_ := Aside0.mk ((by rw [hg]; exact Nat.ne_of_lt (blk_lt (bG BK155.out)) : gb155 ≠ gb164)); have n8_ := Aside0.mk ((by rw [hg]; exact Nat.ne_of_gt (blk_lt (bG BK155.out)) : gb164 ≠ gb155)); have n9_ := Aside0.mk ((by rw [hg]; exact Nat.ne_of_lt (blk_lt (bG BK156.out)) : gb156 ≠ gb164)); have n10_ := Aside0.mk ((by rw [hg]; exact Nat.ne_of_gt (blk_lt (bG BK156.out)) : gb164 ≠ gb156)); have n11_ := Aside0.mk ((by rw [hg]; exact Nat.ne_of_lt (blk_lt (bG BK162.out)) : gb162 ≠ gb164)); have n12_ := Aside0.mk ((by rw [hg]; exact Nat.ne_of_gt (blk_lt (bG BK162.out)) : gb164 ≠ gb162)); clear BK155; clear BK156; clear BK162; clear HB; have BK155 := n0_; have BK156 := n1_; have BK162 := n2_; have HB := n3_; have BK164 := n4_; have GW164 := n5_; have GE164 := n6_; have ig164_ := geI GE164; have NB155_164 := n7_; have NB164_155 := n8_; have NB156_164 := n9_; have NB164_156 := n10_; have NB162_164 := n11_; have NB164_162 := n12_; clear n0_ n1_ n2_ n3_ n4_ n5_ n6_ n7_ n8_ n9_ n10_ n11_ n12_; clear hb hbox hg; have hnb53 := NB164_155.out; have hnc53 := NB155_164.out; have hnb54 := NB164_156.out; have hnc54 := NB156_164.out; have hnb55 := NB164_162.out; have hnc55 := NB162_164.out; have hcz56_0 : w52.cell? ⟨gb164, 0, none⟩ = some (.int .i64 0) := (blk_cell BK164.out 0).trans rfl; have hcz56_1 : w52.cell? ⟨gb164, 1, none⟩ = some (.int .i64 0) := (blk_cell BK164.out 1).trans rfl; have hcz56_2 : w52.cell? ⟨gb164, 2, none⟩ = some (.int .i64 0) := (blk_cell BK164.out 2).trans rfl; have hfz56_0 := blk_frozen BK164.out 0; have hfz56_1 := blk_frozen BK164.out 1; have hfz56_2 := blk_frozen BK164.out 2) | (go_at_call 35; (with_reducible refine (tariff_within.calls ((rd_T26 l0_1 x34_1).f1) a2 a3 false _ A24.out).mono ?_); rintro e w' ⟨rfl, ⟨nd, rfl⟩⟩))
         go_roundg k1
         case measure => have := HK1.out; omega
         case rel => exact ⟨(x12_1), (wrap64 (x34_1 + 1)), (x163000_1), (x163001_1), (x163002_1), (by first | rfl | (simp; done) | (simp [*]; done)), (by first | rfl | (simp; done) | (simp [*]; done)), H', ⟨by have := HK1.out; omega⟩, ⟨by (with_reducible repeat first | apply bN | apply bD | apply bA); refine blk_far ?_ NB155_164.out _; (with_reducible repeat first | apply bN | apply bD | apply bA); refine blk_far ?_ NB155_164.out _; (with_reducible repeat first | apply bN | apply bD | apply bA); refine blk_far ?_ NB155_164.out _; (with_reducible repeat first | apply bN | apply bD | apply bA); exact BK155.out⟩, ⟨by (with_reducible repeat first | apply bN | apply bD | apply bA); refine blk_far ?_ NB156_164.out _; (with_reducible repeat first | apply bN | apply bD | apply bA); refine blk_far ?_ NB156_164.out _; (with_reducible repeat first | apply bN | apply bD | apply bA); refine blk_far ?_ NB156_164.out _; (with_reducible repeat first | apply bN | apply bD | apply bA); exact BK156.out⟩, ⟨by (with_reducible repeat first | apply bN | apply bD | apply bA); refine blk_far ?_ NB162_164.out _; (with_reducible repeat first | apply bN | apply bD | apply bA); refine blk_far ?_ NB162_164.out _; (with_reducible repeat first | apply bN | apply bD | apply bA); refine blk_far ?_ NB162_164.out _; (with_reducible repeat first | apply bN | apply bD | apply bA); exact BK162.out⟩, ⟨eG HB.out⟩⟩
       ·
        rw [if_neg c23] at H; have c23b0 : (((rd_T26 l0_1 x34_1).f0) == a1) = false := beq_eq_false_iff_ne.mpr c23; have c23b1 : (((rd_T26 l0_1 x34_1).f0) != a1) = true := bne_iff_ne.mpr c23; have H' := Aside0.mk H; clear H; have p163 : 0 ≤ (x34_1 : Int) := of_decide_eq_true (by first | (with_reducible assumption) | assumption); have q163 : x34_1 < (l0_1.length : Int) := of_decide_eq_true (by first | (with_reducible assumption) | assumption); obtain ⟨ad163, e163, hx163_0, hx163_1, hx163_2⟩ := at_T26 HR0_1.out x34_1 p163 q163; cases e163; replace hx163_0 := (HB.out.cell (World.block_lt_of_cell? w _ hx163_0)).trans hx163_0; replace hx163_1 := (HB.out.cell (World.block_lt_of_cell? w _ hx163_1)).trans hx163_1; replace hx163_2 := (HB.out.cell (World.block_lt_of_cell? w _ hx163_2)).trans hx163_2; replace p163 := eq_true p163; replace q163 := eq_true q163; go_wp2_with (first | ((with_reducible refine gate_dst (N := 14) rfl ?_); refine box_event ?hg (N := 14) ?hd (cs := #[.int .i64 0, .int .i64 0, .int .i64 0]) (t := 26) ?hr ?_; (case hd => rfl); (case hg => rfl); (case hr => first | (go_simp; done) | (go_simp; rfl)); intro gb164 hg w57 hbox hb; have n0_ := Aside0.mk (blk_below (bG BK155.out) hb); have n1_ := Aside0.mk (blk_below (bG BK156.out) hb); have n2_ := Aside0.mk (blk_below (bG BK162.out) hb); have n3_ := Aside0.mk (below_step (eG HB.out) hb); have n4_ := Aside0.mk (hbox); have n5_ := Aside0.mk ((by rw [hg]; exact (below_size (eG HB.out)) : w.heap.size ≤ gb164)); have n6_ := Aside0.mk ((by rw [hg]; exact (below_size (eG HB.out)) : w.heap.size ≤ gb164)); have n7_ := Aside0.mk ((by rw [hg]; exact Nat.ne_of_lt (blk_lt (bG BK155.out)) : gb155 ≠ gb164)); have n8_ := Aside0.mk ((by rw [hg]; exact Nat.ne_of_gt (blk_lt (bG BK155.out)) : gb164 ≠ gb155)); have n9_ := Aside0.mk ((by rw [hg]; exact Nat.ne_of_lt (blk_lt (bG BK156.out)) : gb156 ≠ gb164)); have n10_ := Aside0.mk ((by rw [hg]; exact Nat.ne_of_gt (blk_lt (bG BK156.out)) : gb164 ≠ gb156)); have n11_ := Aside0.mk ((by rw [hg]; exact Nat.ne_of_lt (blk_lt (bG BK162.out)) : gb162 ≠ gb164)); have n12_ := Aside0.mk ((by rw [hg]; exact Nat.ne_of_gt (blk_lt (bG BK162.out)) : gb164 ≠ gb162)); clear BK155; clear BK156; clear BK162; clear HB; have BK155 := n0_; have BK156 := n1_; have BK162 := n2_; have HB := n3_; have BK164 := n4_; have GW164 := n5_; have GE164 := n6_; have ig164_ := geI GE164; have NB155_164 := n7_; have NB164_155 := n8_; have NB156_164 := n9_; have NB164_156 := n10_; have NB162_164 := n11_; have NB164_162 := n12_; clear n0_ n1_ n2_ n3_ n4_ n5_ n6_ n7_ n8_ n9_ n10_ n11_ n12_; clear hb hbox hg; have hnb58 := NB164_155.out; have hnc58 := NB155_164.out; have hnb59 := NB164_156.out; have hnc59 := NB156_164.out; have hnb60 := NB164_162.out; have hnc60 := NB162_164.out; have hcz61_0 : w57.cell? ⟨gb164, 0, none⟩ = some (.int .i64 0) := (blk_cell BK164.out 0).trans rfl; have hcz61_1 : w57.cell? ⟨gb164, 1, none⟩ = some (.int .i64 0) := (blk_cell BK164.out 1).trans rfl; have hcz61_2 : w57.cell? ⟨gb164, 2, none⟩ = some (.int .i64 0) := (blk_cell BK164.out 2).trans rfl; have hfz61_0 := blk_frozen BK164.out 0; have hfz61_1 := blk_frozen BK164.out 1; have hfz61_2 := blk_frozen BK164.out 2))
        go_roundg k1
        case measure => have := HK1.out; omega
        case rel => exact ⟨(x12_1), (wrap64 (x34_1 + 1)), (x163000_1), (x163001_1), (x163002_1), (by first | rfl | (simp; done) | (simp [*]; done)), (by first | rfl | (simp; done) | (simp [*]; done)), H', ⟨by have := HK1.out; omega⟩, ⟨by (with_reducible repeat first | apply bN | apply bD | apply bA); refine blk_far ?_ NB155_164.out _; (with_reducible repeat first | apply bN | apply bD | apply bA); refine blk_far ?_ NB155_164.out _; (with_reducible repeat first | apply bN | apply bD | apply bA); refine blk_far ?_ NB155_164.out _; (with_reducible repeat first | apply bN | apply bD | apply bA); exact BK155.out⟩, ⟨by (with_reducible repeat first | apply bN | apply bD | apply bA); refine blk_far ?_ NB156_164.out _; (with_reducible repeat first | apply bN | apply bD | apply bA); refine blk_far ?_ NB156_164.out _; (with_reducible repeat first | apply bN | apply bD | apply bA); refine blk_far ?_ NB156_164.out _; (with_reducible repeat first | apply bN | apply bD | apply bA); exact BK156.out⟩, ⟨by (with_reducible repeat first | apply bN | apply bD | apply bA); refine blk_far ?_ NB162_164.out _; (with_reducible repeat first | apply bN | apply bD | apply bA); refine blk_far ?_ NB162_164.out _; (with_reducible repeat first | apply bN | apply bD | apply bA); refine blk_far ?_ NB162_164.out _; (with_reducible repeat first | apply bN | apply bD | apply bA); exact BK162.out⟩, ⟨eG HB.out⟩⟩
      · rw [if_neg c22] at H; exact absurd H (by simp)
     · rw [if_neg c21] at H; exact absurd H (by simp)
    ·
     rw [if_neg c20] at H; have c20b0 : decide (x34_1 < (l0_1.length : Int)) = false := decide_eq_false c20; clear c20; by_cases c62 : x12_1 = true
     ·
      subst c62; replace H : (some (x163000_1, x163001_1, x163002_1, 0)) = some (r1, r2, r3, r4) := by rw [if_pos rfl] at H; exact H
      simp only [Option.some.injEq, Prod.mk.injEq] at H; obtain ⟨rfl, rfl, rfl, rfl⟩ := H; have hnb63 := NB162_155.out; have hnc63 := NB155_162.out; have hnb64 := NB162_156.out; have hnc64 := NB156_162.out; have hcz65_0 : wr.cell? ⟨gb162, 0, none⟩ = some (.int .i64 x163000_1) := (blk_cell BK162.out 0).trans rfl; have hcz65_1 : wr.cell? ⟨gb162, 1, none⟩ = some (.int .i64 x163001_1) := (blk_cell BK162.out 1).trans rfl; have hcz65_2 : wr.cell? ⟨gb162, 2, none⟩ = some (.int .i64 x163002_1) := (blk_cell BK162.out 2).trans rfl; have hfz65_0 := blk_frozen BK162.out 0; have hfz65_1 := blk_frozen BK162.out 1; have hfz65_2 := blk_frozen BK162.out 2; have hnb66 := NB156_155.out; have hnc66 := NB155_156.out; have hcz67_0 : wr.cell? ⟨gb156, 0, none⟩ = some (.int .i64 0) := (blk_cell BK156.out 0).trans rfl; have hcz67_1 : wr.cell? ⟨gb156, 1, none⟩ = some (.int .i64 0) := (blk_cell BK156.out 1).trans rfl; have hcz67_2 : wr.cell? ⟨gb156, 2, none⟩ = some (.int .i64 0) := (blk_cell BK156.out 2).trans rfl; have hfz67_0 := blk_frozen BK156.out 0; have hfz67_1 := blk_frozen BK156.out 1; have hfz67_2 := blk_frozen BK156.out 2; go_wp2; refine bodyPost_ret (results_ct rfl _ _ gb156 26 #[.int .i64 x163000_1, .int .i64 x163001_1, .int .i64 x163002_1] (0, 0) _ rfl (by (with_reducible repeat first | apply bN | apply bD | apply bA); refine blk_put (cs := #[.int .i64 x163000_1, .int .i64 x163001_1, .int .i64 0]) ?_ 2 _ rfl; (with_reducible repeat first | apply bN | apply bD | apply bA); refine blk_put (cs := #[.int .i64 x163000_1, .int .i64 0, .int .i64 0]) ?_ 1 _ rfl; (with_reducible repeat first | apply bN | apply bD | apply bA); refine blk_put (cs := #[.int .i64 0, .int .i64 0, .int .i64 0]) ?_ 0 _ rfl; (with_reducible repeat first | apply bN | apply bD | apply bA); exact BK156.out) Tryz.underlying26 rfl (by kernel_rfl)) rfl ?_; exact ⟨by first | rfl | (simp [errW_none, errW_some] <;> rfl) | (simp [*, errW_none, errW_some] <;> rfl), eG HB.out⟩
     ·
      replace c62 := Bool.eq_false_iff.mpr c62; subst c62; replace H : (some (0, 0, 0, 7)) = some (r1, r2, r3, r4) := by rw [if_neg (show ¬ (false = true) by decide)] at H; exact H
      simp only [Option.some.injEq, Prod.mk.injEq] at H; obtain ⟨rfl, rfl, rfl, rfl⟩ := H; have hnb68 := NB156_155.out; have hnc68 := NB155_156.out; have hnb69 := NB156_162.out; have hnc69 := NB162_156.out; have hcz70_0 : wr.cell? ⟨gb156, 0, none⟩ = some (.int .i64 0) := (blk_cell BK156.out 0).trans rfl; have hcz70_1 : wr.cell? ⟨gb156, 1, none⟩ = some (.int .i64 0) := (blk_cell BK156.out 1).trans rfl; have hcz70_2 : wr.cell? ⟨gb156, 2, none⟩ = some (.int .i64 0) := (blk_cell BK156.out 2).trans rfl; have hfz70_0 := blk_frozen BK156.out 0; have hfz70_1 := blk_frozen BK156.out 1; have hfz70_2 := blk_frozen BK156.out 2; go_wp2; refine bodyPost_ret (results_ct rfl _ _ gb156 26 #[.int .i64 0, .int .i64 0, .int .i64 0] (0, 0) _ rfl (by (with_reducible repeat first | apply bN | apply bD | apply bA); refine blk_put (cs := #[.int .i64 0, .int .i64 0, .int .i64 0]) ?_ 2 _ rfl; (with_reducible repeat first | apply bN | apply bD | apply bA); refine blk_put (cs := #[.int .i64 0, .int .i64 0, .int .i64 0]) ?_ 1 _ rfl; (with_reducible repeat first | apply bN | apply bD | apply bA); refine blk_put (cs := #[.int .i64 0, .int .i64 0, .int .i64 0]) ?_ 0 _ rfl; (with_reducible repeat first | apply bN | apply bD | apply bA); exact BK156.out) Tryz.underlying26 rfl (by kernel_rfl)) rfl ?_; exact ⟨by first | rfl | (simp [errW_none, errW_some] <;> rfl) | (simp [*, errW_none, errW_some] <;> rfl), eG HB.out⟩
 ·
  rw [if_neg c6] at H; have c6b0 : (t157 == 0) = false := beq_eq_false_iff_ne.mpr c6; have c6b1 : (t157 != 0) = true := bne_iff_ne.mpr c6; simp only [Option.some.injEq, Prod.mk.injEq] at H; obtain ⟨rfl, rfl, rfl, rfl⟩ := H; go_enter Tryz.func21, Tryz.ntmps21
  go_wp2_with (first | ((with_reducible refine gate_dst (N := 4) rfl ?_); refine box_event ?hg (N := 4) ?hd (cs := #[.int .i64 a0_0, .slice A0_1 l0_1.length c0_1]) (t := 24) ?hr ?_; (case hd => rfl); (case hg => rfl); (case hr => first | (go_simp; done) | (go_simp; rfl)); intro gb155 hg w71 hbox hb; have n0_ := Aside0.mk (below_step (eG HB.out) hb); have n1_ := Aside0.mk (hbox); have n2_ := Aside0.mk ((by rw [hg]; exact (below_size (eG HB.out)) : w.heap.size ≤ gb155)); have n3_ := Aside0.mk ((by rw [hg]; exact (below_size (eG HB.out)) : w.heap.size ≤ gb155)); clear HB; have HB := n0_; have BK155 := n1_; have GW155 := n2_; have GE155 := n3_; have ig155_ := geI GE155; clear n0_ n1_ n2_ n3_; clear hb hbox hg) | ((with_reducible refine gate_dst (N := 8) rfl ?_); refine box_event ?hg (N := 8) ?hd (cs := #[.int .i64 0, .int .i64 0, .int .i64 0]) (t := 26) ?hr ?_; (case hd => rfl); (case hg => rfl); (case hr => first | (go_simp; done) | (go_simp; rfl)); intro gb156 hg w72 hbox hb; have n0_ := Aside0.mk (blk_below (bG BK155.out) hb); have n1_ := Aside0.mk (below_step (eG HB.out) hb); have n2_ := Aside0.mk (hbox); have n3_ := Aside0.mk ((by rw [hg]; exact (below_size (eG HB.out)) : w.heap.size ≤ gb156)); have n4_ := Aside0.mk ((by rw [hg]; exact (below_size (eG HB.out)) : w.heap.size ≤ gb156)); have n5_ := Aside0.mk ((by rw [hg]; exact Nat.ne_of_lt (blk_lt (bG BK155.out)) : gb155 ≠ gb156)); have n6_ := Aside0.mk ((by rw [hg]; exact Nat.ne_of_gt (blk_lt (bG BK155.out)) : gb156 ≠ gb155)); clear BK155; clear HB; have BK155 := n0_; have HB := n1_; have BK156 := n2_; have GW156 := n3_; have GE156 := n4_; have ig156_ := geI GE156; have NB155_156 := n5_; have NB156_155 := n6_; clear n0_ n1_ n2_ n3_ n4_ n5_ n6_; clear hb hbox hg; have hnb73 := NB155_156.out; have hnc73 := NB156_155.out; have hcz74_0 : w72.cell? ⟨gb155, 0, none⟩ = some (.int .i64 a0_0) := (blk_cell BK155.out 0).trans rfl; have hcz74_1 : w72.cell? ⟨gb155, 1, none⟩ = some (.slice A0_1 l0_1.length c0_1) := (blk_cell BK155.out 1).trans rfl; have hfz74_0 := blk_frozen BK155.out 0; have hfz74_1 := blk_frozen BK155.out 1) | ((with_reducible refine gate_callee (f := 48) rfl ?_); refine goesL_ (some 19) rfl rfl Tryz.func48 (by kernel_rfl) rfl #[.agg #[.int .i64 a0_0, .slice A0_1 l0_1.length c0_1], .int .i64 a1, .int .i64 a2, .int .i64 a3] rfl (by (try simp only [List.map_toArray, List.map_cons, List.map_nil]); first | done | rfl | (simp only [List.length_drop, List.length_take]; rfl)) ?_; (with_reducible refine (tariff_span.calls k a0_0 _ _ l0_1 a1 a2 a3 t157 _ ?side1 ?side2 A5.out).mono ?_); (case side1 => repeat (first | exact (Kd.C_below HR0_1.out HB.out) | (with_reducible refine Kd.C_alloc ?_ _) | (with_reducible refine Kd.C_drewN ?_ _) | (with_reducible refine Kd.C_drew ?_))); (case side2 => exact HC0_1.out); rintro e w75 ⟨rfl, hb⟩; refine ⟨_, rfl, ?_⟩; have n0_ := Aside0.mk (blk_below (bG BK155.out) hb); have n1_ := Aside0.mk (blk_below (bG BK156.out) hb); have n2_ := Aside0.mk (below_step (eG HB.out) hb); clear BK155; clear BK156; clear HB; have BK155 := n0_; have BK156 := n1_; have HB := n2_; clear n0_ n1_ n2_; (try clear hb); (try clear hb2); (try clear hk); (try clear hi); have hcz76_0 : w75.cell? ⟨gb156, 0, none⟩ = some (.int .i64 0) := (blk_cell BK156.out 0).trans rfl; have hcz76_1 : w75.cell? ⟨gb156, 1, none⟩ = some (.int .i64 0) := (blk_cell BK156.out 1).trans rfl; have hcz76_2 : w75.cell? ⟨gb156, 2, none⟩ = some (.int .i64 0) := (blk_cell BK156.out 2).trans rfl; have hfz76_0 := blk_frozen BK156.out 0; have hfz76_1 := blk_frozen BK156.out 1; have hfz76_2 := blk_frozen BK156.out 2))
  refine bodyPost_ret (results_ct rfl _ _ gb156 26 #[.int .i64 0, .int .i64 0, .int .i64 0] (0, 0) _ rfl (by (with_reducible repeat first | apply bN | apply bD | apply bA); refine blk_put (cs := #[.int .i64 0, .int .i64 0, .int .i64 0]) ?_ 2 _ rfl; (with_reducible repeat first | apply bN | apply bD | apply bA); refine blk_put (cs := #[.int .i64 0, .int .i64 0, .int .i64 0]) ?_ 1 _ rfl; (with_reducible repeat first | apply bN | apply bD | apply bA); refine blk_put (cs := #[.int .i64 0, .int .i64 0, .int .i64 0]) ?_ 0 _ rfl; (with_reducible repeat first | apply bN | apply bD | apply bA); exact BK156.out) Tryz.underlying26 rfl (by kernel_rfl)) rfl ?_; exact ⟨by first | rfl | (simp [errW_none, errW_some] <;> rfl) | (simp [*, errW_none, errW_some] <;> rfl), eG HB.out⟩
def tariff_Changes.l0 : Nat → Int → Int → Int → List Int → List (S26) → Int → Int → Option (List Int × Int)
 | 0, _, _, _, _, _, _, _ => none
 | k + 1, x1, x2, x3, x11, x23, x24, x25 => if x25 < x24 then (if 0 ≤ x25 then (if x25 < (x23.length : Int) then (if ((rd_T26 x23 x25).f0) = x1 then ((tariff_within.f ((rd_T26 x23 x25).f1) x2 x3).bind fun t170 => (if t170 = true then (if x11.length < 17592186044416 then (tariff_Changes.l0 k x1 x2 x3 (x11 ++ [(rd_T26 x23 x25).f1]) x23 x24 (wrap64 (x25 + 1))) else (none)) else (tariff_Changes.l0 k x1 x2 x3 x11 x23 x24 (wrap64 (x25 + 1))))) else (tariff_Changes.l0 k x1 x2 x3 x11 x23 x24 (wrap64 (x25 + 1)))) else (none)) else (none)) else (some (x11, 0))
def tariff_Changes.f (k : Nat) (a0_0 : Int) (l0_1 : List (S26)) (a1 : Int) (a2 : Int) (a3 : Int) : Option (List Int × Int) := (tariff_span.f k a0_0 l0_1 a1 a2 a3).bind fun t167 => (if t167 = 0 then (tariff_Changes.l0 k a1 a2 a3 ([] : List Int) l0_1 (l0_1.length : Int) 0) else (some (([] : List Int), t167)))
set_option maxHeartbeats 8000000 in
set_option maxRecDepth 100000 in
theorem tariff_Changes.calls (k : Nat) (a0_0 : Int) (A0_1 : Option Addr) (c0_1 : Nat) (l0_1 : List (S26)) (a1 : Int) (a2 : Int) (a3 : Int) (r1 : List Int) (r2 : Int) (w : World) (hr0_1 : Kd.C k26 w A0_1 l0_1.length l0_1) (hc0_1 : l0_1.length ≤ c0_1) (h : tariff_Changes.f k a0_0 l0_1 a1 a2 a3 = some (r1, r2)) :
  Calls Tryz.prog 23 #[.agg #[.int .i64 a0_0, .slice A0_1 l0_1.length c0_1], .int .i64 a1, .int .i64 a2, .int .i64 a3] w fun e w' => ∃ v0_ : Value, e = .returned (.tuple #[v0_, .int .i64 r2]) ∧ Kd.R (Kd.int .i64) 3 w' w.heap.size (fun _ => True) v0_ r1 ∧ Below w.heap.size w w' := by
 have hu24 := Tryz.underlying24; have hu26 := Tryz.underlying26; have HR0_1 := Aside0.mk hr0_1; have HC0_1 := Aside0.mk hc0_1; clear hr0_1 hc0_1; have HB := Aside0.mk (Below.refl w.heap.size w); have H : ((tariff_span.f k a0_0 l0_1 a1 a2 a3).bind fun t167 => (if t167 = 0 then (tariff_Changes.l0 k a1 a2 a3 ([] : List Int) l0_1 (l0_1.length : Int) 0) else (some (([] : List Int), t167)))) = some (r1, r2) := h; clear h; replace H := Option.bind_eq_some_iff.mp H; obtain ⟨t167, A50, H⟩ := H; replace H : (if t167 = 0 then (tariff_Changes.l0 k a1 a2 a3 ([] : List Int) l0_1 (l0_1.length : Int) 0) else (some (([] : List Int), t167))) = some (r1, r2) := H; have A5 := Aside0.mk A50; clear A50; by_cases c6 : t167 = 0
 ·
  rw [if_pos c6] at H; have c6b0 : (t167 == 0) = true := beq_iff_eq.mpr c6; have c6b1 : (t167 != 0) = false := bne_eq_false_iff_eq.mpr c6; clear c6; have H' := Aside0.mk H; clear H; go_enter Tryz.func23, Tryz.ntmps23
  go_wp2_with (first | ((with_reducible refine gate_dst (N := 4) rfl ?_); refine box_event ?hg (N := 4) ?hd (cs := #[.int .i64 a0_0, .slice A0_1 l0_1.length c0_1]) (t := 24) ?hr ?_; (case hd => rfl); (case hg => rfl); (case hr => first | (go_simp; done) | (go_simp; rfl)); intro gb166 hg w7 hbox hb; have n0_ := Aside0.mk (below_step (eG HB.out) hb); have n1_ := Aside0.mk (hbox); have n2_ := Aside0.mk ((by rw [hg]; exact (below_size (eG HB.out)) : w.heap.size ≤ gb166)); have n3_ := Aside0.mk ((by rw [hg]; exact (below_size (eG HB.out)) : w.heap.size ≤ gb166)); clear HB; have HB := n0_; have BK166 := n1_; have GW166 := n2_; have GE166 := n3_; have ig166_ := geI GE166; clear n0_ n1_ n2_ n3_; clear hb hbox hg; have hcz8_0 : w7.cell? ⟨gb166, 0, none⟩ = some (.int .i64 a0_0) := (blk_cell BK166.out 0).trans rfl; have hcz8_1 : w7.cell? ⟨gb166, 1, none⟩ = some (.slice A0_1 l0_1.length c0_1) := (blk_cell BK166.out 1).trans rfl; have hfz8_0 := blk_frozen BK166.out 0; have hfz8_1 := blk_frozen BK166.out 1) | ((with_reducible refine gate_callee (f := 48) rfl ?_); refine goesL_ (some 18) rfl rfl Tryz.func48 (by kernel_rfl) rfl #[.agg #[.int .i64 a0_0, .slice A0_1 l0_1.length c0_1], .int .i64 a1, .int .i64 a2, .int .i64 a3] rfl (by (try simp only [List.map_toArray, List.map_cons, List.map_nil]); first | done | rfl | (simp only [List.length_drop, List.length_take]; rfl)) ?_; (with_reducible refine (tariff_span.calls k a0_0 _ _ l0_1 a1 a2 a3 t167 _ ?side1 ?side2 A5.out).mono ?_); (case side1 => repeat (first | exact (Kd.C_below HR0_1.out HB.out) | (with_reducible refine Kd.C_alloc ?_ _) | (with_reducible refine Kd.C_drewN ?_ _) | (with_reducible refine Kd.C_drew ?_))); (case side2 => exact HC0_1.out); rintro e w9 ⟨rfl, hb⟩; refine ⟨_, rfl, ?_⟩; have n0_ := Aside0.mk (blk_below (bG BK166.out) hb); have n1_ := Aside0.mk (below_step (eG HB.out) hb); clear BK166; clear HB; have BK166 := n0_; have HB := n1_; clear n0_ n1_; (try clear hb); (try clear hb2); (try clear hk); (try clear hi); have hcz10_0 : w9.cell? ⟨gb166, 0, none⟩ = some (.int .i64 a0_0) := (blk_cell BK166.out 0).trans rfl; have hcz10_1 : w9.cell? ⟨gb166, 1, none⟩ = some (.slice A0_1 l0_1.length c0_1) := (blk_cell BK166.out 1).trans rfl; have hfz10_0 := blk_frozen BK166.out 0; have hfz10_1 := blk_frozen BK166.out 1))
  go_loopg [11, 25] k (fun kq v11 v25 w' => ∃ (x11_1 : List Int) (x25_1 : Int), v25 = .int .i64 x25_1 ∧ Aside0 (tariff_Changes.l0 kq a1 a2 a3 x11_1 l0_1 (l0_1.length : Int) x25_1 = some (r1, r2)) ∧ Aside0 (kq ≤ k) ∧ Aside0 (Kd.R (Kd.int .i64) 3 w' w.heap.size (fun _ => True) v11 x11_1) ∧ Aside0 (w'.heap[gb166]? = some (.cells #[.int .i64 a0_0, (.slice A0_1 l0_1.length c0_1)] 24 (0, 0))) ∧ Aside0 (Below w.heap.size w w'))
  case atStart => exact ⟨(([] : List Int)), (0), (by first | rfl | (simp; done) | (simp [*]; done)), H', ⟨Nat.le_refl _⟩, ⟨by first | exact Kd.R_nil _ _ _ _ _ | exact Kd.N_nil _ _ _ _ _ | exact Kd.V_nil _ _ _ _ _ | exact Kd.Q_nil _ _ _ _ _ | exact Kd.S_nil _ _ _ _ _⟩, ⟨by (with_reducible repeat first | apply bN | apply bD | apply bA); exact BK166.out⟩, ⟨eG HB.out⟩⟩
  case round =>
   clear H'; repeat first | clear c2 | clear p2 | clear c4 | clear c6 | clear c6b0 | clear c6b1 | clear hcz10_0 | clear hcz10_1 | clear hcz8_0 | clear hcz8_1 | clear hfz10_0 | clear hfz10_1 | clear hfz8_0 | clear hfz8_1
   obtain ⟨x11_1, x25_1, rfl, HA, HK1, HO_11, BK166, HB⟩ := hrel
   cases gk with
   | zero => exact absurd HA.out (by simp [tariff_Changes.l0])
   | succ k1 =>
    have H := HA.out; clear HA; simp only [tariff_Changes.l0] at H; by_cases c11 : x25_1 < (l0_1.length : Int)
    ·
     rw [if_pos c11] at H; have c11b0 : decide (x25_1 < (l0_1.length : Int)) = true := decide_eq_true c11; clear c11; by_cases c12 : 0 ≤ x25_1
     ·
      rw [if_pos c12] at H; have c12b0 : decide (0 ≤ x25_1) = true := decide_eq_true c12; clear c12; by_cases c13 : x25_1 < (l0_1.length : Int)
      ·
       rw [if_pos c13] at H; have c13b0 : decide (x25_1 < (l0_1.length : Int)) = true := decide_eq_true c13; clear c13; by_cases c14 : ((rd_T26 l0_1 x25_1).f0) = a1
       ·
        rw [if_pos c14] at H; have c14b0 : (((rd_T26 l0_1 x25_1).f0) == a1) = true := beq_iff_eq.mpr c14; have c14b1 : (((rd_T26 l0_1 x25_1).f0) != a1) = false := bne_eq_false_iff_eq.mpr c14; clear c14; replace H := Option.bind_eq_some_iff.mp H; obtain ⟨t170, A150, H⟩ := H; replace H : (if t170 = true then (if x11_1.length < 17592186044416 then (tariff_Changes.l0 k1 a1 a2 a3 (x11_1 ++ [(rd_T26 l0_1 x25_1).f1]) l0_1 (l0_1.length : Int) (wrap64 (x25_1 + 1))) else (none)) else (tariff_Changes.l0 k1 a1 a2 a3 x11_1 l0_1 (l0_1.length : Int) (wrap64 (x25_1 + 1)))) = some (r1, r2) := H; have A15 := Aside0.mk A150; clear A150; by_cases c16 : t170 = true
        ·
         subst c16; replace H : (if x11_1.length < 17592186044416 then (tariff_Changes.l0 k1 a1 a2 a3 (x11_1 ++ [(rd_T26 l0_1 x25_1).f1]) l0_1 (l0_1.length : Int) (wrap64 (x25_1 + 1))) else (none)) = some (r1, r2) := by rw [if_pos rfl] at H; exact H
         by_cases c17 : x11_1.length < 17592186044416
         ·
          rw [if_pos c17] at H; have LMc17 := Aside0.mk c17; clear c17; obtain ⟨y171, hy171⟩ : ∃ y_ : List Int, y_ = (x11_1 ++ [(rd_T26 l0_1 x25_1).f1]) := ⟨_, rfl⟩; replace H : (tariff_Changes.l0 k1 a1 a2 a3 y171 l0_1 (l0_1.length : Int) (wrap64 (x25_1 + 1))) = some (r1, r2) := by first | (rw [hy171]; with_reducible exact H) | (have H2_ := (Option.bind_some _ _).symm.trans H; rw [hy171]; with_reducible exact H2_) | (have H2_ := (Option.bind_some _ _).symm.trans H; with_reducible exact H2_) | with_reducible exact H | (rw [hy171]; exact H) | exact H
          have Ny171 := Aside0.mk hy171; clear hy171; have H' := Aside0.mk H; clear H; have p168 : 0 ≤ (x25_1 : Int) := of_decide_eq_true (by first | (with_reducible assumption) | assumption); have q168 : x25_1 < (l0_1.length : Int) := of_decide_eq_true (by first | (with_reducible assumption) | assumption); obtain ⟨ad168, e168, hx168_0, hx168_1, hx168_2⟩ := at_T26 HR0_1.out x25_1 p168 q168; cases e168; replace hx168_0 := (HB.out.cell (World.block_lt_of_cell? w _ hx168_0)).trans hx168_0; replace hx168_1 := (HB.out.cell (World.block_lt_of_cell? w _ hx168_1)).trans hx168_1; replace hx168_2 := (HB.out.cell (World.block_lt_of_cell? w _ hx168_2)).trans hx168_2; replace p168 := eq_true p168; replace q168 := eq_true q168; go_wp2_with (first | ((with_reducible refine gate_dst (N := 13) rfl ?_); refine box_event ?hg (N := 13) ?hd (cs := #[.int .i64 0, .int .i64 0, .int .i64 0]) (t := 26) ?hr ?_; (case hd => rfl); (case hg => rfl); (case hr => first | (go_simp; done) | (go_simp; rfl)); intro gb169 hg w18 hbox hb; have n0_ := Aside0.mk (Kd.R_below (by (with_reducible repeat (first | apply Kd.R_alloc | apply Kd.R_drewN | apply Kd.R_drew)); exact HO_11.out) hb); have n1_ := Aside0.mk (blk_below (bG BK166.out) hb); have n2_ := Aside0.mk (below_step (eG HB.out) hb); have n3_ := Aside0.mk (hbox); have n4_ := Aside0.mk ((by rw [hg]; exact (below_size (eG HB.out)) : w.heap.size ≤ gb169)); have n5_ := Aside0.mk ((by rw [hg]; exact (below_size (eG HB.out)) : w.heap.size ≤ gb169)); have n6_ := Aside0.mk ((by rw [hg]; exact Nat.ne_of_lt (blk_lt (bG BK166.out)) : gb166 ≠ gb169)); have n7_ := Aside0.mk ((by rw [hg]; exact Nat.ne_of_gt (blk_lt (bG BK166.out)) : gb169 ≠ gb166)); clear HO_11; clear BK166; clear HB; have HO_11 := n0_; have BK166 := n1_; have HB := n2_; have BK169 := n3_; have GW169 := n4_; have GE169 := n5_; have ig169_ := geI GE169; have NB166_169 := n6_; have NB169_166 := n7_; clear n0_ n1_ n2_ n3_ n4_ n5_ n6_ n7_; clear hb hbox hg; have hnb19 := NB169_166.out; have hnc19 := NB166_169.out; have hcz20_0 : w18.cell? ⟨gb169, 0, none⟩ = some (.int .i64 0) := (blk_cell BK169.out 0).trans rfl; have hcz20_1 : w18.cell? ⟨gb169, 1, none⟩ = some (.int .i64 0) := (blk_cell BK169.out 1).trans rfl; have hcz20_2 : w18.cell? ⟨gb169, 2, none⟩ = some (.int .i64 0) := (blk_cell BK169.out 2).trans rfl; have hfz20_0 := blk_frozen BK169.out 0; have hfz20_1 := blk_frozen BK169.out 1; have hfz20_2 := blk_frozen BK169.out 2) | (go_at_call 35; (with_reducible refine (tariff_within.calls ((rd_T26 l0_1 x25_1).f1) a2 a3 true _ A15.out).mono ?_); rintro e w' ⟨rfl, ⟨nd, rfl⟩⟩) | ((with_reducible refine gate_builtin (b := .append) (xs := #[.tmp 40, .tmp 43]) rfl ?_); at_builtin; refine Kd.R_append (Kd.int .i64) (w0 := w) w.heap.size rfl (.tmp 40) (.tmp 43) 40 3 (.int .i64 0) 8 rfl Tryz.underlying40 info3 rfl (by decide) (by omega) u11 x11_1 ((rd_T26 l0_1 x25_1).f1) [.int .i64 ((rd_T26 l0_1 x25_1).f1)] (fun _ => True) (fun _ => False) rfl (by first | (go_simp; done) | (go_simp; rfl)) ?aP (fun _ hk => hk.elim) ?aF ?aO ?aB ?aS ?aL ?_; (case aP => exact rfl); (case aB => exact (eG HB.out)); (case aF => exact (fun _ _ => trivial)); (case aO => exact (by (with_reducible repeat (first | apply Kd.R_alloc | apply Kd.R_drewN | apply Kd.R_drew)); exact Kd.R_mono (Kd.R_far (p := ⟨gb169, 2, none⟩) (Kd.R_far (p := ⟨gb169, 1, none⟩) (Kd.R_far (p := ⟨gb169, 0, none⟩) (Kd.R_types HO_11.out BK169.out (by decide)) (fun _ hk => hk.2) (.int .i64 ((rd_T26 l0_1 x25_1).f0))) (fun _ hk => hk.2) (.int .i64 ((rd_T26 l0_1 x25_1).f1))) (fun _ hk => hk.2) (.int .i64 ((rd_T26 l0_1 x25_1).f2))) (fun _ hk => trivial))); (case aS => exact (below_size (eG HB.out))); (case aL => have := LMc17.out; omega); intro v172 w21 ho hb hg hat; rw [← Ny171.out] at ho; have n0_ := Aside0.mk (blk_grown (g := gb166) (o := .cells #[.int .i64 a0_0, .slice (some ad168) l0_1.length c0_1] 24 (0, 0)) (by (with_reducible repeat first | apply bN | apply bD | apply bA); refine blk_far ?_ NB166_169.out _; (with_reducible repeat first | apply bN | apply bD | apply bA); refine blk_far ?_ NB166_169.out _; (with_reducible repeat first | apply bN | apply bD | apply bA); refine blk_far ?_ NB166_169.out _; (with_reducible repeat first | apply bN | apply bD | apply bA); exact BK166.out) hg (Kd.R_ne HO_11.out BK166.out (by decide))); have n1_ := Aside0.mk (blk_grown (g := gb169) (o := .cells #[.int .i64 ((rd_T26 l0_1 x25_1).f0), .int .i64 ((rd_T26 l0_1 x25_1).f1), .int .i64 ((rd_T26 l0_1 x25_1).f2)] 26 (0, 0)) (by (with_reducible repeat first | apply bN | apply bD | apply bA); refine blk_put (cs := #[.int .i64 ((rd_T26 l0_1 x25_1).f0), .int .i64 ((rd_T26 l0_1 x25_1).f1), .int .i64 0]) ?_ 2 _ rfl; (with_reducible repeat first | apply bN | apply bD | apply bA); refine blk_put (cs := #[.int .i64 ((rd_T26 l0_1 x25_1).f0), .int .i64 0, .int .i64 0]) ?_ 1 _ rfl; (with_reducible repeat first | apply bN | apply bD | apply bA); refine blk_put (cs := #[.int .i64 0, .int .i64 0, .int .i64 0]) ?_ 0 _ rfl; (with_reducible repeat first | apply bN | apply bD | apply bA); exact BK169.out) hg (Kd.R_ne HO_11.out BK169.out (by decide))); have n2_ := Aside0.mk (hb); have n3_ := Aside0.mk (ho); clear BK166; clear BK169; clear HB; clear HO_11; have BK166 := n0_; have BK169 := n1_; have HB := n2_; have HO173 := n3_; clear n0_ n1_ n2_ n3_; clear ho hb hg hat))
          go_roundg k1
          case measure => have := HK1.out; omega
          case rel => exact ⟨(y171), (wrap64 (x25_1 + 1)), (by first | rfl | (simp; done) | (simp [*]; done)), H', ⟨by have := HK1.out; omega⟩, ⟨by (with_reducible repeat (first | apply Kd.R_alloc | apply Kd.R_drewN | apply Kd.R_drew)); exact HO173.out⟩, ⟨by (with_reducible repeat first | apply bN | apply bD | apply bA); exact BK166.out⟩, ⟨eG HB.out⟩⟩
         · rw [if_neg c17] at H; exact absurd H (by simp)
        ·
         replace c16 := Bool.eq_false_iff.mpr c16; subst c16; replace H : (tariff_Changes.l0 k1 a1 a2 a3 x11_1 l0_1 (l0_1.length : Int) (wrap64 (x25_1 + 1))) = some (r1, r2) := by rw [if_neg (show ¬ (false = true) by decide)] at H; exact H
         have H' := Aside0.mk H; clear H; have p168 : 0 ≤ (x25_1 : Int) := of_decide_eq_true (by first | (with_reducible assumption) | assumption); have q168 : x25_1 < (l0_1.length : Int) := of_decide_eq_true (by first | (with_reducible assumption) | assumption); obtain ⟨ad168, e168, hx168_0, hx168_1, hx168_2⟩ := at_T26 HR0_1.out x25_1 p168 q168; cases e168; replace hx168_0 := (HB.out.cell (World.block_lt_of_cell? w _ hx168_0)).trans hx168_0; replace hx168_1 := (HB.out.cell (World.block_lt_of_cell? w _ hx168_1)).trans hx168_1; replace hx168_2 := (HB.out.cell (World.block_lt_of_cell? w _ hx168_2)).trans hx168_2; replace p168 := eq_true p168; replace q168 := eq_true q168; go_wp2_with (first | ((with_reducible refine gate_dst (N := 13) rfl ?_); refine box_event ?hg (N := 13) ?hd (cs := #[.int .i64 0, .int .i64 0, .int .i64 0]) (t := 26) ?hr ?_; (case hd => rfl); (case hg => rfl); (case hr => first | (go_simp; done) | (go_simp; rfl)); intro gb169 hg w22 hbox hb; have n0_ := Aside0.mk (Kd.R_below (by (with_reducible repeat (first | apply Kd.R_alloc | apply Kd.R_drewN | apply Kd.R_drew)); exact HO_11.out) hb); have n1_ := Aside0.mk (blk_below (bG BK166.out) hb); have n2_ := Aside0.mk (below_step (eG HB.out) hb); have n3_ := Aside0.mk (hbox); have n4_ := Aside0.mk ((by rw [hg]; exact (below_size (eG HB.out)) : w.heap.size ≤ gb169)); have n5_ := Aside0.mk ((by rw [hg]; exact (below_size (eG HB.out)) : w.heap.size ≤ gb169)); have n6_ := Aside0.mk ((by rw [hg]; exact Nat.ne_of_lt (blk_lt (bG BK166.out)) : gb166 ≠ gb169)); have n7_ := Aside0.mk ((by rw [hg]; exact Nat.ne_of_gt (blk_lt (bG BK166.out)) : gb169 ≠ gb166)); clear HO_11; clear BK166; clear HB; have HO_11 := n0_; have BK166 := n1_; have HB := n2_; have BK169 := n3_; have GW169 := n4_; have GE169 := n5_; have ig169_ := geI GE169; have NB166_169 := n6_; have NB169_166 := n7_; clear n0_ n1_ n2_ n3_ n4_ n5_ n6_ n7_; clear hb hbox hg; have hnb23 := NB169_166.out; have hnc23 := NB166_169.out; have hcz24_0 : w22.cell? ⟨gb169, 0, none⟩ = some (.int .i64 0) := (blk_cell BK169.out 0).trans rfl; have hcz24_1 : w22.cell? ⟨gb169, 1, none⟩ = some (.int .i64 0) := (blk_cell BK169.out 1).trans rfl; have hcz24_2 : w22.cell? ⟨gb169, 2, none⟩ = some (.int .i64 0) := (blk_cell BK169.out 2).trans rfl; have hfz24_0 := blk_frozen BK169.out 0; have hfz24_1 := blk_frozen BK169.out 1; have hfz24_2 := blk_frozen BK169.out 2) | (go_at_call 35; (with_reducible refine (tariff_within.calls ((rd_T26 l0_1 x25_1).f1) a2 a3 false _ A15.out).mono ?_); rintro e w' ⟨rfl, ⟨nd, rfl⟩⟩))
         go_roundg k1
         case measure => have := HK1.out; omega
         case rel => exact ⟨(x11_1), (wrap64 (x25_1 + 1)), (by first | rfl | (simp; done) | (simp [*]; done)), H', ⟨by have := HK1.out; omega⟩, ⟨by (with_reducible repeat (first | apply Kd.R_alloc | apply Kd.R_drewN | apply Kd.R_drew)); exact Kd.R_mono (Kd.R_far (p := ⟨gb169, 2, none⟩) (Kd.R_far (p := ⟨gb169, 1, none⟩) (Kd.R_far (p := ⟨gb169, 0, none⟩) (Kd.R_types HO_11.out BK169.out (by decide)) (fun _ hk => hk.2) (.int .i64 ((rd_T26 l0_1 x25_1).f0))) (fun _ hk => hk.2) (.int .i64 ((rd_T26 l0_1 x25_1).f1))) (fun _ hk => hk.2) (.int .i64 ((rd_T26 l0_1 x25_1).f2))) (fun _ hk => trivial)⟩, ⟨by (with_reducible repeat first | apply bN | apply bD | apply bA); refine blk_far ?_ NB166_169.out _; (with_reducible repeat first | apply bN | apply bD | apply bA); refine blk_far ?_ NB166_169.out _; (with_reducible repeat first | apply bN | apply bD | apply bA); refine blk_far ?_ NB166_169.out _; (with_reducible repeat first | apply bN | apply bD | apply bA); exact BK166.out⟩, ⟨eG HB.out⟩⟩
       ·
        rw [if_neg c14] at H; have c14b0 : (((rd_T26 l0_1 x25_1).f0) == a1) = false := beq_eq_false_iff_ne.mpr c14; have c14b1 : (((rd_T26 l0_1 x25_1).f0) != a1) = true := bne_iff_ne.mpr c14; have H' := Aside0.mk H; clear H; have p168 : 0 ≤ (x25_1 : Int) := of_decide_eq_true (by first | (with_reducible assumption) | assumption); have q168 : x25_1 < (l0_1.length : Int) := of_decide_eq_true (by first | (with_reducible assumption) | assumption); obtain ⟨ad168, e168, hx168_0, hx168_1, hx168_2⟩ := at_T26 HR0_1.out x25_1 p168 q168; cases e168; replace hx168_0 := (HB.out.cell (World.block_lt_of_cell? w _ hx168_0)).trans hx168_0; replace hx168_1 := (HB.out.cell (World.block_lt_of_cell? w _ hx168_1)).trans hx168_1; replace hx168_2 := (HB.out.cell (World.block_lt_of_cell? w _ hx168_2)).trans hx168_2; replace p168 := eq_true p168; replace q168 := eq_true q168; go_wp2_with (first | ((with_reducible refine gate_dst (N := 13) rfl ?_); refine box_event ?hg (N := 13) ?hd (cs := #[.int .i64 0, .int .i64 0, .int .i64 0]) (t := 26) ?hr ?_; (case hd => rfl); (case hg => rfl); (case hr => first | (go_simp; done) | (go_simp; rfl)); intro gb169 hg w25 hbox hb; have n0_ := Aside0.mk (Kd.R_below (by (with_reducible repeat (first | apply Kd.R_alloc | apply Kd.R_drewN | apply Kd.R_drew)); exact HO_11.out) hb); have n1_ := Aside0.mk (blk_below (bG BK166.out) hb); have n2_ := Aside0.mk (below_step (eG HB.out) hb); have n3_ := Aside0.mk (hbox); have n4_ := Aside0.mk ((by rw [hg]; exact (below_size (eG HB.out)) : w.heap.size ≤ gb169)); have n5_ := Aside0.mk ((by rw [hg]; exact (below_size (eG HB.out)) : w.heap.size ≤ gb169)); have n6_ := Aside0.mk ((by rw [hg]; exact Nat.ne_of_lt (blk_lt (bG BK166.out)) : gb166 ≠ gb169)); have n7_ := Aside0.mk ((by rw [hg]; exact Nat.ne_of_gt (blk_lt (bG BK166.out)) : gb169 ≠ gb166)); clear HO_11; clear BK166; clear HB; have HO_11 := n0_; have BK166 := n1_; have HB := n2_; have BK169 := n3_; have GW169 := n4_; have GE169 := n5_; have ig169_ := geI GE169; have NB166_169 := n6_; have NB169_166 := n7_; clear n0_ n1_ n2_ n3_ n4_ n5_ n6_ n7_; clear hb hbox hg; have hnb26 := NB169_166.out; have hnc26 := NB166_169.out; have hcz27_0 : w25.cell? ⟨gb169, 0, none⟩ = some (.int .i64 0) := (blk_cell BK169.out 0).trans rfl; have hcz27_1 : w25.cell? ⟨gb169, 1, none⟩ = some (.int .i64 0) := (blk_cell BK169.out 1).trans rfl; have hcz27_2 : w25.cell? ⟨gb169, 2, none⟩ = some (.int .i64 0) := (blk_cell BK169.out 2).trans rfl; have hfz27_0 := blk_frozen BK169.out 0; have hfz27_1 := blk_frozen BK169.out 1; have hfz27_2 := blk_frozen BK169.out 2))
        go_roundg k1
        case measure => have := HK1.out; omega
        case rel => exact ⟨(x11_1), (wrap64 (x25_1 + 1)), (by first | rfl | (simp; done) | (simp [*]; done)), H', ⟨by have := HK1.out; omega⟩, ⟨by (with_reducible repeat (first | apply Kd.R_alloc | apply Kd.R_drewN | apply Kd.R_drew)); exact Kd.R_mono (Kd.R_far (p := ⟨gb169, 2, none⟩) (Kd.R_far (p := ⟨gb169, 1, none⟩) (Kd.R_far (p := ⟨gb169, 0, none⟩) (Kd.R_types HO_11.out BK169.out (by decide)) (fun _ hk => hk.2) (.int .i64 ((rd_T26 l0_1 x25_1).f0))) (fun _ hk => hk.2) (.int .i64 ((rd_T26 l0_1 x25_1).f1))) (fun _ hk => hk.2) (.int .i64 ((rd_T26 l0_1 x25_1).f2))) (fun _ hk => trivial)⟩, ⟨by (with_reducible repeat first | apply bN | apply bD | apply bA); refine blk_far ?_ NB166_169.out _; (with_reducible repeat first | apply bN | apply bD | apply bA); refine blk_far ?_ NB166_169.out _; (with_reducible repeat first | apply bN | apply bD | apply bA); refine blk_far ?_ NB166_169.out _; (with_reducible repeat first | apply bN | apply bD | apply bA); exact BK166.out⟩, ⟨eG HB.out⟩⟩
      · rw [if_neg c13] at H; exact absurd H (by simp)
     · rw [if_neg c12] at H; exact absurd H (by simp)
    ·
     rw [if_neg c11] at H; have c11b0 : decide (x25_1 < (l0_1.length : Int)) = false := decide_eq_false c11; clear c11; simp only [Option.some.injEq, Prod.mk.injEq] at H; obtain ⟨rfl, rfl⟩ := H; go_wp2; go_ret2
     exact ⟨_, by first | rfl | (simp [errW_none, errW_some] <;> rfl) | (simp [*, errW_none, errW_some] <;> rfl), by (with_reducible repeat (first | apply Kd.R_alloc | apply Kd.R_drewN | apply Kd.R_drew)); exact HO_11.out, eG HB.out⟩
 ·
  rw [if_neg c6] at H; have c6b0 : (t167 == 0) = false := beq_eq_false_iff_ne.mpr c6; have c6b1 : (t167 != 0) = true := bne_iff_ne.mpr c6; simp only [Option.some.injEq, Prod.mk.injEq] at H; obtain ⟨rfl, rfl⟩ := H; go_enter Tryz.func23, Tryz.ntmps23
  go_wp2_with (first | ((with_reducible refine gate_dst (N := 4) rfl ?_); refine box_event ?hg (N := 4) ?hd (cs := #[.int .i64 a0_0, .slice A0_1 l0_1.length c0_1]) (t := 24) ?hr ?_; (case hd => rfl); (case hg => rfl); (case hr => first | (go_simp; done) | (go_simp; rfl)); intro gb166 hg w28 hbox hb; have n0_ := Aside0.mk (below_step (eG HB.out) hb); have n1_ := Aside0.mk (hbox); have n2_ := Aside0.mk ((by rw [hg]; exact (below_size (eG HB.out)) : w.heap.size ≤ gb166)); have n3_ := Aside0.mk ((by rw [hg]; exact (below_size (eG HB.out)) : w.heap.size ≤ gb166)); clear HB; have HB := n0_; have BK166 := n1_; have GW166 := n2_; have GE166 := n3_; have ig166_ := geI GE166; clear n0_ n1_ n2_ n3_; clear hb hbox hg; have hcz29_0 : w28.cell? ⟨gb166, 0, none⟩ = some (.int .i64 a0_0) := (blk_cell BK166.out 0).trans rfl; have hcz29_1 : w28.cell? ⟨gb166, 1, none⟩ = some (.slice A0_1 l0_1.length c0_1) := (blk_cell BK166.out 1).trans rfl; have hfz29_0 := blk_frozen BK166.out 0; have hfz29_1 := blk_frozen BK166.out 1) | ((with_reducible refine gate_callee (f := 48) rfl ?_); refine goesL_ (some 18) rfl rfl Tryz.func48 (by kernel_rfl) rfl #[.agg #[.int .i64 a0_0, .slice A0_1 l0_1.length c0_1], .int .i64 a1, .int .i64 a2, .int .i64 a3] rfl (by (try simp only [List.map_toArray, List.map_cons, List.map_nil]); first | done | rfl | (simp only [List.length_drop, List.length_take]; rfl)) ?_; (with_reducible refine (tariff_span.calls k a0_0 _ _ l0_1 a1 a2 a3 t167 _ ?side1 ?side2 A5.out).mono ?_); (case side1 => repeat (first | exact (Kd.C_below HR0_1.out HB.out) | (with_reducible refine Kd.C_alloc ?_ _) | (with_reducible refine Kd.C_drewN ?_ _) | (with_reducible refine Kd.C_drew ?_))); (case side2 => exact HC0_1.out); rintro e w30 ⟨rfl, hb⟩; refine ⟨_, rfl, ?_⟩; have n0_ := Aside0.mk (blk_below (bG BK166.out) hb); have n1_ := Aside0.mk (below_step (eG HB.out) hb); clear BK166; clear HB; have BK166 := n0_; have HB := n1_; clear n0_ n1_; (try clear hb); (try clear hb2); (try clear hk); (try clear hi)))
  go_ret2
  exact ⟨_, by first | rfl | (simp [errW_none, errW_some] <;> rfl) | (simp [*, errW_none, errW_some] <;> rfl), by first | exact Kd.R_nil _ _ _ _ _ | exact Kd.N_nil _ _ _ _ _ | exact Kd.V_nil _ _ _ _ _ | exact Kd.Q_nil _ _ _ _ _ | exact Kd.S_nil _ _ _ _ _, eG HB.out⟩
def slices_Equal_int_int.l0 : Nat → List Int → List Int → Int → Int → Option (Bool)
 | 0, _, _, _, _ => none
 | k + 1, x0, x1, x12, x13 => if x13 < x12 then (if 0 ≤ x13 then (if x13 < (x0.length : Int) then (if x13 < (x1.length : Int) then (if (rd x0 x13) = (rd x1 x13) then (slices_Equal_int_int.l0 k x0 x1 x12 (wrap64 (x13 + 1))) else (some false)) else (none)) else (none)) else (none)) else (some true)
def slices_Equal_int_int.f (k : Nat) (l0 : List Int) (l1 : List Int) : Option (Bool) := if (l0.length : Int) = (l1.length : Int) then (slices_Equal_int_int.l0 k l0 l1 (l0.length : Int) 0) else (some false)
set_option maxHeartbeats 8000000 in
set_option maxRecDepth 100000 in
theorem slices_Equal_int_int.calls (k : Nat) (A0 : Option Addr) (c0 : Nat) (l0 : List Int) (A1 : Option Addr) (c1 : Nat) (l1 : List Int) (r : Bool) (w : World) (hr0 : Kd.C (Kd.int .i64) w A0 l0.length l0) (hc0 : l0.length ≤ c0) (hr1 : Kd.C (Kd.int .i64) w A1 l1.length l1) (hc1 : l1.length ≤ c1) (h : slices_Equal_int_int.f k l0 l1 = some r) :
  Calls Tryz.prog 25 #[.slice A0 l0.length c0, .slice A1 l1.length c1] w fun e w' => e = .returned (.bool r) ∧ Drawn0 w w' := by
 have HR0 := Aside0.mk hr0; have HC0 := Aside0.mk hc0; clear hr0 hc0; have HR1 := Aside0.mk hr1; have HC1 := Aside0.mk hc1; clear hr1 hc1; have H : (if (l0.length : Int) = (l1.length : Int) then (slices_Equal_int_int.l0 k l0 l1 (l0.length : Int) 0) else (some false)) = some r := h; clear h; by_cases c3 : (l0.length : Int) = (l1.length : Int)
 ·
  rw [if_pos c3] at H; have c3b0 : ((l0.length : Int) == (l1.length : Int)) = true := beq_iff_eq.mpr c3; have c3b1 : ((l0.length : Int) != (l1.length : Int)) = false := bne_eq_false_iff_eq.mpr c3; have c3b2 : (l0.length == l1.length) = true := by first | simpa using c3 | (simp at c3 ⊢; omega)
  clear c3; have H' := Aside0.mk H; clear H; go_enter Tryz.func25, Tryz.ntmps25
  go_wp2; repeat (go_quiet (fail); try go_wp2)
  go_loopg [13] k (fun kq v13 w' => ∃ (x13_1 : Int), v13 = .int .i64 x13_1 ∧ Aside0 (slices_Equal_int_int.l0 kq l0 l1 (l0.length : Int) x13_1 = some r) ∧ Aside0 (kq ≤ k) ∧ Drawn0 w w')
  case atStart => exact ⟨(0), (by first | rfl | (simp; done) | (simp [*]; done)), H', ⟨Nat.le_refl _⟩, by repeat (first | exact Drawn0.refl _ | apply Drawn0.step)⟩
  case round =>
   clear H'; try clear c1
   try clear c2
   try clear p2
   try clear c3
   try clear c3b0
   try clear c3b1
   try clear c3b2
   obtain ⟨x13_1, rfl, HA, HK1, ⟨m1, rfl⟩⟩ := hrel
   cases gk with
   | zero => exact absurd HA.out (by simp [slices_Equal_int_int.l0])
   | succ k1 =>
    have H := HA.out; clear HA; simp only [slices_Equal_int_int.l0] at H; by_cases c4 : x13_1 < (l0.length : Int)
    ·
     rw [if_pos c4] at H; have c4b0 : decide (x13_1 < (l0.length : Int)) = true := decide_eq_true c4; clear c4; by_cases c5 : 0 ≤ x13_1
     ·
      rw [if_pos c5] at H; have c5b0 : decide (0 ≤ x13_1) = true := decide_eq_true c5; clear c5; by_cases c6 : x13_1 < (l0.length : Int)
      ·
       rw [if_pos c6] at H; have c6b0 : decide (x13_1 < (l0.length : Int)) = true := decide_eq_true c6; clear c6; by_cases c7 : x13_1 < (l1.length : Int)
       ·
        rw [if_pos c7] at H; have c7b0 : decide (x13_1 < (l1.length : Int)) = true := decide_eq_true c7; clear c7; by_cases c8 : (rd l0 x13_1) = (rd l1 x13_1)
        ·
         rw [if_pos c8] at H; have c8b0 : ((rd l0 x13_1) == (rd l1 x13_1)) = true := beq_iff_eq.mpr c8; have c8b1 : ((rd l0 x13_1) != (rd l1 x13_1)) = false := bne_eq_false_iff_eq.mpr c8; clear c8; have H' := Aside0.mk H; clear H; have p174 : 0 ≤ (x13_1 : Int) := of_decide_eq_true (by first | (with_reducible assumption) | assumption); have q174 : x13_1 < (l0.length : Int) := of_decide_eq_true (by first | (with_reducible assumption) | assumption); obtain ⟨ad174, e174, hx174_0⟩ := Kd.at_int HR0.out x13_1 p174 q174; cases e174; replace p174 := eq_true p174; replace q174 := eq_true q174; have p175 : 0 ≤ (x13_1 : Int) := of_decide_eq_true (by first | (with_reducible assumption) | assumption); have q175 : x13_1 < (l1.length : Int) := of_decide_eq_true (by first | (with_reducible assumption) | assumption); obtain ⟨ad175, e175, hx175_0⟩ := Kd.at_int HR1.out x13_1 p175 q175; cases e175; replace p175 := eq_true p175; replace q175 := eq_true q175; go_wp2; repeat (go_quiet (fail); try go_wp2)
         go_roundg k1
         case measure => have := HK1.out; omega
         case rel => exact ⟨(wrap64 (x13_1 + 1)), (by first | rfl | (simp; done) | (simp [*]; done)), H', ⟨by have := HK1.out; omega⟩, by repeat (first | exact Drawn0.refl _ | apply Drawn0.step)⟩
        ·
         rw [if_neg c8] at H; have c8b0 : ((rd l0 x13_1) == (rd l1 x13_1)) = false := beq_eq_false_iff_ne.mpr c8; have c8b1 : ((rd l0 x13_1) != (rd l1 x13_1)) = true := bne_iff_ne.mpr c8; obtain rfl := Option.some.inj H; have p174 : 0 ≤ (x13_1 : Int) := of_decide_eq_true (by first | (with_reducible assumption) | assumption); have q174 : x13_1 < (l0.length : Int) := of_decide_eq_true (by first | (with_reducible assumption) | assumption); obtain ⟨ad174, e174, hx174_0⟩ := Kd.at_int HR0.out x13_1 p174 q174; cases e174; replace p174 := eq_true p174; replace q174 := eq_true q174; have p175 : 0 ≤ (x13_1 : Int) := of_decide_eq_true (by first | (with_reducible assumption) | assumption); have q175 : x13_1 < (l1.length : Int) := of_decide_eq_true (by first | (with_reducible assumption) | assumption); obtain ⟨ad175, e175, hx175_0⟩ := Kd.at_int HR1.out x13_1 p175 q175; cases e175; replace p175 := eq_true p175; replace q175 := eq_true q175; go_wp2; repeat (go_quiet (fail); try go_wp2)
         go_ret
         exact ⟨by first | rfl | (simp; done) | (simp [*]; done), by repeat (first | exact Drawn0.refl _ | apply Drawn0.step)⟩
       · rw [if_neg c7] at H; exact absurd H (by simp)
      · rw [if_neg c6] at H; exact absurd H (by simp)
     · rw [if_neg c5] at H; exact absurd H (by simp)
    ·
     rw [if_neg c4] at H; have c4b0 : decide (x13_1 < (l0.length : Int)) = false := decide_eq_false c4; clear c4; obtain rfl := Option.some.inj H; go_wp2; repeat (go_quiet (fail); try go_wp2)
     go_ret
     exact ⟨by first | rfl | (simp; done) | (simp [*]; done), by repeat (first | exact Drawn0.refl _ | apply Drawn0.step)⟩
 ·
  rw [if_neg c3] at H; have c3b0 : ((l0.length : Int) == (l1.length : Int)) = false := beq_eq_false_iff_ne.mpr c3; have c3b1 : ((l0.length : Int) != (l1.length : Int)) = true := bne_iff_ne.mpr c3; have c3b2 : (l0.length == l1.length) = false := by first | simpa using c3 | (simp at c3 ⊢; omega)
  obtain rfl := Option.some.inj H; go_enter Tryz.func25, Tryz.ntmps25
  go_wp2; repeat (go_quiet (fail); try go_wp2)
  go_ret
  exact ⟨by first | rfl | (simp; done) | (simp [*]; done), by repeat (first | exact Drawn0.refl _ | apply Drawn0.step)⟩
def tariff_rounded.f (a0 : Int) (a1 : Int) : Option (Int) := if a1 = 2 then (if (Int.tmod a0 10000000) > 0 then (some (wrap64 (IntKind.u64.wrap ((IntKind.u64.wrap (Int.tdiv a0 10000000)) + 1)))) else (some (wrap64 (IntKind.u64.wrap (Int.tdiv a0 10000000))))) else (if a1 = 3 then (if (IntKind.u64.wrap (2 * (Int.tmod a0 10000000))) ≥ 10000000 then (some (wrap64 (IntKind.u64.wrap ((IntKind.u64.wrap (Int.tdiv a0 10000000)) + 1)))) else (some (wrap64 (IntKind.u64.wrap (Int.tdiv a0 10000000))))) else (if a1 = 4 then (if (IntKind.u64.wrap (2 * (Int.tmod a0 10000000))) > 10000000 then (some (wrap64 (IntKind.u64.wrap ((IntKind.u64.wrap (Int.tdiv a0 10000000)) + 1)))) else (if (IntKind.u64.wrap (2 * (Int.tmod a0 10000000))) = 10000000 then (if (Int.tmod (IntKind.u64.wrap (Int.tdiv a0 10000000)) 2) = 1 then (some (wrap64 (IntKind.u64.wrap ((IntKind.u64.wrap (Int.tdiv a0 10000000)) + 1)))) else (some (wrap64 (IntKind.u64.wrap (Int.tdiv a0 10000000))))) else (some (wrap64 (IntKind.u64.wrap (Int.tdiv a0 10000000)))))) else (some (wrap64 (IntKind.u64.wrap (Int.tdiv a0 10000000))))))
set_option maxHeartbeats 8000000 in
set_option maxRecDepth 100000 in
theorem tariff_rounded.calls (a0 : Int) (a1 : Int) (r : Int) (w : World) (h : tariff_rounded.f a0 a1 = some r) :
  Calls Tryz.prog 50 #[.int .u64 a0, .int .i64 a1] w fun e w' => e = .returned (.int .i64 r) ∧ Drawn0 w w' := by
 have H : (if a1 = 2 then (if (Int.tmod a0 10000000) > 0 then (some (wrap64 (IntKind.u64.wrap ((IntKind.u64.wrap (Int.tdiv a0 10000000)) + 1)))) else (some (wrap64 (IntKind.u64.wrap (Int.tdiv a0 10000000))))) else (if a1 = 3 then (if (IntKind.u64.wrap (2 * (Int.tmod a0 10000000))) ≥ 10000000 then (some (wrap64 (IntKind.u64.wrap ((IntKind.u64.wrap (Int.tdiv a0 10000000)) + 1)))) else (some (wrap64 (IntKind.u64.wrap (Int.tdiv a0 10000000))))) else (if a1 = 4 then (if (IntKind.u64.wrap (2 * (Int.tmod a0 10000000))) > 10000000 then (some (wrap64 (IntKind.u64.wrap ((IntKind.u64.wrap (Int.tdiv a0 10000000)) + 1)))) else (if (IntKind.u64.wrap (2 * (Int.tmod a0 10000000))) = 10000000 then (if (Int.tmod (IntKind.u64.wrap (Int.tdiv a0 10000000)) 2) = 1 then (some (wrap64 (IntKind.u64.wrap ((IntKind.u64.wrap (Int.tdiv a0 10000000)) + 1)))) else (some (wrap64 (IntKind.u64.wrap (Int.tdiv a0 10000000))))) else (some (wrap64 (IntKind.u64.wrap (Int.tdiv a0 10000000)))))) else (some (wrap64 (IntKind.u64.wrap (Int.tdiv a0 10000000))))))) = some r := h; clear h; by_cases c3 : a1 = 2
 ·
  rw [if_pos c3] at H; have c3b0 : (a1 == 2) = true := beq_iff_eq.mpr c3; have c3b1 : (a1 != 2) = false := bne_eq_false_iff_eq.mpr c3; clear c3; by_cases c4 : (Int.tmod a0 10000000) > 0
  ·
   rw [if_pos c4] at H; have c4b0 : decide (0 < (Int.tmod a0 10000000)) = true := decide_eq_true c4; clear c4; obtain rfl := Option.some.inj H; go_enter Tryz.func50, Tryz.ntmps50
   go_wp2; go_ret
   exact ⟨by first | rfl | (simp; done) | (simp [*]; done), by repeat (first | exact Drawn0.refl _ | apply Drawn0.step)⟩
  ·
   rw [if_neg c4] at H; have c4b0 : decide (0 < (Int.tmod a0 10000000)) = false := decide_eq_false c4; clear c4; obtain rfl := Option.some.inj H; go_enter Tryz.func50, Tryz.ntmps50
   go_wp2; go_ret
   exact ⟨by first | rfl | (simp; done) | (simp [*]; done), by repeat (first | exact Drawn0.refl _ | apply Drawn0.step)⟩
 ·
  rw [if_neg c3] at H; have c3b0 : (a1 == 2) = false := beq_eq_false_iff_ne.mpr c3; have c3b1 : (a1 != 2) = true := bne_iff_ne.mpr c3; by_cases c5 : a1 = 3
  ·
   rw [if_pos c5] at H; have c5b0 : (a1 == 3) = true := beq_iff_eq.mpr c5; have c5b1 : (a1 != 3) = false := bne_eq_false_iff_eq.mpr c5; clear c5; by_cases c6 : (IntKind.u64.wrap (2 * (Int.tmod a0 10000000))) ≥ 10000000
   ·
    rw [if_pos c6] at H; have c6b0 : decide (10000000 ≤ (IntKind.u64.wrap (2 * (Int.tmod a0 10000000)))) = true := decide_eq_true c6; clear c6; obtain rfl := Option.some.inj H; go_enter Tryz.func50, Tryz.ntmps50
    go_wp2; go_ret
    exact ⟨by first | rfl | (simp; done) | (simp [*]; done), by repeat (first | exact Drawn0.refl _ | apply Drawn0.step)⟩
   ·
    rw [if_neg c6] at H; have c6b0 : decide (10000000 ≤ (IntKind.u64.wrap (2 * (Int.tmod a0 10000000)))) = false := decide_eq_false c6; clear c6; obtain rfl := Option.some.inj H; go_enter Tryz.func50, Tryz.ntmps50
    go_wp2; go_ret
    exact ⟨by first | rfl | (simp; done) | (simp [*]; done), by repeat (first | exact Drawn0.refl _ | apply Drawn0.step)⟩
  ·
   rw [if_neg c5] at H; have c5b0 : (a1 == 3) = false := beq_eq_false_iff_ne.mpr c5; have c5b1 : (a1 != 3) = true := bne_iff_ne.mpr c5; by_cases c7 : a1 = 4
   ·
    rw [if_pos c7] at H; have c7b0 : (a1 == 4) = true := beq_iff_eq.mpr c7; have c7b1 : (a1 != 4) = false := bne_eq_false_iff_eq.mpr c7; clear c7; by_cases c8 : (IntKind.u64.wrap (2 * (Int.tmod a0 10000000))) > 10000000
    ·
     rw [if_pos c8] at H; have c8b0 : decide (10000000 < (IntKind.u64.wrap (2 * (Int.tmod a0 10000000)))) = true := decide_eq_true c8; clear c8; obtain rfl := Option.some.inj H; go_enter Tryz.func50, Tryz.ntmps50
     go_wp2; go_ret
     exact ⟨by first | rfl | (simp; done) | (simp [*]; done), by repeat (first | exact Drawn0.refl _ | apply Drawn0.step)⟩
    ·
     rw [if_neg c8] at H; have c8b0 : decide (10000000 < (IntKind.u64.wrap (2 * (Int.tmod a0 10000000)))) = false := decide_eq_false c8; clear c8; by_cases c9 : (IntKind.u64.wrap (2 * (Int.tmod a0 10000000))) = 10000000
     ·
      rw [if_pos c9] at H; have c9b0 : ((IntKind.u64.wrap (2 * (Int.tmod a0 10000000))) == 10000000) = true := beq_iff_eq.mpr c9; have c9b1 : ((IntKind.u64.wrap (2 * (Int.tmod a0 10000000))) != 10000000) = false := bne_eq_false_iff_eq.mpr c9; clear c9; by_cases c10 : (Int.tmod (IntKind.u64.wrap (Int.tdiv a0 10000000)) 2) = 1
      ·
       rw [if_pos c10] at H; have c10b0 : ((Int.tmod (IntKind.u64.wrap (Int.tdiv a0 10000000)) 2) == 1) = true := beq_iff_eq.mpr c10; have c10b1 : ((Int.tmod (IntKind.u64.wrap (Int.tdiv a0 10000000)) 2) != 1) = false := bne_eq_false_iff_eq.mpr c10; clear c10; obtain rfl := Option.some.inj H; go_enter Tryz.func50, Tryz.ntmps50
       go_wp2; go_ret
       exact ⟨by first | rfl | (simp; done) | (simp [*]; done), by repeat (first | exact Drawn0.refl _ | apply Drawn0.step)⟩
      ·
       rw [if_neg c10] at H; have c10b0 : ((Int.tmod (IntKind.u64.wrap (Int.tdiv a0 10000000)) 2) == 1) = false := beq_eq_false_iff_ne.mpr c10; have c10b1 : ((Int.tmod (IntKind.u64.wrap (Int.tdiv a0 10000000)) 2) != 1) = true := bne_iff_ne.mpr c10; obtain rfl := Option.some.inj H; go_enter Tryz.func50, Tryz.ntmps50
       go_wp2; go_ret
       exact ⟨by first | rfl | (simp; done) | (simp [*]; done), by repeat (first | exact Drawn0.refl _ | apply Drawn0.step)⟩
     ·
      rw [if_neg c9] at H; have c9b0 : ((IntKind.u64.wrap (2 * (Int.tmod a0 10000000))) == 10000000) = false := beq_eq_false_iff_ne.mpr c9; have c9b1 : ((IntKind.u64.wrap (2 * (Int.tmod a0 10000000))) != 10000000) = true := bne_iff_ne.mpr c9; obtain rfl := Option.some.inj H; go_enter Tryz.func50, Tryz.ntmps50
      go_wp2; go_ret
      exact ⟨by first | rfl | (simp; done) | (simp [*]; done), by repeat (first | exact Drawn0.refl _ | apply Drawn0.step)⟩
   ·
    rw [if_neg c7] at H; have c7b0 : (a1 == 4) = false := beq_eq_false_iff_ne.mpr c7; have c7b1 : (a1 != 4) = true := bne_iff_ne.mpr c7; obtain rfl := Option.some.inj H; go_enter Tryz.func50, Tryz.ntmps50
    go_wp2; go_ret
    exact ⟨by first | rfl | (simp; done) | (simp [*]; done), by repeat (first | exact Drawn0.refl _ | apply Drawn0.step)⟩
end Go.Proofs.YtholbmidciapdaaGreatDoor.Pr
namespace Go.Proofs.YtholbmidciapdaaGreatDoor.Pr
open Go.RowKit Go.Proofs.YtholbmidciapdaaGreatDoorW.PrintWords Go.Proofs.YtholbmidciapdaaGreatDoorW.PrintLast Go.Proofs.YtholbmidciapdaaGreatDoorW.PrintMore Go.Proofs.YtholbmidciapdaaGreatDoor.X
attribute [local go_sem] max2_int min2_int max_two min_two max_three min_three max_four min_four   -- for this text's walks alone
set_option linter.unusedVariables false
set_option linter.unusedSimpArgs false
def api_Rate_42_at_37.l0 : Nat → List (S26) → Int → Int → Int → Int → Int → Int → Option (Int × Bool)
 | 0, _, _, _, _, _, _, _ => none
 | k + 1, x0, x8, x9, x10, x127000, x127001, x127002 => if x9 < x10 then (if 0 ≤ (wrap64 ((IntKind.u64.wrap (wrap64 (x9 + x10))) / 2)) then (if (wrap64 ((IntKind.u64.wrap (wrap64 (x9 + x10))) / 2)) < (x0.length : Int) then ((tariff_compare.f k ((rd_T26 x0 (wrap64 ((IntKind.u64.wrap (wrap64 (x9 + x10))) / 2))).f0) ((rd_T26 x0 (wrap64 ((IntKind.u64.wrap (wrap64 (x9 + x10))) / 2))).f1) ((rd_T26 x0 (wrap64 ((IntKind.u64.wrap (wrap64 (x9 + x10))) / 2))).f2) x127000 x127001 x127002).bind fun t128 => (if t128 < 0 then (api_Rate_42_at_37.l0 k x0 x8 (wrap64 ((wrap64 ((IntKind.u64.wrap (wrap64 (x9 + x10))) / 2)) + 1)) x10 x127000 x127001 x127002) else (api_Rate_42_at_37.l0 k x0 x8 x9 (wrap64 ((IntKind.u64.wrap (wrap64 (x9 + x10))) / 2)) x127000 x127001 x127002))) else (none)) else (none)) else (if x9 < x8 then (if 0 ≤ x9 then (if x9 < (x0.length : Int) then ((tariff_compare.f k ((rd_T26 x0 x9).f0) ((rd_T26 x0 x9).f1) ((rd_T26 x0 x9).f2) x127000 x127001 x127002).bind fun t130 => (some (x9, (t130 == 0)))) else (none)) else (none)) else (some (x9, false)))
def api_Rate_42_at_37.f (k : Nat) (l0 : List (S26)) (a1_0 : Int) (a1_1 : Int) (a1_2 : Int)  : Option (Int × Bool) := api_Rate_42_at_37.l0 k l0 (l0.length : Int) 0 (l0.length : Int) a1_0 a1_1 a1_2
def api_Rate_42_at_37.T5 : Bool × List (List Nat × List Nat) := (true, [([], []), ([], []), ([], []), ([1, 2], [1, 2]), ([3], [3]), ([], []), ([0, 4, 5], [0, 4, 5]), ([6], [6])])
def api_Rate_42_at_37.B5 : List Nat := [0, 0, 0, 6, 14, 0, 63, 127]
theorem api_Rate_42_at_37.tab5 : rtab .any (opsOf Tryz.f42 5) = api_Rate_42_at_37.T5 := by kernel_rfl
theorem api_Rate_42_at_37.bits5 : waitsOk api_Rate_42_at_37.T5.2 api_Rate_42_at_37.B5 = true := by kernel_rfl
def api_Rate_42_at_37.T8 : Bool × List (List Nat × List Nat) := (true, [([], []), ([], []), ([], []), ([1, 2], [1, 2]), ([3], [3]), ([4], [4]), ([4], [4]), ([4], [4]), ([6, 7, 4], [4, 6, 7]), ([8, 4], [4, 8]), ([4], [4]), ([5, 9, 10, 4, 4], [4, 5, 9, 10]), ([11, 4], [4, 11]), ([4, 12], [4, 12]), ([0, 11, 0], [0]), ([13, 14, 0, 1, 2, 3, 4, 5, 6, 7, 8, 9, 10, 11, 12, 13, 14], [13])])
def api_Rate_42_at_37.B8 : List Nat := [0, 0, 0, 6, 14, 30, 30, 30, 222, 478, 30, 2046, 4094, 8190, 4095, 32767]
theorem api_Rate_42_at_37.tab8 : rtab .any (opsOf Tryz.f42 8) = api_Rate_42_at_37.T8 := by kernel_rfl
theorem api_Rate_42_at_37.bits8 : waitsOk api_Rate_42_at_37.T8.2 api_Rate_42_at_37.B8 = true := by kernel_rfl
set_option maxHeartbeats 8000000 in
set_option maxRecDepth 100000 in
theorem api_Rate_42_at_37.calls (k : Nat) (A0 : Option Addr) (c0 : Nat) (l0 : List (S26)) (a1_0 : Int) (a1_1 : Int) (a1_2 : Int)  (r1 : Int) (r2 : Bool) (w : World) (hr0 : Kd.C k26 w A0 l0.length l0) (hc0 : l0.length ≤ c0) (h : api_Rate_42_at_37.f k l0 a1_0 a1_1 a1_2 = some (r1, r2)) :
  Calls Tryz.prog 42 #[.slice A0 l0.length c0, .agg #[.int .i64 a1_0, .int .i64 a1_1, .int .i64 a1_2], .func (.func 37) #[] #[]] w fun e w' => e = .returned (.tuple #[.int .i64 r1, .bool r2]) ∧ Below w.heap.size w w' := by
 have hu26 := Tryz.underlying26; have HR0 := Aside0.mk hr0; have HC0 := Aside0.mk hc0; clear hr0 hc0; have HB := Aside0.mk (Below.refl w.heap.size w); have H : (api_Rate_42_at_37.l0 k l0 (l0.length : Int) 0 (l0.length : Int) a1_0 a1_1 a1_2) = some (r1, r2) := h; clear h; have H' := Aside0.mk H; clear H; go_enter Tryz.func42, Tryz.ntmps42
 go_wp2_with (first | ((with_reducible refine gate_dst (N := 4) rfl ?_); refine box_event ?hg (N := 4) ?hd (cs := #[.int .i64 a1_0, .int .i64 a1_1, .int .i64 a1_2]) (t := 26) ?hr ?_; (case hd => rfl); (case hg => rfl); (case hr => first | (go_simp; done) | (go_simp; rfl)); intro gb126 hg w4 hbox hb; have n0_ := Aside0.mk (below_step (eG HB.out) hb); have n1_ := Aside0.mk (hbox); have n2_ := Aside0.mk ((by rw [hg]; exact (below_size (eG HB.out)) : w.heap.size ≤ gb126)); have n3_ := Aside0.mk ((by rw [hg]; exact (below_size (eG HB.out)) : w.heap.size ≤ gb126)); clear HB; have HB := n0_; have BK126 := n1_; have GW126 := n2_; have GE126 := n3_; have ig126_ := geI GE126; clear n0_ n1_ n2_ n3_; clear hb hbox hg))
 go_loopg [9, 10] k (fun kq v9 v10 w' => ∃ (x9_1 : Int) (x10_1 : Int), v9 = .int .i64 x9_1 ∧ v10 = .int .i64 x10_1 ∧ Aside0 (api_Rate_42_at_37.l0 kq l0 (l0.length : Int) x9_1 x10_1 a1_0 a1_1 a1_2 = some (r1, r2)) ∧ Aside0 (kq ≤ k) ∧ Aside0 (w'.heap[gb126]? = some (.cells #[.int .i64 a1_0, .int .i64 a1_1, .int .i64 a1_2] 26 (0, 0))) ∧ Aside0 (Below w.heap.size w w'))
 case atStart => exact ⟨(0), ((l0.length : Int)), (by first | rfl | (simp; done) | (simp [*]; done)), (by first | rfl | (simp; done) | (simp [*]; done)), H', ⟨Nat.le_refl _⟩, ⟨by (with_reducible repeat first | apply bN | apply bD | apply bA); exact BK126.out⟩, ⟨eG HB.out⟩⟩
 case round =>
  clear H'; repeat first | clear p2 | clear c4
  obtain ⟨x9_1, x10_1, rfl, rfl, HA, HK1, BK126, HB⟩ := hrel
  cases gk with
  | zero => exact absurd HA.out (by simp [api_Rate_42_at_37.l0])
  | succ k1 =>
   have H := HA.out; clear HA; simp only [api_Rate_42_at_37.l0] at H; by_cases c5 : x9_1 < x10_1
   ·
    rw [if_pos c5] at H; have c5b0 : decide (x9_1 < x10_1) = true := decide_eq_true c5; clear c5; obtain ⟨ji6, hji6⟩ : ∃ j_ : Int, (wrap64 ((IntKind.u64.wrap (wrap64 (x9_1 + x10_1))) / 2)) = j_ := ⟨_, rfl⟩; replace H : (if 0 ≤ (ji6) then (if (ji6) < (l0.length : Int) then ((tariff_compare.f k1 ((rd_T26 l0 (ji6)).f0) ((rd_T26 l0 (ji6)).f1) ((rd_T26 l0 (ji6)).f2) a1_0 a1_1 a1_2).bind fun t128 => (if t128 < 0 then (api_Rate_42_at_37.l0 k1 l0 (l0.length : Int) (wrap64 ((ji6) + 1)) x10_1 a1_0 a1_1 a1_2) else (api_Rate_42_at_37.l0 k1 l0 (l0.length : Int) x9_1 ji6 a1_0 a1_1 a1_2))) else (none)) else (none)) = some (r1, r2) := by first | (rw [hji6] at H; exact H) | (simp only [hji6] at H ⊢; exact H)
    have hji6w : (IntKind.i64.wrap ((IntKind.u64.wrap (wrap64 (x9_1 + x10_1))) / 2)) = ji6 := (i64_w _).trans hji6; by_cases c7 : 0 ≤ (ji6)
    ·
     rw [if_pos c7] at H; have c7b0 : decide (0 ≤ (ji6)) = true := decide_eq_true c7; clear c7; by_cases c8 : (ji6) < (l0.length : Int)
     ·
      rw [if_pos c8] at H; have c8b0 : decide ((ji6) < (l0.length : Int)) = true := decide_eq_true c8; clear c8; replace H := Option.bind_eq_some_iff.mp H; obtain ⟨t128, A90, H⟩ := H; replace H : (if t128 < 0 then (api_Rate_42_at_37.l0 k1 l0 (l0.length : Int) (wrap64 ((ji6) + 1)) x10_1 a1_0 a1_1 a1_2) else (api_Rate_42_at_37.l0 k1 l0 (l0.length : Int) x9_1 ji6 a1_0 a1_1 a1_2)) = some (r1, r2) := H; have A9 := Aside0.mk A90; clear A90; by_cases c10 : t128 < 0
      ·
       rw [if_pos c10] at H; have c10b0 : decide (t128 < 0) = true := decide_eq_true c10; clear c10; have H' := Aside0.mk H; clear H; try go_wp2
       have n0_ := Aside0.mk (blk_drew BK126.out); have n1_ := Aside0.mk (below_drew1 HB.out); clear BK126; clear HB; have BK126 := n0_; have HB := n1_; clear n0_ n1_; have p127 : 0 ≤ ((ji6) : Int) := of_decide_eq_true (by first | (with_reducible assumption) | assumption); have q127 : (ji6) < (l0.length : Int) := of_decide_eq_true (by first | (with_reducible assumption) | assumption); obtain ⟨ad127, e127, hx127_0, hx127_1, hx127_2⟩ := at_T26 HR0.out (ji6) p127 q127; have hw127_2 := hx127_2; have hw127_1 := hx127_1; have hw127_0 := hx127_0; cases e127; replace hx127_0 := (HB.out.cell (World.block_lt_of_cell? w _ hx127_0)).trans hx127_0; replace hx127_1 := (HB.out.cell (World.block_lt_of_cell? w _ hx127_1)).trans hx127_1; replace hx127_2 := (HB.out.cell (World.block_lt_of_cell? w _ hx127_2)).trans hx127_2; replace p127 := eq_true p127; replace q127 := eq_true q127; refine start_ (n := 8) (S := fun w' => w'.cell? ⟨gb126, 0, none⟩ = some (.int .i64 a1_0) ∧ w'.cell? ⟨gb126, 1, none⟩ = some (.int .i64 a1_1) ∧ w'.cell? ⟨gb126, 2, none⟩ = some (.int .i64 a1_2) ∧ w'.cell? (ad127.add (((ji6)).toNat * 3)) = some (.int .i64 ((rd_T26 l0 (ji6)).f0)) ∧ w'.cell? ⟨(ad127.add (((ji6)).toNat * 3)).block, (ad127.add (((ji6)).toNat * 3)).off + 1, none⟩ = some (.int .i64 ((rd_T26 l0 (ji6)).f1)) ∧ w'.cell? ⟨(ad127.add (((ji6)).toNat * 3)).block, (ad127.add (((ji6)).toNat * 3)).off + 2, none⟩ = some (.int .i64 ((rd_T26 l0 (ji6)).f2))) (ds := []) #[false, false, false, false, false, false, false, false] (by kernel_rfl) rfl rfl ⟨(blk_cell BK126.out 0).trans rfl, (blk_cell BK126.out 1).trans rfl, (blk_cell BK126.out 2).trans rfl, ((HB.out.cell (World.block_lt_of_cell? w _ hw127_0)).trans hw127_0), ((HB.out.cell (World.block_lt_of_cell? w _ hw127_1)).trans hw127_1), ((HB.out.cell (World.block_lt_of_cell? w _ hw127_2)).trans hw127_2)⟩ (fun hHeld => ?_); refine with_tabW api_Rate_42_at_37.tab5 api_Rate_42_at_37.bits5 (fun HT_ HW_ => ?_)
       generalize wr.drew = w11 at BK126 HB hx127_0 hx127_1 hx127_2 hHeld ⊢; refine pure_ (i := 0) (N := some 24) (v := ?_) (a' := ?_) #[true, false, false, false, false, false, false, false] rfl rfl (any_of HT_.out (by kernel_rfl)) (fun _ _ _ h => h) (Or.inl ⟨by rfl, ?_⟩) ?_ ?_; rotate_left
       · intro w'; go_simp; with_reducible rfl
       rotate_left
       · simp only [Act.put, sIA, sC0, sCS, i64_w, i32_w]; rfl
       refine pure_ (i := 1) (N := some 25) (v := ?_) (a' := ?_) #[true, true, false, false, false, false, false, false] rfl rfl (any_of HT_.out (by kernel_rfl)) (fun _ _ _ h => h) (Or.inl ⟨by rfl, ?_⟩) ?_ ?_; rotate_left
       · intro w'; go_simp; with_reducible rfl
       rotate_left
       · simp only [Act.put, sIA, sC0, sCS, i64_w, i32_w]; rfl
       refine pure_ (i := 2) (N := some 26) (v := ?_) (a' := ?_) #[true, true, true, false, false, false, false, false] rfl rfl (any_of HT_.out (by kernel_rfl)) (fun _ _ _ h => h) (Or.inl ⟨by rfl, ?_⟩) ?_ ?_; rotate_left
       · intro w'; go_simp; with_reducible rfl
       rotate_left
       · simp only [Act.put, sIA, sC0, sCS, i64_w, i32_w]; rfl
       refine pure_ (i := 3) (N := some 27) (v := ?_) (a' := ?_) #[true, true, true, true, false, false, false, false] rfl rfl (any_of HT_.out (by kernel_rfl)) (fun _ _ _ h => h) (Or.inl ⟨by rfl, ?_⟩) ?_ ?_; rotate_left
       · intro w'; go_simp; with_reducible rfl
       rotate_left
       · simp only [Act.put, sIA, sC0, sCS, i64_w, i32_w]; rfl
       refine take_ (i := 4) (N := some 28) (v := ?_) (a' := ?_) #[true, true, true, true, true, false, false, false] rfl rfl (take_ofW HT_.out HW_.out (by kernel_rfl)) (fun _ _ _ h => h) (Or.inl ⟨by rfl, ?_⟩) hHeld ?_ ?_; rotate_left
       · rintro w' ⟨s0, s1, s2, s3, s4, s5⟩; go_simp; with_reducible rfl
       rotate_left
       · simp only [Act.put, sIA, sC0, sCS, i64_w, i32_w]; rfl
       refine take_ (i := 5) (N := some 29) (v := ?_) (a' := ?_) #[true, true, true, true, true, true, false, false] rfl rfl (take_ofW HT_.out HW_.out (by kernel_rfl)) (fun _ _ _ h => h) (Or.inl ⟨by rfl, ?_⟩) hHeld ?_ ?_; rotate_left
       · rintro w' ⟨s0, s1, s2, s3, s4, s5⟩; go_simp; with_reducible rfl
       rotate_left
       · simp only [Act.put, sIA, sC0, sCS, i64_w, i32_w]; rfl
       refine one_ (i := 6) (N := some 30) #[true, true, true, true, true, true, true, false] rfl rfl (one_of HT_.out (by kernel_rfl)) (by decide) (fun K hK => ?_); refine goesV_ Tryz.func37 (by kernel_rfl) rfl #[.agg #[.int .i64 ((rd_T26 l0 (ji6)).f0), .int .i64 ((rd_T26 l0 (ji6)).f1), .int .i64 ((rd_T26 l0 (ji6)).f2)], .agg #[.int .i64 a1_0, .int .i64 a1_1, .int .i64 a1_2]] (by rfl) rfl rfl (by (try simp only [List.map_toArray, List.map_cons, List.map_nil]); first | done | (simp only [hji6]; rfl) | rfl | (simp only [List.length_drop, List.length_take]; rfl)) (by rfl) ?_; with_reducible refine (tariff_compare.calls k1 ((rd_T26 l0 (ji6)).f0) ((rd_T26 l0 (ji6)).f1) ((rd_T26 l0 (ji6)).f2) a1_0 a1_1 a1_2 t128 _ A9.out).mono ?_
       rintro e w12 ⟨rfl, hb⟩; refine ⟨_, rfl, ?_⟩; have n0_ := Aside0.mk (blk_below (bG BK126.out) hb); have n1_ := Aside0.mk (below_step (eG HB.out) hb); clear BK126; clear HB; have BK126 := n0_; have HB := n1_; clear n0_ n1_; (try clear hb)
       (try clear hb2)
       (try clear hk)
       (try clear hi)
       refine hK.out _ _ ⟨(blk_cell BK126.out 0).trans rfl, (blk_cell BK126.out 1).trans rfl, (blk_cell BK126.out 2).trans rfl, ((HB.out.cell (World.block_lt_of_cell? w _ hw127_0)).trans hw127_0), ((HB.out.cell (World.block_lt_of_cell? w _ hw127_1)).trans hw127_1), ((HB.out.cell (World.block_lt_of_cell? w _ hw127_2)).trans hw127_2)⟩ (fun hHeld => ?_); clear hK K; refine norm_ (a' := ?_) ?_ ?_; rotate_left
       ·
        show Act.put _ (some 30) _ = _
        simp only [Act.put, sIA, sC0, sCS, i64_w, i32_w]; rfl
       refine pure_ (i := 7) (N := some 31) (v := ?_) (a' := ?_) #[true, true, true, true, true, true, true, true] rfl rfl (any_of HT_.out (by kernel_rfl)) (fun _ _ _ h => h) (Or.inl ⟨by rfl, ?_⟩) ?_ ?_; rotate_left
       · intro w'; go_simp; with_reducible rfl
       rotate_left
       · simp only [Act.put, sIA, sC0, sCS, i64_w, i32_w]; rfl
       refine done_ (done_of HT_.out (by kernel_rfl)) ?_; try go_wp2
       go_roundg k1
       case measure => have := HK1.out; omega
       case rel => exact ⟨(wrap64 ((ji6) + 1)), (x10_1), (by first | rfl | (simp; done) | (simp only [← hji6] <;> (first | rfl | simp)) | (simp [*]; done)), (by first | rfl | (simp; done) | (simp [*]; done)), H', ⟨by have := HK1.out; omega⟩, ⟨by (with_reducible repeat first | apply bN | apply bD | apply bA); exact BK126.out⟩, ⟨eG HB.out⟩⟩
      ·
       rw [if_neg c10] at H; have c10b0 : decide (t128 < 0) = false := decide_eq_false c10; clear c10; have H' := Aside0.mk H; clear H; try go_wp2
       have n0_ := Aside0.mk (blk_drew BK126.out); have n1_ := Aside0.mk (below_drew1 HB.out); clear BK126; clear HB; have BK126 := n0_; have HB := n1_; clear n0_ n1_; have p127 : 0 ≤ ((ji6) : Int) := of_decide_eq_true (by first | (with_reducible assumption) | assumption); have q127 : (ji6) < (l0.length : Int) := of_decide_eq_true (by first | (with_reducible assumption) | assumption); obtain ⟨ad127, e127, hx127_0, hx127_1, hx127_2⟩ := at_T26 HR0.out (ji6) p127 q127; have hw127_2 := hx127_2; have hw127_1 := hx127_1; have hw127_0 := hx127_0; cases e127; replace hx127_0 := (HB.out.cell (World.block_lt_of_cell? w _ hx127_0)).trans hx127_0; replace hx127_1 := (HB.out.cell (World.block_lt_of_cell? w _ hx127_1)).trans hx127_1; replace hx127_2 := (HB.out.cell (World.block_lt_of_cell? w _ hx127_2)).trans hx127_2; replace p127 := eq_true p127; replace q127 := eq_true q127; refine start_ (n := 8) (S := fun w' => w'.cell? ⟨gb126, 0, none⟩ = some (.int .i64 a1_0) ∧ w'.cell? ⟨gb126, 1, none⟩ = some (.int .i64 a1_1) ∧ w'.cell? ⟨gb126, 2, none⟩ = some (.int .i64 a1_2) ∧ w'.cell? (ad127.add (((ji6)).toNat * 3)) = some (.int .i64 ((rd_T26 l0 (ji6)).f0)) ∧ w'.cell? ⟨(ad127.add (((ji6)).toNat * 3)).block, (ad127.add (((ji6)).toNat * 3)).off + 1, none⟩ = some (.int .i64 ((rd_T26 l0 (ji6)).f1)) ∧ w'.cell? ⟨(ad127.add (((ji6)).toNat * 3)).block, (ad127.add (((ji6)).toNat * 3)).off + 2, none⟩ = some (.int .i64 ((rd_T26 l0 (ji6)).f2))) (ds := []) #[false, false, false, false, false, false, false, false] (by kernel_rfl) rfl rfl ⟨(blk_cell BK126.out 0).trans rfl, (blk_cell BK126.out 1).trans rfl, (blk_cell BK126.out 2).trans rfl, ((HB.out.cell (World.block_lt_of_cell? w _ hw127_0)).trans hw127_0), ((HB.out.cell (World.block_lt_of_cell? w _ hw127_1)).trans hw127_1), ((HB.out.cell (World.block_lt_of_cell? w _ hw127_2)).trans hw127_2)⟩ (fun hHeld => ?_); refine with_tabW api_Rate_42_at_37.tab5 api_Rate_42_at_37.bits5 (fun HT_ HW_ => ?_)
       generalize wr.drew = w13 at BK126 HB hx127_0 hx127_1 hx127_2 hHeld ⊢; refine pure_ (i := 0) (N := some 24) (v := ?_) (a' := ?_) #[true, false, false, false, false, false, false, false] rfl rfl (any_of HT_.out (by kernel_rfl)) (fun _ _ _ h => h) (Or.inl ⟨by rfl, ?_⟩) ?_ ?_; rotate_left
       · intro w'; go_simp; with_reducible rfl
       rotate_left
       · simp only [Act.put, sIA, sC0, sCS, i64_w, i32_w]; rfl
       refine pure_ (i := 1) (N := some 25) (v := ?_) (a' := ?_) #[true, true, false, false, false, false, false, false] rfl rfl (any_of HT_.out (by kernel_rfl)) (fun _ _ _ h => h) (Or.inl ⟨by rfl, ?_⟩) ?_ ?_; rotate_left
       · intro w'; go_simp; with_reducible rfl
       rotate_left
       · simp only [Act.put, sIA, sC0, sCS, i64_w, i32_w]; rfl
       refine pure_ (i := 2) (N := some 26) (v := ?_) (a' := ?_) #[true, true, true, false, false, false, false, false] rfl rfl (any_of HT_.out (by kernel_rfl)) (fun _ _ _ h => h) (Or.inl ⟨by rfl, ?_⟩) ?_ ?_; rotate_left
       · intro w'; go_simp; with_reducible rfl
       rotate_left
       · simp only [Act.put, sIA, sC0, sCS, i64_w, i32_w]; rfl
       refine pure_ (i := 3) (N := some 27) (v := ?_) (a' := ?_) #[true, true, true, true, false, false, false, false] rfl rfl (any_of HT_.out (by kernel_rfl)) (fun _ _ _ h => h) (Or.inl ⟨by rfl, ?_⟩) ?_ ?_; rotate_left
       · intro w'; go_simp; with_reducible rfl
       rotate_left
       · simp only [Act.put, sIA, sC0, sCS, i64_w, i32_w]; rfl
       refine take_ (i := 4) (N := some 28) (v := ?_) (a' := ?_) #[true, true, true, true, true, false, false, false] rfl rfl (take_ofW HT_.out HW_.out (by kernel_rfl)) (fun _ _ _ h => h) (Or.inl ⟨by rfl, ?_⟩) hHeld ?_ ?_; rotate_left
       · rintro w' ⟨s0, s1, s2, s3, s4, s5⟩; go_simp; with_reducible rfl
       rotate_left
       · simp only [Act.put, sIA, sC0, sCS, i64_w, i32_w]; rfl
       refine take_ (i := 5) (N := some 29) (v := ?_) (a' := ?_) #[true, true, true, true, true, true, false, false] rfl rfl (take_ofW HT_.out HW_.out (by kernel_rfl)) (fun _ _ _ h => h) (Or.inl ⟨by rfl, ?_⟩) hHeld ?_ ?_; rotate_left
       · rintro w' ⟨s0, s1, s2, s3, s4, s5⟩; go_simp; with_reducible rfl
       rotate_left
       · simp only [Act.put, sIA, sC0, sCS, i64_w, i32_w]; rfl
       refine one_ (i := 6) (N := some 30) #[true, true, true, true, true, true, true, false] rfl rfl (one_of HT_.out (by kernel_rfl)) (by decide) (fun K hK => ?_); refine goesV_ Tryz.func37 (by kernel_rfl) rfl #[.agg #[.int .i64 ((rd_T26 l0 (ji6)).f0), .int .i64 ((rd_T26 l0 (ji6)).f1), .int .i64 ((rd_T26 l0 (ji6)).f2)], .agg #[.int .i64 a1_0, .int .i64 a1_1, .int .i64 a1_2]] (by rfl) rfl rfl (by (try simp only [List.map_toArray, List.map_cons, List.map_nil]); first | done | (simp only [hji6]; rfl) | rfl | (simp only [List.length_drop, List.length_take]; rfl)) (by rfl) ?_; with_reducible refine (tariff_compare.calls k1 ((rd_T26 l0 (ji6)).f0) ((rd_T26 l0 (ji6)).f1) ((rd_T26 l0 (ji6)).f2) a1_0 a1_1 a1_2 t128 _ A9.out).mono ?_
       rintro e w14 ⟨rfl, hb⟩; refine ⟨_, rfl, ?_⟩; have n0_ := Aside0.mk (blk_below (bG BK126.out) hb); have n1_ := Aside0.mk (below_step (eG HB.out) hb); clear BK126; clear HB; have BK126 := n0_; have HB := n1_; clear n0_ n1_; (try clear hb)
       (try clear hb2)
       (try clear hk)
       (try clear hi)
       refine hK.out _ _ ⟨(blk_cell BK126.out 0).trans rfl, (blk_cell BK126.out 1).trans rfl, (blk_cell BK126.out 2).trans rfl, ((HB.out.cell (World.block_lt_of_cell? w _ hw127_0)).trans hw127_0), ((HB.out.cell (World.block_lt_of_cell? w _ hw127_1)).trans hw127_1), ((HB.out.cell (World.block_lt_of_cell? w _ hw127_2)).trans hw127_2)⟩ (fun hHeld => ?_); clear hK K; refine norm_ (a' := ?_) ?_ ?_; rotate_left
       ·
        show Act.put _ (some 30) _ = _
        simp only [Act.put, sIA, sC0, sCS, i64_w, i32_w]; rfl
       refine pure_ (i := 7) (N := some 31) (v := ?_) (a' := ?_) #[true, true, true, true, true, true, true, true] rfl rfl (any_of HT_.out (by kernel_rfl)) (fun _ _ _ h => h) (Or.inl ⟨by rfl, ?_⟩) ?_ ?_; rotate_left
       · intro w'; go_simp; with_reducible rfl
       rotate_left
       · simp only [Act.put, sIA, sC0, sCS, i64_w, i32_w]; rfl
       refine done_ (done_of HT_.out (by kernel_rfl)) ?_; try go_wp2
       go_roundg k1
       case measure => have := HK1.out; omega
       case rel => exact ⟨(x9_1), (ji6), (by first | rfl | (simp; done) | (simp [*]; done)), (by first | rfl | (simp; done) | (simp only [← hji6] <;> (first | rfl | simp)) | (simp [*]; done)), H', ⟨by have := HK1.out; omega⟩, ⟨by (with_reducible repeat first | apply bN | apply bD | apply bA); exact BK126.out⟩, ⟨eG HB.out⟩⟩
     · rw [if_neg c8] at H; exact absurd H (by simp)
    · rw [if_neg c7] at H; exact absurd H (by simp)
   ·
    rw [if_neg c5] at H; have c5b0 : decide (x9_1 < x10_1) = false := decide_eq_false c5; clear c5; by_cases c15 : x9_1 < (l0.length : Int)
    ·
     rw [if_pos c15] at H; have c15b0 : decide (x9_1 < (l0.length : Int)) = true := decide_eq_true c15; clear c15; by_cases c16 : 0 ≤ x9_1
     ·
      rw [if_pos c16] at H; have c16b0 : decide (0 ≤ x9_1) = true := decide_eq_true c16; clear c16; by_cases c17 : x9_1 < (l0.length : Int)
      ·
       rw [if_pos c17] at H; have c17b0 : decide (x9_1 < (l0.length : Int)) = true := decide_eq_true c17; clear c17; replace H := Option.bind_eq_some_iff.mp H; obtain ⟨t130, A180, H⟩ := H; replace H : (some (x9_1, (t130 == 0))) = some (r1, r2) := H; have A18 := Aside0.mk A180; clear A180; simp only [Option.some.injEq, Prod.mk.injEq] at H; obtain ⟨rfl, rfl⟩ := H; try go_wp2
       have n0_ := Aside0.mk (blk_drew BK126.out); have n1_ := Aside0.mk (below_drew1 HB.out); clear BK126; clear HB; have BK126 := n0_; have HB := n1_; clear n0_ n1_; have p129 : 0 ≤ (x9_1 : Int) := of_decide_eq_true (by first | (with_reducible assumption) | assumption); have q129 : x9_1 < (l0.length : Int) := of_decide_eq_true (by first | (with_reducible assumption) | assumption); obtain ⟨ad129, e129, hx129_0, hx129_1, hx129_2⟩ := at_T26 HR0.out x9_1 p129 q129; have hw129_2 := hx129_2; have hw129_1 := hx129_1; have hw129_0 := hx129_0; cases e129; replace hx129_0 := (HB.out.cell (World.block_lt_of_cell? w _ hx129_0)).trans hx129_0; replace hx129_1 := (HB.out.cell (World.block_lt_of_cell? w _ hx129_1)).trans hx129_1; replace hx129_2 := (HB.out.cell (World.block_lt_of_cell? w _ hx129_2)).trans hx129_2; replace p129 := eq_true p129; replace q129 := eq_true q129; refine start_ (n := 16) (S := fun w' => w'.cell? ⟨gb126, 0, none⟩ = some (.int .i64 a1_0) ∧ w'.cell? ⟨gb126, 1, none⟩ = some (.int .i64 a1_1) ∧ w'.cell? ⟨gb126, 2, none⟩ = some (.int .i64 a1_2) ∧ w'.cell? (ad129.add ((x9_1).toNat * 3)) = some (.int .i64 ((rd_T26 l0 x9_1).f0)) ∧ w'.cell? ⟨(ad129.add ((x9_1).toNat * 3)).block, (ad129.add ((x9_1).toNat * 3)).off + 1, none⟩ = some (.int .i64 ((rd_T26 l0 x9_1).f1)) ∧ w'.cell? ⟨(ad129.add ((x9_1).toNat * 3)).block, (ad129.add ((x9_1).toNat * 3)).off + 2, none⟩ = some (.int .i64 ((rd_T26 l0 x9_1).f2))) (ds := []) #[false, false, false, false, false, false, false, false, false, false, false, false, false, false, false, false] (by kernel_rfl) rfl rfl ⟨(blk_cell BK126.out 0).trans rfl, (blk_cell BK126.out 1).trans rfl, (blk_cell BK126.out 2).trans rfl, ((HB.out.cell (World.block_lt_of_cell? w _ hw129_0)).trans hw129_0), ((HB.out.cell (World.block_lt_of_cell? w _ hw129_1)).trans hw129_1), ((HB.out.cell (World.block_lt_of_cell? w _ hw129_2)).trans hw129_2)⟩ (fun hHeld => ?_); refine with_tabW api_Rate_42_at_37.tab8 api_Rate_42_at_37.bits8 (fun HT_ HW_ => ?_)
       generalize wr.drew = w19 at BK126 HB hx129_0 hx129_1 hx129_2 hHeld ⊢; refine pure_ (i := 0) (N := some 35) (v := ?_) (a' := ?_) #[true, false, false, false, false, false, false, false, false, false, false, false, false, false, false, false] rfl rfl (any_of HT_.out (by kernel_rfl)) (fun _ _ _ h => h) (Or.inl ⟨by rfl, ?_⟩) ?_ ?_; rotate_left
       · intro w'; go_simp; with_reducible rfl
       rotate_left
       · simp only [Act.put, sIA, sC0, sCS, i64_w, i32_w]; rfl
       refine pure_ (i := 1) (N := some 36) (v := ?_) (a' := ?_) #[true, true, false, false, false, false, false, false, false, false, false, false, false, false, false, false] rfl rfl (any_of HT_.out (by kernel_rfl)) (fun _ _ _ h => h) (Or.inl ⟨by rfl, ?_⟩) ?_ ?_; rotate_left
       · intro w'; go_simp; with_reducible rfl
       rotate_left
       · simp only [Act.put, sIA, sC0, sCS, i64_w, i32_w]; rfl
       refine pure_ (i := 2) (N := some 37) (v := ?_) (a' := ?_) #[true, true, true, false, false, false, false, false, false, false, false, false, false, false, false, false] rfl rfl (any_of HT_.out (by kernel_rfl)) (fun _ _ _ h => h) (Or.inl ⟨by rfl, ?_⟩) ?_ ?_; rotate_left
       · intro w'; go_simp; with_reducible rfl
       rotate_left
       · simp only [Act.put, sIA, sC0, sCS, i64_w, i32_w]; rfl
       refine pure_ (i := 3) (N := some 38) (v := ?_) (a' := ?_) #[true, true, true, true, false, false, false, false, false, false, false, false, false, false, false, false] rfl rfl (any_of HT_.out (by kernel_rfl)) (fun _ _ _ h => h) (Or.inl ⟨by rfl, ?_⟩) ?_ ?_; rotate_left
       · intro w'; go_simp; with_reducible rfl
       rotate_left
       · simp only [Act.put, sIA, sC0, sCS, i64_w, i32_w]; rfl
       refine pure_ (i := 4) (N := some 39) (v := ?_) (a' := ?_) #[true, true, true, true, true, false, false, false, false, false, false, false, false, false, false, false] rfl rfl (any_of HT_.out (by kernel_rfl)) (fun _ _ _ h => h) (Or.inl ⟨by rfl, ?_⟩) ?_ ?_; rotate_left
       · intro w'; go_simp; with_reducible rfl
       rotate_left
       · simp only [Act.put, sIA, sC0, sCS, i64_w, i32_w]; rfl
       refine pure_ (i := 5) (N := some 40) (v := ?_) (a' := ?_) #[true, true, true, true, true, true, false, false, false, false, false, false, false, false, false, false] rfl rfl (any_of HT_.out (by kernel_rfl)) (fun _ _ _ h => h) (Or.inl ⟨by rfl, ?_⟩) ?_ ?_; rotate_left
       · intro w'; go_simp; with_reducible rfl
       rotate_left
       · simp only [Act.put, sIA, sC0, sCS, i64_w, i32_w]; rfl
       refine pure_ (i := 6) (N := some 41) (v := ?_) (a' := ?_) #[true, true, true, true, true, true, true, false, false, false, false, false, false, false, false, false] rfl rfl (any_of HT_.out (by kernel_rfl)) (fun _ _ _ h => h) (Or.inl ⟨by rfl, ?_⟩) ?_ ?_; rotate_left
       · intro w'; go_simp; with_reducible rfl
       rotate_left
       · simp only [Act.put, sIA, sC0, sCS, i64_w, i32_w]; rfl
       refine pure_ (i := 7) (N := some 42) (v := ?_) (a' := ?_) #[true, true, true, true, true, true, true, true, false, false, false, false, false, false, false, false] rfl rfl (any_of HT_.out (by kernel_rfl)) (fun _ _ _ h => h) (Or.inl ⟨by rfl, ?_⟩) ?_ ?_; rotate_left
       · intro w'; go_simp; with_reducible rfl
       rotate_left
       · simp only [Act.put, sIA, sC0, sCS, i64_w, i32_w]; rfl
       refine pure_ (i := 8) (N := some 43) (v := ?_) (a' := ?_) #[true, true, true, true, true, true, true, true, true, false, false, false, false, false, false, false] rfl rfl (any_of HT_.out (by kernel_rfl)) (fun _ _ _ h => h) (Or.inl ⟨by rfl, ?_⟩) ?_ ?_; rotate_left
       · intro w'; go_simp; with_reducible rfl
       rotate_left
       · simp only [Act.put, sIA, sC0, sCS, i64_w, i32_w]; rfl
       refine take_ (i := 9) (N := some 44) (v := ?_) (a' := ?_) #[true, true, true, true, true, true, true, true, true, true, false, false, false, false, false, false] rfl rfl (take_ofW HT_.out HW_.out (by kernel_rfl)) (fun _ _ _ h => h) (Or.inl ⟨by rfl, ?_⟩) hHeld ?_ ?_; rotate_left
       · rintro w' ⟨s0, s1, s2, s3, s4, s5⟩; go_simp; with_reducible rfl
       rotate_left
       · simp only [Act.put, sIA, sC0, sCS, i64_w, i32_w]; rfl
       refine take_ (i := 10) (N := some 45) (v := ?_) (a' := ?_) #[true, true, true, true, true, true, true, true, true, true, true, false, false, false, false, false] rfl rfl (take_ofW HT_.out HW_.out (by kernel_rfl)) (fun _ _ _ h => h) (Or.inl ⟨by rfl, ?_⟩) hHeld ?_ ?_; rotate_left
       · rintro w' ⟨s0, s1, s2, s3, s4, s5⟩; go_simp; with_reducible rfl
       rotate_left
       · simp only [Act.put, sIA, sC0, sCS, i64_w, i32_w]; rfl
       refine one_ (i := 11) (N := some 46) #[true, true, true, true, true, true, true, true, true, true, true, true, false, false, false, false] rfl rfl (one_of HT_.out (by kernel_rfl)) (by decide) (fun K hK => ?_); refine goesV_ Tryz.func37 (by kernel_rfl) rfl #[.agg #[.int .i64 ((rd_T26 l0 x9_1).f0), .int .i64 ((rd_T26 l0 x9_1).f1), .int .i64 ((rd_T26 l0 x9_1).f2)], .agg #[.int .i64 a1_0, .int .i64 a1_1, .int .i64 a1_2]] (by rfl) rfl rfl (by (try simp only [List.map_toArray, List.map_cons, List.map_nil]); first | done | rfl | (simp only [List.length_drop, List.length_take]; rfl)) (by rfl) ?_; with_reducible refine (tariff_compare.calls k1 ((rd_T26 l0 x9_1).f0) ((rd_T26 l0 x9_1).f1) ((rd_T26 l0 x9_1).f2) a1_0 a1_1 a1_2 t130 _ A18.out).mono ?_
       rintro e w20 ⟨rfl, hb⟩; refine ⟨_, rfl, ?_⟩; have n0_ := Aside0.mk (blk_below (bG BK126.out) hb); have n1_ := Aside0.mk (below_step (eG HB.out) hb); clear BK126; clear HB; have BK126 := n0_; have HB := n1_; clear n0_ n1_; (try clear hb)
       (try clear hb2)
       (try clear hk)
       (try clear hi)
       refine hK.out _ _ ⟨(blk_cell BK126.out 0).trans rfl, (blk_cell BK126.out 1).trans rfl, (blk_cell BK126.out 2).trans rfl, ((HB.out.cell (World.block_lt_of_cell? w _ hw129_0)).trans hw129_0), ((HB.out.cell (World.block_lt_of_cell? w _ hw129_1)).trans hw129_1), ((HB.out.cell (World.block_lt_of_cell? w _ hw129_2)).trans hw129_2)⟩ (fun hHeld => ?_); clear hK K; refine norm_ (a' := ?_) ?_ ?_; rotate_left
       ·
        show Act.put _ (some 46) _ = _
        simp only [Act.put, sIA, sC0, sCS, i64_w, i32_w]; rfl
       refine pure_ (i := 12) (N := some 47) (v := ?_) (a' := ?_) #[true, true, true, true, true, true, true, true, true, true, true, true, true, false, false, false] rfl rfl (any_of HT_.out (by kernel_rfl)) (fun _ _ _ h => h) (Or.inl ⟨by rfl, ?_⟩) ?_ ?_; rotate_left
       · intro w'; go_simp; with_reducible rfl
       rotate_left
       · simp only [Act.put, sIA, sC0, sCS, i64_w, i32_w]; rfl
       refine pure_ (i := 13) (N := some 48) (v := ?_) (a' := ?_) #[true, true, true, true, true, true, true, true, true, true, true, true, true, true, false, false] rfl rfl (any_of HT_.out (by kernel_rfl)) (fun _ _ _ h => h) (Or.inl ⟨by rfl, ?_⟩) ?_ ?_; rotate_left
       · intro w'; go_simp; with_reducible rfl
       rotate_left
       · simp only [Act.put, sIA, sC0, sCS, i64_w, i32_w]; rfl
       refine pure_ (i := 14) (N := some 6) (v := ?_) (a' := ?_) #[true, true, true, true, true, true, true, true, true, true, true, true, true, true, true, false] rfl rfl (any_of HT_.out (by kernel_rfl)) (fun _ _ _ h => h) (Or.inl ⟨by rfl, ?_⟩) ?_ ?_; rotate_left
       · intro w'; go_simp; with_reducible rfl
       rotate_left
       · simp only [Act.put, sIA, sC0, sCS, i64_w, i32_w]; rfl
       refine pure_ (i := 15) (N := some 7) (v := ?_) (a' := ?_) #[true, true, true, true, true, true, true, true, true, true, true, true, true, true, true, true] rfl rfl (any_of HT_.out (by kernel_rfl)) (fun _ _ _ h => h) (Or.inl ⟨by rfl, ?_⟩) ?_ ?_; rotate_left
       · intro w'; go_simp; with_reducible rfl
       rotate_left
       · simp only [Act.put, sIA, sC0, sCS, i64_w, i32_w]; rfl
       refine done_ (done_of HT_.out (by kernel_rfl)) ?_; try go_wp2
       go_ret2
       exact ⟨by first | rfl | (simp [errW_none, errW_some] <;> rfl) | (simp [*, errW_none, errW_some] <;> rfl), eG HB.out⟩
      · rw [if_neg c17] at H; exact absurd H (by simp)
     · rw [if_neg c16] at H; exact absurd H (by simp)
    ·
     rw [if_neg c15] at H; have c15b0 : decide (x9_1 < (l0.length : Int)) = false := decide_eq_false c15; clear c15; simp only [Option.some.injEq, Prod.mk.injEq] at H; obtain ⟨rfl, rfl⟩ := H; try go_wp2
     have n0_ := Aside0.mk (blk_drew BK126.out); have n1_ := Aside0.mk (below_drew1 HB.out); clear BK126; clear HB; have BK126 := n0_; have HB := n1_; clear n0_ n1_; refine start_ (n := 16) (S := fun w' => True) (ds := []) #[false, false, false, false, false, false, false, false, false, false, false, false, false, false, false, false] (by kernel_rfl) rfl rfl trivial (fun hHeld => ?_); refine with_tabW api_Rate_42_at_37.tab8 api_Rate_42_at_37.bits8 (fun HT_ HW_ => ?_)
     generalize wr.drew = w21 at BK126 HB hHeld ⊢; refine pure_ (i := 0) (N := some 35) (v := ?_) (a' := ?_) #[true, false, false, false, false, false, false, false, false, false, false, false, false, false, false, false] rfl rfl (any_of HT_.out (by kernel_rfl)) (fun _ _ _ h => h) (Or.inl ⟨by rfl, ?_⟩) ?_ ?_; rotate_left
     · intro w'; go_simp; with_reducible rfl
     rotate_left
     · simp only [Act.put, sIA, sC0, sCS, i64_w, i32_w]; rfl
     refine pure_ (i := 1) (N := some 36) (v := ?_) (a' := ?_) #[true, true, false, false, false, false, false, false, false, false, false, false, false, false, false, false] rfl rfl (any_of HT_.out (by kernel_rfl)) (fun _ _ _ h => h) (Or.inl ⟨by rfl, ?_⟩) ?_ ?_; rotate_left
     · intro w'; go_simp; with_reducible rfl
     rotate_left
     · simp only [Act.put, sIA, sC0, sCS, i64_w, i32_w]; rfl
     refine pure_ (i := 2) (N := some 37) (v := ?_) (a' := ?_) #[true, true, true, false, false, false, false, false, false, false, false, false, false, false, false, false] rfl rfl (any_of HT_.out (by kernel_rfl)) (fun _ _ _ h => h) (Or.inl ⟨by rfl, ?_⟩) ?_ ?_; rotate_left
     · intro w'; go_simp; with_reducible rfl
     rotate_left
     · simp only [Act.put, sIA, sC0, sCS, i64_w, i32_w]; rfl
     refine pure_ (i := 3) (N := some 38) (v := ?_) (a' := ?_) #[true, true, true, true, false, false, false, false, false, false, false, false, false, false, false, false] rfl rfl (any_of HT_.out (by kernel_rfl)) (fun _ _ _ h => h) (Or.inl ⟨by rfl, ?_⟩) ?_ ?_; rotate_left
     · intro w'; go_simp; with_reducible rfl
     rotate_left
     · simp only [Act.put, sIA, sC0, sCS, i64_w, i32_w]; rfl
     refine pure_ (i := 4) (N := some 39) (v := ?_) (a' := ?_) #[true, true, true, true, true, false, false, false, false, false, false, false, false, false, false, false] rfl rfl (any_of HT_.out (by kernel_rfl)) (fun _ _ _ h => h) (Or.inl ⟨by rfl, ?_⟩) ?_ ?_; rotate_left
     · intro w'; go_simp; with_reducible rfl
     rotate_left
     · simp only [Act.put, sIA, sC0, sCS, i64_w, i32_w]; rfl
     refine pure_ (i := 5) (N := some 40) (v := undef) (a' := ?_) #[true, true, true, true, true, true, false, false, false, false, false, false, false, false, false, false] rfl rfl (any_of HT_.out (by kernel_rfl)) (fun _ _ _ h => h) (Or.inr ⟨by rfl, rfl⟩) ?_ ?_; rotate_left
     · simp only [Act.put, sIA, sC0, sCS, i64_w, i32_w]; rfl
     refine pure_ (i := 6) (N := some 41) (v := undef) (a' := ?_) #[true, true, true, true, true, true, true, false, false, false, false, false, false, false, false, false] rfl rfl (any_of HT_.out (by kernel_rfl)) (fun _ _ _ h => h) (Or.inr ⟨by rfl, rfl⟩) ?_ ?_; rotate_left
     · simp only [Act.put, sIA, sC0, sCS, i64_w, i32_w]; rfl
     refine pure_ (i := 7) (N := some 42) (v := undef) (a' := ?_) #[true, true, true, true, true, true, true, true, false, false, false, false, false, false, false, false] rfl rfl (any_of HT_.out (by kernel_rfl)) (fun _ _ _ h => h) (Or.inr ⟨by rfl, rfl⟩) ?_ ?_; rotate_left
     · simp only [Act.put, sIA, sC0, sCS, i64_w, i32_w]; rfl
     refine pure_ (i := 8) (N := some 43) (v := undef) (a' := ?_) #[true, true, true, true, true, true, true, true, true, false, false, false, false, false, false, false] rfl rfl (any_of HT_.out (by kernel_rfl)) (fun _ _ _ h => h) (Or.inr ⟨by rfl, rfl⟩) ?_ ?_; rotate_left
     · simp only [Act.put, sIA, sC0, sCS, i64_w, i32_w]; rfl
     refine pure_ (i := 9) (N := some 44) (v := undef) (a' := ?_) #[true, true, true, true, true, true, true, true, true, true, false, false, false, false, false, false] rfl rfl (any_of HT_.out (by kernel_rfl)) (fun _ _ _ h => h) (Or.inr ⟨by rfl, rfl⟩) ?_ ?_; rotate_left
     · simp only [Act.put, sIA, sC0, sCS, i64_w, i32_w]; rfl
     refine pure_ (i := 10) (N := some 45) (v := undef) (a' := ?_) #[true, true, true, true, true, true, true, true, true, true, true, false, false, false, false, false] rfl rfl (any_of HT_.out (by kernel_rfl)) (fun _ _ _ h => h) (Or.inr ⟨by rfl, rfl⟩) ?_ ?_; rotate_left
     · simp only [Act.put, sIA, sC0, sCS, i64_w, i32_w]; rfl
     refine pure_ (i := 11) (N := some 46) (v := undef) (a' := ?_) #[true, true, true, true, true, true, true, true, true, true, true, true, false, false, false, false] rfl rfl (any_of HT_.out (by kernel_rfl)) (fun _ _ _ h => h) (Or.inr ⟨by rfl, rfl⟩) ?_ ?_; rotate_left
     · simp only [Act.put, sIA, sC0, sCS, i64_w, i32_w]; rfl
     refine pure_ (i := 12) (N := some 47) (v := undef) (a' := ?_) #[true, true, true, true, true, true, true, true, true, true, true, true, true, false, false, false] rfl rfl (any_of HT_.out (by kernel_rfl)) (fun _ _ _ h => h) (Or.inr ⟨by rfl, rfl⟩) ?_ ?_; rotate_left
     · simp only [Act.put, sIA, sC0, sCS, i64_w, i32_w]; rfl
     refine pure_ (i := 13) (N := some 48) (v := ?_) (a' := ?_) #[true, true, true, true, true, true, true, true, true, true, true, true, true, true, false, false] rfl rfl (any_of HT_.out (by kernel_rfl)) (fun _ _ _ h => h) (Or.inl ⟨by rfl, ?_⟩) ?_ ?_; rotate_left
     · intro w'; go_simp; with_reducible rfl
     rotate_left
     · simp only [Act.put, sIA, sC0, sCS, i64_w, i32_w]; rfl
     refine pure_ (i := 14) (N := some 6) (v := ?_) (a' := ?_) #[true, true, true, true, true, true, true, true, true, true, true, true, true, true, true, false] rfl rfl (any_of HT_.out (by kernel_rfl)) (fun _ _ _ h => h) (Or.inl ⟨by rfl, ?_⟩) ?_ ?_; rotate_left
     · intro w'; go_simp; with_reducible rfl
     rotate_left
     · simp only [Act.put, sIA, sC0, sCS, i64_w, i32_w]; rfl
     refine pure_ (i := 15) (N := some 7) (v := ?_) (a' := ?_) #[true, true, true, true, true, true, true, true, true, true, true, true, true, true, true, true] rfl rfl (any_of HT_.out (by kernel_rfl)) (fun _ _ _ h => h) (Or.inl ⟨by rfl, ?_⟩) ?_ ?_; rotate_left
     · intro w'; go_simp; with_reducible rfl
     rotate_left
     · simp only [Act.put, sIA, sC0, sCS, i64_w, i32_w]; rfl
     refine done_ (done_of HT_.out (by kernel_rfl)) ?_; try go_wp2
     go_ret2
     exact ⟨by first | rfl | (simp [errW_none, errW_some] <;> rfl) | (simp [*, errW_none, errW_some] <;> rfl), eG HB.out⟩
end Go.Proofs.YtholbmidciapdaaGreatDoor.Pr
namespace Go.Proofs.YtholbmidciapdaaGreatDoor.X
open Go Go.RowKit Go.Lib Go.Proofs Go.Shelf
theorem run_copy_cellsZ {P : Program} (w : World) (dT sT ty elem : TypeId) (b o dLen dCap : Nat) (a : Addr) (sLen sCap : Nat) (cs : List Value) (z m : Nat)
    (hu : P.underlying dT = some (.slice elem)) (hs : (P.info? elem).map (·.size) = some z) (hm : Nat.min sLen dLen = m) (hn : cs.length = m * z)
    (hsrc : ∀ j v, cs[j]? = some v → w.cell? (a.add j) = some v) (hc : ∀ j, j < cs.length → (w.cell? ⟨b, o + j, none⟩).isSome = true) (hf : ∀ j, j < cs.length → w.frozen? ⟨b, o + j, none⟩ = false) (h1 : ∀ v ∈ cs, v.oneCell' = true) :
    (Builtin.copy_ #[dT, sT] ty #[.slice (some ⟨b, o, none⟩) dLen dCap, .slice (some a) sLen sCap]).run P w = .ok (goInt m) (w.setCells b o cs) := by
  have hl := run_loadCells_list (P := P) w a cs hsrc
  have hst := run_storeCells_cells (P := P) b o cs 0 w (by simpa using hc) (by simpa using hf) h1
  cases hq : P.info? elem with
  | none => simp [hq] at hs
  | some i =>
    have hi : i.size = z := by simpa [hq] using hs
    rw [hn, ← hm] at hl
    subst hm
    simp [Builtin.copy_, run_underlying hu, Builtin.lenOf, Builtin.firstCells, sizeOf, typeInfo, hq, hi, hl, hst]
theorem infoI : (Tryz.prog.info? 26).map (fun i => (i.zero, i.size, i.bytes)) = some (some ((.agg #[(.int .i64 0), (.int .i64 0), (.int .i64 0)])), 3, 24) := by kernel_rfl
theorem sizeI : (Tryz.prog.info? 26).map (·.size) = some 3 := by
  obtain ⟨i0, hi0, h0, h1, h2⟩ := info_parts infoI
  rw [hi0]; simp [h1]
theorem zI (w : World) : (sizeOf 26).run Tryz.prog w = .ok 3 w := by kernel_rfl
set_option maxHeartbeats 4000000 in
set_option maxRecDepth 100000 in
/-- There is room, and something stands behind: in place. -/
theorem insert_shift (b n c i vb cv : Nat) (cs vs : List Value) (w : World) (hi : i < n) (hroom : n + 1 ≤ c) (hc63 : c ≤ 9223372036854775807) (hvb : vb ≠ b) (hcl : cs.length = n * 3) (hvl : vs.length = 3)
    (hcs : ∀ j v, cs[j]? = some v → w.cell? ⟨b, j, none⟩ = some v) (hsp : ∀ j, j < (n + 1) * 3 → (w.cell? ⟨b, j, none⟩).isSome = true) (hfz : ∀ j, j < (n + 1) * 3 → w.frozen? ⟨b, j, none⟩ = false)
    (hvs : ∀ j v, vs[j]? = some v → w.cell? ⟨vb, j, none⟩ = some v) (h1c : ∀ v ∈ cs, v.oneCell' = true) (h1v : ∀ v ∈ vs, v.oneCell' = true)
    (tA tB : TypeId) (kA kB : Nat) (hsa : w.shape? vb = some (tA, kA)) (hsb : w.shape? b = some (tB, kB)) (hkB : kB ≠ 0) (hfa : w.frozen? ⟨vb, 0, none⟩ = false) (hfe : w.frozen? ⟨vb, kA, none⟩ = false) :
    Calls Tryz.prog 43 #[.slice (some ⟨b, 0, none⟩) n c, .int .i64 i, .slice (some ⟨vb, 0, none⟩) 1 cv] w fun e w' =>
      e = .returned (.slice (some ⟨b, 0, none⟩) (n + 1) c) ∧ w' = (w.drew.setCells b ((i + 1) * 3) (cs.drop (i * 3))).setCells b (i * 3) vs := by
  have uS := run_underlying Tryz.underlying22 (P := Tryz.prog)
  have u3 := run_underlying Tryz.underlying3 (P := Tryz.prog)
  have hz := zI
  have hov : ∀ lb cb, (callFunc 66 #[.slice (some ⟨vb, 0, none⟩) 1 cv, .slice (some ⟨b, (i + 1) * 3, none⟩) lb cb]).run Tryz.prog w = .ok (.value (.bool false)) w := fun lb cb => by
    rw [run_callFunc_extern Tryz.func66 (by kernel_rfl) (by kernel_rfl) (by kernel_rfl) (e := Extern.SlicesOverlaps.overlaps #[22, 22] #[4]) (by kernel_rfl),
      Lib.run_overlaps_apart w 22 4 26 Tryz.underlying22 3 zI ⟨vb, 0, none⟩ ⟨b, (i + 1) * 3, none⟩ 1 cv lb cb hvb tA tB kA kB hsa hsb hkB hfa hfe]
    rfl
  have hd : ∀ x, w.drew.cell? x = w.cell? x := fun _ => rfl
  have hdf : ∀ x, w.drew.frozen? x = w.frozen? x := fun _ => rfl
  have hdl : (cs.drop (i * 3)).length = (n - i) * 3 := by rw [List.length_drop, hcl]; omega
  have hcp1 : ∀ ty dc sc, (Builtin.copy_ #[22, 22] ty #[.slice (some ⟨b, (i + 1) * 3, none⟩) (n - i) dc, .slice (some ⟨b, i * 3, none⟩) (n + 1 - i) sc]).run Tryz.prog w.drew = .ok (goInt ((n - i : Nat) : Int)) (w.drew.setCells b ((i + 1) * 3) (cs.drop (i * 3))) := fun ty dc sc =>
    run_copy_cellsZ w.drew 22 22 ty 26 b ((i + 1) * 3) (n - i) dc ⟨b, i * 3, none⟩ (n + 1 - i) sc (cs.drop (i * 3)) 3 (n - i) Tryz.underlying22 sizeI (by simp only [Nat.min_def]; split <;> omega) hdl
      (fun j v hj => by rw [Addr.add_lit, hd]; exact hcs (i * 3 + j) v (by rwa [List.getElem?_drop] at hj))
      (fun j hj => by rw [hd]; exact hsp _ (by omega)) (fun j hj => by rw [hdf]; exact hfz _ (by omega)) (fun v hv => h1c v (List.mem_of_mem_drop hv))
  obtain ⟨W1, hW1⟩ : ∃ W1, W1 = w.drew.setCells b ((i + 1) * 3) (cs.drop (i * 3)) := ⟨_, rfl⟩
  have hsp1 : ∀ k, k < (n + 1) * 3 → (W1.cell? ⟨b, k, none⟩).isSome = true := fun k hk => by
    rw [hW1]
    exact isSome_setCells b _ _ w.drew (fun j hj => by rw [hd]; exact hsp _ (by omega)) k (by rw [hd]; exact hsp k hk)
  have hW1v : ∀ j v, vs[j]? = some v → W1.cell? ⟨vb, j, none⟩ = some v := fun j v hj => by
    rw [hW1, World.cell?_setCells_out b _ _ w.drew ⟨vb, j, none⟩ (fun h _ => absurd h hvb), hd]
    exact hvs j v hj
  have hW1f : ∀ j, j < (n + 1) * 3 → W1.frozen? ⟨b, j, none⟩ = false := fun j hj => by rw [hW1, World.frozen?_setCells, hdf]; exact hfz j hj
  have hcp2 : ∀ (W : World), (∀ x, W.cell? x = W1.cell? x) → (∀ x, W.frozen? x = W1.frozen? x) → ∀ ty dc, (Builtin.copy_ #[22, 22] ty #[.slice (some ⟨b, i * 3, none⟩) (n + 1 - i) dc, .slice (some ⟨vb, 0, none⟩) 1 cv]).run Tryz.prog W = .ok (goInt ((1 : Nat) : Int)) (W.setCells b (i * 3) vs) := fun W hWc hWf ty dc =>
    run_copy_cellsZ W 22 22 ty 26 b (i * 3) (n + 1 - i) dc ⟨vb, 0, none⟩ 1 cv vs 3 1 Tryz.underlying22 sizeI (by simp only [Nat.min_def]; split <;> omega) (by rw [hvl])
      (fun j v hj => by rw [Addr.add_lit, hWc, Nat.zero_add]; exact hW1v j v hj)
      (fun j hj => by rw [hWc]; exact hsp1 _ (by omega)) (fun j hj => by rw [hWf]; exact hW1f _ (by omega)) h1v
  rw [← hW1] at hcp1 ⊢
  have hz1 : ¬ ((i : Int) = (n : Int)) := by omega
  have hb2 : ¬ (c = i + 1) := by omega
  have hb4 : ¬ (c = i) := by omega
  have hz3 : ¬ ((c : Int) < (n : Int) + 1) := by omega
  have hw1 : IntKind.i64.wrap ((i : Int) + 1) = (i : Int) + 1 := by rw [IntKind.wrap_i64]; omega
  have hw2 : IntKind.i64.wrap ((n : Int) + 1) = (n : Int) + 1 := by rw [IntKind.wrap_i64]; omega
  have hb1 : (0 : Int) ≤ (i : Int) + 1 := by omega
  have hin : i ≤ n := by omega
  have htn : ((i : Int) + 1).toNat = i + 1 := by omega
  have htn2 : ((n : Int) + 1).toNat = n + 1 := by omega
  have hb3 : (i : Int) ≤ (n : Int) + 1 := by omega
  clear hsp1 hW1v hW1f hsp hfz hcs hvs h1c h1v
  have mixed : Tryz.prog.follows Departure.mixedOrders = true := by kernel_rfl
  go_enter Tryz.func43, Tryz.ntmps43
  go_wp2_with (simp only [hov])
  go_region_law_o (refine step_copy_runI rfl _ _ 22 22 rfl _ _ (by simp [Act.eval, Act.put]) (by simp [Act.eval, Act.put]) (hcp1 _ _ _) ?_)
  go_wp2_with (at_builtin; refine wpList_copy_runI _ rfl _ _ 22 22 rfl _ _ rfl rfl (hcp2 _ (fun _ => rfl) (fun _ => rfl) _ _) ?_)
  go_ret
  exact ⟨rfl, by rw [hW1]⟩
set_option maxHeartbeats 4000000 in
set_option maxRecDepth 100000 in
/-- There is no room, and something stands behind: a new row. -/
theorem insert_grow (b n i vb cv : Nat) (cs vs : List Value) (w : World) (hi : i < n) (hbig : (n + 1) * 24 ≤ 140737488355328) (hcl : cs.length = n * 3) (hvl : vs.length = 3)
    (hcs : ∀ j v, cs[j]? = some v → w.cell? ⟨b, j, none⟩ = some v) (hvs : ∀ j v, vs[j]? = some v → w.cell? ⟨vb, j, none⟩ = some v) (h1c : ∀ v ∈ cs, v.oneCell' = true) (h1v : ∀ v ∈ vs, v.oneCell' = true) :
    Calls Tryz.prog 43 #[.slice (some ⟨b, 0, none⟩) n n, .int .i64 i, .slice (some ⟨vb, 0, none⟩) 1 cv] w fun e w' =>
      e = .returned (.slice (some ⟨w.heap.size, 0, none⟩) (n + 1) (grownCap w (n + 1) n 26)) ∧
      w' = (((w.alloc (.cells ((cs.take (i * 3)).toArray ++ Builtin.zeroCells (Value.agg #[(.int .i64 0), (.int .i64 0), (.int .i64 0)]).cells (n + 1 - i) ++ Builtin.zeroCells (Value.agg #[(.int .i64 0), (.int .i64 0), (.int .i64 0)]).cells (grownCap w (n + 1) n 26 - (n + 1))) 26)).drew.setCells w.heap.size (i * 3) vs).drew).setCells w.heap.size ((i + 1) * 3) (cs.drop (i * 3)) := by
  have uS := run_underlying Tryz.underlying22 (P := Tryz.prog)
  have u3 := run_underlying Tryz.underlying3 (P := Tryz.prog)
  have hz := zI
  have mixed : Tryz.prog.follows Departure.mixedOrders = true := by kernel_rfl
  obtain ⟨i0, hi0, hz0, hzs, hzb⟩ := info_parts infoI
  have hbw : b < w.heap.size := block_lt_of_cell (hcs 0 _ (List.getElem?_eq_getElem (by omega)))
  have hvw : vb < w.heap.size := block_lt_of_cell (hvs 0 _ (List.getElem?_eq_getElem (by omega)))
  have hold : (Builtin.firstCells i0.size i (.slice (some ⟨b, 0, none⟩) i n)).run Tryz.prog w.drew = .ok (cs.take (i * 3)).toArray w.drew := by
    rw [hzs]
    exact run_firstCells_some w.drew 3 i ⟨b, 0, none⟩ i n (cs.take (i * 3)) (by rw [List.length_take]; omega) (fun j v hj => by
      rw [Addr.add_lit]
      rw [List.getElem?_take] at hj
      split at hj
      · rw [Nat.zero_add]; exact hcs j v hj
      · cases hj)
  have hik : i + (n + 1 - i) = n + 1 := by omega
  have hkk : (n : Int) + 1 - (i : Int) = ((n + 1 - i : Nat) : Int) := by omega
  have hrz : ∀ ty, (Builtin.append_ #[22, 3] ty #[.slice (some ⟨b, 0, none⟩) i n, .int .i64 ((n + 1 - i : Nat) : Int)]).run Tryz.prog w =
      .ok (.slice (some ⟨w.heap.size, 0, none⟩) (n + 1) (grownCap w (n + 1) n 26)) (w.drew.alloc (.cells ((cs.take (i * 3)).toArray ++ Builtin.zeroCells (Value.agg #[(.int .i64 0), (.int .i64 0), (.int .i64 0)]).cells (n + 1 - i) ++ Builtin.zeroCells (Value.agg #[(.int .i64 0), (.int .i64 0), (.int .i64 0)]).cells (grownCap w (n + 1) n 26 - (n + 1))) 26)) := by
    intro ty
    have h := Lib.run_append_grow_zeros w 22 3 ty 26 i0 _ .i64 .i64 Tryz.underlying22 Tryz.underlying3 hi0 hz0 (some ⟨b, 0, none⟩) i n (cs.take (i * 3)) hold (n + 1 - i) (by omega) (by omega) (by omega) (by omega) (by rw [hzb]; omega) (by rw [hzb, hik]; exact growslice_fits (by omega) hbig)
    rw [hik] at h
    exact h
  obtain ⟨G, hG⟩ : ∃ G, G = grownCap w (n + 1) n 26 := ⟨_, rfl⟩
  obtain ⟨ROW, hROW⟩ : ∃ ROW : Array Value, ROW = (cs.take (i * 3)).toArray ++ Builtin.zeroCells (Value.agg #[(.int .i64 0), (.int .i64 0), (.int .i64 0)]).cells (n + 1 - i) ++ Builtin.zeroCells (Value.agg #[(.int .i64 0), (.int .i64 0), (.int .i64 0)]).cells (G - (n + 1)) := ⟨_, rfl⟩
  rw [← hG] at hrz ⊢
  rw [← hROW] at hrz ⊢
  have hRl : (n + 1) * 3 ≤ ROW.size := by
    rw [hROW]
    simp [Builtin.zeroCells, Value.cells, hcl]
    omega
  obtain ⟨W1, hW1⟩ : ∃ W1, W1 = w.drew.alloc (.cells ROW 26) := ⟨_, rfl⟩
  rw [← hW1] at hrz
  have hN : ∀ j, j < (n + 1) * 3 → (W1.cell? ⟨w.heap.size, j, none⟩).isSome = true := fun j hj => by
    rw [hW1, World.cell?_alloc_at (w := w.drew) ROW _ w.heap.size j rfl, Array.getElem?_eq_getElem (by omega)]; rfl
  have hNf : ∀ j, W1.frozen? ⟨w.heap.size, j, none⟩ = false := fun j => by rw [hW1]; exact World.frozen?_alloc_at (w := w.drew) ROW _ w.heap.size j rfl
  have hOb : ∀ j v, w.cell? ⟨b, j, none⟩ = some v → W1.cell? ⟨b, j, none⟩ = some v := fun j v h => by rw [hW1, World.cell?_alloc_past (w := w.drew) _ b j hbw]; exact h
  have hOv : ∀ j v, w.cell? ⟨vb, j, none⟩ = some v → W1.cell? ⟨vb, j, none⟩ = some v := fun j v h => by rw [hW1, World.cell?_alloc_past (w := w.drew) _ vb j hvw]; exact h
  have hcpA : ∀ (W : World), (∀ x, W.cell? x = W1.cell? x) → (∀ x, W.frozen? x = W1.frozen? x) → ∀ ty dc, (Builtin.copy_ #[22, 22] ty #[.slice (some ⟨w.heap.size, i * 3, none⟩) (n + 1 - i) dc, .slice (some ⟨vb, 0, none⟩) 1 cv]).run Tryz.prog W = .ok (goInt ((1 : Nat) : Int)) (W.setCells w.heap.size (i * 3) vs) := fun W hWc hWf ty dc =>
    run_copy_cellsZ W 22 22 ty 26 w.heap.size (i * 3) (n + 1 - i) dc ⟨vb, 0, none⟩ 1 cv vs 3 1 Tryz.underlying22 sizeI (by simp only [Nat.min_def]; split <;> omega) (by rw [hvl])
      (fun j v hj => by rw [Addr.add_lit, hWc, Nat.zero_add]; exact hOv _ v (hvs j v hj))
      (fun j hj => by rw [hWc]; exact hN _ (by omega)) (fun j hj => by rw [hWf]; exact hNf _) h1v
  have hGn : n + 1 ≤ G := by rw [hG]; exact grownCap_ge w _ _ _
  have hG63 : G ≤ 9223372036854775807 := by
    have := grownCap_le_maxLen w (n + 1) n 26 (by unfold maxLen; omega)
    rw [← hG] at this
    unfold maxLen at this
    omega
  have hGi : ¬ (G = i) := by omega
  have hGim : ¬ (G = i + 1) := by omega
  have hci : ¬ (n = i) := by omega
  have hbN : b ≠ w.heap.size := by omega
  have hdl : (cs.drop (i * 3)).length = (n - i) * 3 := by rw [List.length_drop, hcl]; omega
  have hcpB : ∀ (W : World), (∀ x, W.cell? x = (W1.setCells w.heap.size (i * 3) vs).cell? x) → (∀ x, W.frozen? x = (W1.setCells w.heap.size (i * 3) vs).frozen? x) → ∀ ty dc sc, (Builtin.copy_ #[22, 22] ty #[.slice (some ⟨w.heap.size, (i + 1) * 3, none⟩) (n - i) dc, .slice (some ⟨b, i * 3, none⟩) (n - i) sc]).run Tryz.prog W = .ok (goInt ((n - i : Nat) : Int)) (W.setCells w.heap.size ((i + 1) * 3) (cs.drop (i * 3))) := fun W hWc hWf ty dc sc =>
    run_copy_cellsZ W 22 22 ty 26 w.heap.size ((i + 1) * 3) (n - i) dc ⟨b, i * 3, none⟩ (n - i) sc (cs.drop (i * 3)) 3 (n - i) Tryz.underlying22 sizeI (by simp only [Nat.min_def]; split <;> omega) hdl
      (fun j v hj => by
        rw [Addr.add_lit, hWc, World.cell?_setCells_out _ _ _ _ _ (fun h _ => absurd h hbN)]
        exact hOb _ v (hcs (i * 3 + j) v (by rwa [List.getElem?_drop] at hj)))
      (fun j hj => by rw [hWc]; exact isSome_setCells _ _ _ _ (fun t ht => hN _ (by omega)) _ (hN _ (by omega)))
      (fun j hj => by rw [hWf, World.frozen?_setCells]; exact hNf _) (fun v hv => h1c v (List.mem_of_mem_drop hv))
  subst hW1
  have hE1 : ∀ x, ((w.alloc (.cells ROW 26)).drew).cell? x = (w.drew.alloc (.cells ROW 26)).cell? x := fun x => rfl
  have hE2 : ∀ x, ((w.alloc (.cells ROW 26)).drew).frozen? x = (w.drew.alloc (.cells ROW 26)).frozen? x := fun x => rfl
  have hF1 : ∀ x, (((w.alloc (.cells ROW 26)).drew.setCells w.heap.size (i * 3) vs).drew).cell? x = ((w.drew.alloc (.cells ROW 26)).setCells w.heap.size (i * 3) vs).cell? x := fun x => rfl
  have hF2 : ∀ x, (((w.alloc (.cells ROW 26)).drew.setCells w.heap.size (i * 3) vs).drew).frozen? x = ((w.drew.alloc (.cells ROW 26)).setCells w.heap.size (i * 3) vs).frozen? x := fun x => rfl
  have hz1 : ¬ ((i : Int) = (n : Int)) := by omega
  have hz3 : (n : Int) < (n : Int) + 1 := by omega
  have hw1 : IntKind.i64.wrap ((i : Int) + 1) = (i : Int) + 1 := by rw [IntKind.wrap_i64]; omega
  have hw2 : IntKind.i64.wrap ((n : Int) + 1) = (n : Int) + 1 := by rw [IntKind.wrap_i64]; omega
  have hw3 : IntKind.i64.wrap ((n : Int) + 1 - (i : Int)) = (n : Int) + 1 - (i : Int) := by rw [IntKind.wrap_i64]; omega
  have hb1 : (0 : Int) ≤ (i : Int) + 1 := by omega
  have hin : i ≤ n := by omega
  have htn : ((i : Int) + 1).toNat = i + 1 := by omega
  have hb3 : (i : Int) ≤ (n : Int) + 1 := by omega
  clear hold hROW hG hRl
  go_enter Tryz.func43, Tryz.ntmps43
  go_wp2_with (first
    | (at_builtin; refine Lib.wpList_append_run _ rfl _ _ _ _ rfl _ _ rfl rfl _ _ (hrz _) ?_)
    | (at_builtin; refine wpList_copy_runI _ rfl _ _ 22 22 rfl _ _ rfl rfl (hcpA _ hE1 hE2 _ _) ?_)
    | (at_builtin; refine wpList_copy_runI _ rfl _ _ 22 22 rfl _ _ rfl rfl (hcpB _ (fun _ => rfl) (fun _ => rfl) _ _ _) ?_))
  go_region_law_o (refine step_copy_runI rfl _ _ 22 22 rfl (.slice (some ⟨w.heap.size, (i + 1) * 3, none⟩) (n - i) (G - (i + 1))) (.slice (some ⟨b, i * 3, none⟩) (n - i) (n - i)) (by simp [Act.eval, Act.put]) (by simp [Act.eval, Act.put]) (hcpB _ hF1 hF2 3 (G - (i + 1)) (n - i)) ?_)
  go_wp2
  go_ret
  exact ⟨rfl, rfl⟩
set_option maxHeartbeats 4000000 in
set_option maxRecDepth 100000 in
/-- At the end: append. -/
theorem insert_end (base n vb cv : Nat) (v : Value) (xs vs : List Value) (w : World) (hown : w.ownsRow base 26 3 v n xs) (hbig : (n + 1) * 24 ≤ 140737488355328) (hvl : vs.length = 3) (hbase : base ≤ w.heap.size)
    (hvs : ∀ j v, vs[j]? = some v → w.cell? ⟨vb, j, none⟩ = some v) (h1v : ∀ v ∈ vs, v.oneCell' = true) :
    Calls Tryz.prog 43 #[v, .int .i64 n, .slice (some ⟨vb, 0, none⟩) 1 cv] w fun e w' => ∃ v', e = .returned v' ∧ w'.ownsRow base 26 3 v' (n + 1) (xs ++ vs) ∧ w.grownBy w' v.ownBlock := by
  have uS := run_underlying Tryz.underlying22 (P := Tryz.prog)
  have u3 := run_underlying Tryz.underlying3 (P := Tryz.prog)
  have hz := zI
  obtain ⟨i0, hi0, hz0, hzs, hzb⟩ := info_parts infoI
  have hown0 := hown
  have hvs' : ∀ j u, vs[j]? = some u → w.cell? ((⟨vb, 0, none⟩ : Addr).add j) = some u := fun j u h => by rw [Addr.add_lit, Nat.zero_add]; exact hvs j u h
  have h63 : n + 1 ≤ maxLen := by unfold maxLen; omega
  have hvl1 : vs.length = 1 * 3 := by omega
  have hb1 : (0 : Int) ≤ (n : Int) := by omega
  have hbn : n ≤ n := Nat.le_refl n
  rcases hown.2 with ⟨rfl, rfl⟩ | ⟨g, cap, cur, rfl, hg, hh, hnc, hcm, _⟩
  · go_enter Tryz.func43, Tryz.ntmps43
    go_wp2_with (at_builtin; refine wpList_append_own _ rfl _ _ 22 rfl base 26 i0 ((.agg #[(.int .i64 0), (.int .i64 0), (.int .i64 0)])) 3 24 Tryz.underlying22 hi0 hz0 hzs hzb rfl (by decide) (.slice none 0 0) 0 xs rfl hown0 ⟨vb, 0, none⟩ 1 cv vs rfl hvl1 hvs' h1v h63 hbig hbase ?_; intro v' w' ho hgr _)
    go_ret
    exact ⟨_, rfl, ho, hgr⟩
  · have hcap : cap ≤ 9223372036854775807 := by unfold maxLen at hcm; omega
    go_enter Tryz.func43, Tryz.ntmps43
    go_wp2_with (at_builtin; refine wpList_append_own _ rfl _ _ 22 rfl base 26 i0 ((.agg #[(.int .i64 0), (.int .i64 0), (.int .i64 0)])) 3 24 Tryz.underlying22 hi0 hz0 hzs hzb rfl (by decide) (.slice (some ⟨g, 0, none⟩) n cap) n xs rfl hown0 ⟨vb, 0, none⟩ 1 cv vs rfl hvl1 hvs' h1v h63 hbig hbase ?_; intro v' w' ho hgr _)
    all_goals
      go_ret
      exact ⟨_, rfl, ho, hgr⟩
end Go.Proofs.YtholbmidciapdaaGreatDoor.X
namespace Go.Proofs.YtholbmidciapdaaGreatDoor.X
open Go Go.RowKit Go.Lib Go.Proofs Go.Shelf
theorem tape_setCells (b : Nat) : ∀ (vs : List Value) (o : Nat) (w : World), (w.setCells b o vs).tape = w.tape
  | [], _, _ => rfl
  | v :: r, o, w => by rw [World.setCells, tape_setCells b r]; rfl
theorem hsize_setCells (b : Nat) : ∀ (vs : List Value) (o : Nat) (w : World), (w.setCells b o vs).heap.size = w.heap.size
  | [], _, _ => rfl
  | v :: r, o, w => by rw [World.setCells, hsize_setCells b r]; simp
theorem grownBy_setCells (w w1 : World) (b o : Nat) (vs : List Value) (row : Option Nat) (h : w.grownBy w1 row) (hb : row = some b ∨ w.heap.size ≤ b) : w.grownBy (w1.setCells b o vs) row :=
  ⟨(World.os_setCells w1 b o vs).trans h.os, (tape_setCells b vs o w1).trans h.tape, (World.output_setCells w1 b o vs).trans h.output, by rw [hsize_setCells]; exact h.size, fun k hk hne => by
    rw [World.heap_setCells_other w1 b o vs (Nat.lt_of_lt_of_le hk h.size) (by
      rintro rfl
      rcases hb with hb | hb
      · exact hne hb.symm
      · omega)]
    exact h.block k hk hne⟩
theorem grownBy_drew {w w1 : World} {row : Option Nat} (h : w.grownBy w1 row) : w.grownBy w1.drew row := ⟨h.os, h.tape, h.output, h.size, h.block⟩
theorem row_setCells {w : World} {b : Nat} {t : TypeId} {c : Array Value} (h : w.heap[b]? = some (.cells c t (0, 0))) (o : Nat) (vs : List Value) (hf : o + vs.length ≤ c.size) :
    ∃ c' : Array Value, (w.setCells b o vs).heap[b]? = some (.cells c' t (0, 0)) ∧ c'.size = c.size ∧ (∀ j, j < vs.length → c'[o + j]? = vs[j]?) ∧ ∀ j, j < o ∨ o + vs.length ≤ j → c'[j]? = c[j]? := by
  have h0 : w.rowIs b t c.size (fun j => c[j]?.getD default) := ⟨c, h, rfl, fun i hi => by simp [Array.getElem?_eq_getElem hi]⟩
  obtain ⟨c', h1, h2, h3⟩ := rowIs_setCells vs o w _ h0
  simp only at h3
  refine ⟨c', h1, h2, fun j hj => ?_, fun j hj => ?_⟩
  · rw [h3 (o + j) (by omega), if_pos ⟨by omega, by omega⟩, show o + j - o = j by omega, List.getElem?_eq_getElem hj]
    rfl
  · by_cases hc : j < c.size
    · rw [h3 j hc, if_neg (by omega), Array.getElem?_eq_getElem hc]
      rfl
    · rw [Array.getElem?_eq_none (by omega), Array.getElem?_eq_none (by omega)]
theorem taken (c : Array Value) (xs vs : List Value) (n i : Nat) (hi : i ≤ n) (hx : xs.length = n * 3) (hv : vs.length = 3) (h1 : ∀ j, j < i * 3 → c[j]? = xs[j]?) (h2 : ∀ j, j < 3 → c[i * 3 + j]? = vs[j]?)
    (h3 : ∀ j, j < (n - i) * 3 → c[(i + 1) * 3 + j]? = xs[i * 3 + j]?) : c.toList.take ((n + 1) * 3) = xs.take (i * 3) ++ vs ++ xs.drop (i * 3) := by
  apply List.ext_getElem?
  intro j
  have hm : min (i * 3) (n * 3) = i * 3 := by omega
  rw [List.getElem?_take, List.append_assoc, List.getElem?_append, List.length_take, hx, hm]
  by_cases hA : j < i * 3
  · rw [if_pos (by omega), if_pos hA, List.getElem?_take, if_pos hA]
    simpa using h1 j hA
  · rw [if_neg hA, List.getElem?_append, hv]
    by_cases hB : j - i * 3 < 3
    · rw [if_pos (by omega), if_pos hB]
      have := h2 (j - i * 3) hB
      rw [show i * 3 + (j - i * 3) = j by omega] at this
      simpa using this
    · rw [if_neg hB, List.getElem?_drop]
      by_cases hC : j < (n + 1) * 3
      · rw [if_pos hC]
        have := h3 (j - (i + 1) * 3) (by omega)
        rw [show (i + 1) * 3 + (j - (i + 1) * 3) = j by omega] at this
        rw [show i * 3 + (j - i * 3 - 3) = i * 3 + (j - (i + 1) * 3) by omega]
        simpa using this
      · rw [if_neg hC]
        symm
        apply List.getElem?_eq_none
        omega
set_option maxHeartbeats 4000000 in
theorem insert_own (base n i vb cv : Nat) (curv : Array Value) (v : Value) (xs vs : List Value) (w : World) (hin : i ≤ n) (hown : w.ownsRow base 26 3 v n xs) (hbig : (n + 1) * 24 ≤ 140737488355328) (hvl : vs.length = 3) (hbase : base ≤ w.heap.size)
    (hvb : v.ownBlock ≠ some vb) (hvr : w.heap[vb]? = some (.cells curv 26 (0, 0))) (hvc : curv.toList.take 3 = vs) (h1v : ∀ v ∈ vs, v.oneCell' = true) (h1x : ∀ v ∈ xs, v.oneCell' = true) :
    Calls Tryz.prog 43 #[v, .int .i64 i, .slice (some ⟨vb, 0, none⟩) 1 cv] w fun e w' => ∃ v', e = .returned v' ∧ w'.ownsRow base 26 3 v' (n + 1) (xs.take (i * 3) ++ vs ++ xs.drop (i * 3)) ∧ w.grownBy w' v.ownBlock := by
  have hvs : ∀ j v, vs[j]? = some v → w.cell? ⟨vb, j, none⟩ = some v := fun j v h => by
    rw [cell_of_row w vb j _ _ _ hvr]
    rw [← hvc, List.getElem?_take] at h
    split at h
    · simpa using h
    · cases h
  have hlen := hown.1
  by_cases hi : i = n
  · subst hi
    have e1 : xs.take (i * 3) ++ vs ++ xs.drop (i * 3) = xs ++ vs := by rw [List.take_of_length_le (by omega), List.drop_of_length_le (by omega), List.append_nil]
    rw [e1]
    exact insert_end base i vb cv v xs vs w hown hbig hvl hbase hvs h1v
  · have hi' : i < n := by omega
    have hl : (xs.take (i * 3) ++ vs ++ xs.drop (i * 3)).length = (n + 1) * 3 := by simp only [List.length_append, List.length_take, List.length_drop, hlen, hvl]; omega
    rcases hown.2 with ⟨_, rfl⟩ | ⟨g, cap, cur, rfl, hg, hh, hnc, hcm, hcs, htake⟩
    · omega
    have hgv : g ≠ vb := fun h => hvb (by simp [Value.ownBlock, h])
    have hcell : ∀ j, w.cell? ⟨g, j, none⟩ = cur[j]? := fun j => cell_of_row w g j _ _ _ hh
    have hxc : ∀ j, j < n * 3 → cur[j]? = xs[j]? := fun j hj => by rw [← htake, List.getElem?_take, if_pos hj]; simp
    have hcs' : ∀ j v, xs[j]? = some v → w.cell? ⟨g, j, none⟩ = some v := fun j v h => by
      have hj : j < xs.length := (List.getElem?_eq_some_iff.1 h).1
      rw [hcell, hxc j (by omega), h]
    have hgw : g < w.heap.size := (Array.getElem?_eq_some_iff.1 hh).1
    by_cases hroom : n + 1 ≤ cap
    · have hfz : ∀ j, w.frozen? ⟨g, j, none⟩ = false := fun j => frozen_of_row w g j _ _ hh
      have hsa : w.shape? vb = some (26, curv.size) := by simp [World.shape?, hvr]
      have hsb : w.shape? g = some (26, cur.size) := by simp [World.shape?, hh]
      refine (insert_shift g n cap i vb cv xs vs w hi' hroom (by unfold maxLen at hcm; omega) (Ne.symm hgv) hlen hvl hcs' (fun j hj => by rw [hcell, Array.getElem?_eq_getElem (by omega)]; rfl) (fun j _ => hfz j) hvs h1x h1v 26 26 curv.size cur.size hsa hsb (by omega) (frozen_of_row w vb _ _ _ hvr) (frozen_of_row w vb _ _ _ hvr)).mono ?_
      rintro e w' ⟨rfl, rfl⟩
      have hd1 : w.drew.heap[g]? = some (.cells cur 26 (0, 0)) := hh
      obtain ⟨c1, q1, q2, q3, q4⟩ := row_setCells hd1 ((i + 1) * 3) (xs.drop (i * 3)) (by rw [List.length_drop, hlen]; omega)
      obtain ⟨c2, r1, r2, r3, r4⟩ := row_setCells q1 (i * 3) vs (by rw [hvl]; omega)
      rw [List.length_drop, hlen] at q3 q4
      rw [hvl] at r3 r4
      refine ⟨_, rfl, ⟨hl, .inr ⟨g, cap, c2, rfl, hg, r1, hroom, hcm, by omega, ?_⟩⟩, ?_⟩
      · refine taken c2 xs vs n i hin hlen hvl (fun j hj => ?_) (fun j hj => r3 j hj) (fun j hj => ?_)
        · rw [r4 j (by omega), q4 j (by omega), hxc j (by omega)]
        · rw [r4 _ (by omega), q3 j (by omega), List.getElem?_drop]
      · exact grownBy_setCells _ _ _ _ _ _ (grownBy_setCells _ _ _ _ _ _ (grownBy_drew ⟨rfl, rfl, rfl, Nat.le_refl _, fun _ _ _ => rfl⟩) (.inl rfl)) (.inl rfl)
    · have hcn : cap = n := by omega
      subst hcn
      refine (insert_grow g cap i vb cv xs vs w hi' hbig hlen hvl hcs' hvs h1x h1v).mono ?_
      rintro e w' ⟨rfl, rfl⟩
      obtain ⟨G, hG⟩ : ∃ G, G = grownCap w (cap + 1) cap 26 := ⟨_, rfl⟩
      have hGn : cap + 1 ≤ G := by rw [hG]; exact grownCap_ge w _ _ _
      have hGm : G ≤ maxLen := by rw [hG]; exact grownCap_le_maxLen w (cap + 1) cap 26 (by unfold maxLen; omega)
      rw [← hG]
      obtain ⟨ROW, hROW⟩ : ∃ ROW : Array Value, ROW = (xs.take (i * 3)).toArray ++ Builtin.zeroCells (Value.agg #[(.int .i64 0), (.int .i64 0), (.int .i64 0)]).cells (cap + 1 - i) ++ Builtin.zeroCells (Value.agg #[(.int .i64 0), (.int .i64 0), (.int .i64 0)]).cells (G - (cap + 1)) := ⟨_, rfl⟩
      rw [← hROW]
      have hRs : ROW.size = G * 3 := by
        rw [hROW]
        simp [Builtin.zeroCells, Value.cells, hlen]
        omega
      have hR1 : ∀ j, j < i * 3 → ROW[j]? = xs[j]? := fun j hj => by
        rw [hROW, Array.getElem?_append_left (by simp [Builtin.zeroCells, Value.cells, hlen]; omega), Array.getElem?_append_left (by simp [hlen]; omega)]
        simp [List.getElem?_take, hj]
      have hd1 : ((w.alloc (.cells ROW 26)).drew).heap[w.heap.size]? = some (.cells ROW 26 (0, 0)) := heap_alloc_new w _
      obtain ⟨c1, q1, q2, q3, q4⟩ := row_setCells hd1 (i * 3) vs (by rw [hvl]; omega)
      have q1' : (((w.alloc (.cells ROW 26)).drew.setCells w.heap.size (i * 3) vs).drew).heap[w.heap.size]? = some (.cells c1 26 (0, 0)) := q1
      obtain ⟨c2, r1, r2, r3, r4⟩ := row_setCells q1' ((i + 1) * 3) (xs.drop (i * 3)) (by rw [List.length_drop, hlen]; omega)
      rw [List.length_drop, hlen] at r3 r4
      rw [hvl] at q3 q4
      refine ⟨_, rfl, ⟨hl, .inr ⟨w.heap.size, G, c2, rfl, hbase, r1, hGn, hGm, by omega, ?_⟩⟩, ?_⟩
      · refine taken c2 xs vs cap i hin hlen hvl (fun j hj => ?_) (fun j hj => ?_) (fun j hj => ?_)
        · rw [r4 j (by omega), q4 j (by omega), hR1 j (by omega)]
        · rw [r4 _ (by omega), q3 j (by omega)]
        · rw [r3 j (by omega), List.getElem?_drop]
      · refine grownBy_setCells _ _ _ _ _ _ (grownBy_drew (grownBy_setCells _ _ _ _ _ _ (grownBy_drew (World.grownBy_alloc w _ _)) (.inr (Nat.le_refl _)))) (.inr (Nat.le_refl _))
end Go.Proofs.YtholbmidciapdaaGreatDoor.X
