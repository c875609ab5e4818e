/-
A part of what these laws rest on: contracts of the functions that they reach, and plain lemmas.
-/
import Derived.Lib.AtoiAll
import Derived.Lib.IndexMore
import Derived.Lib.Split
import Derived.Shelf.Strings.SlTrimAscii
import Derived.RangeFuncNested
import Derived.RangeFuncBound
import Derived.RangeFuncCalls
import Derived.RangeFuncLeaves
import Derived.RangeFuncBox
import Derived.Shelf.Abstract
import Derived.Shelf.RegionOpen
import Derived.OwnWalkIn
import Derived.TacticsInMore
import Derived.LoopNIn
import Derived.LoopIn
import Derived.Test.YtholbmidciapdaaGreatDoorTariffTextsC
set_option linter.unusedVariables false
set_option linter.unusedSimpArgs false
namespace Go.Proofs.YtholbmidciapdaaGreatDoor.Pr
open Go.RowKit Go.Proofs.YtholbmidciapdaaGreatDoorW.PrintWords Go.Proofs.YtholbmidciapdaaGreatDoorW.PrintLast Go.Proofs.YtholbmidciapdaaGreatDoorW.PrintMore Go.Proofs.YtholbmidciapdaaGreatDoor.X
attribute [local go_sem] uR uP kP kO jN jM uQ uO   -- for this text's walks alone
set_option linter.unusedVariables false
set_option linter.unusedSimpArgs false
mutual
def wT.l0 : Nat → Int → Int → Int → Bool → List (S26) → Int → Int → Int → Int → Int → Option (Int × Int × Int × Int)
 | 0, _, _, _, _, _, _, _, _, _, _ => none
 | k + 1, x1, x2, x3, x12, x32, x33, x34, zGS, zGR, zFB => if x34 < x33 then (if 0 ≤ x34 then (if x34 < (x32.length : Int) then (if ((zH x32 x34).f0) = x1 then ((zR.f ((zH x32 x34).f1) x2 x3).bind fun t165 => (if t165 = true then (if x12 = true then (wT.j1 k x1 x2 x3 x12 x32 x33 x34 (decide (((zH x32 x34).f2) > zFB)) zGS zGR zFB ((zH x32 x34).f0) ((zH x32 x34).f1) ((zH x32 x34).f2)) else (wT.j1 k x1 x2 x3 x12 x32 x33 x34 true zGS zGR zFB ((zH x32 x34).f0) ((zH x32 x34).f1) ((zH x32 x34).f2))) else (wT.j1 k x1 x2 x3 x12 x32 x33 x34 false zGS zGR zFB ((zH x32 x34).f0) ((zH x32 x34).f1) ((zH x32 x34).f2)))) else (wT.j1 k x1 x2 x3 x12 x32 x33 x34 false zGS zGR zFB ((zH x32 x34).f0) ((zH x32 x34).f1) ((zH x32 x34).f2))) else (none)) else (none)) else (if x12 = true then (some (zGS, zGR, zFB, 0)) else (some (0, 0, 0, 7)))
def wT.j1 : Nat → Int → Int → Int → Bool → List (S26) → Int → Int → Bool → Int → Int → Int → Int → Int → Int → Option (Int × Int × Int × Int)
 | 0, _, _, _, _, _, _, _, _, _, _, _, _, _, _ => none
 | k + 1, x1, x2, x3, x12, x32, x33, x34, x59, zGS, zGR, zFB, x165000, x165001, x165002 => if x59 = true then (wT.l0 k x1 x2 x3 true x32 x33 (wrap64 (x34 + 1)) x165000 x165001 x165002) else (wT.l0 k x1 x2 x3 x12 x32 x33 (wrap64 (x34 + 1)) zGS zGR zFB)
end
def wT.f (k : Nat) (a0_0 : Int) (l0_1 : List (S26)) (a1 : Int) (a2 : Int) (a3 : Int) : Option (Int × Int × Int × Int) := (vH.f k a0_0 l0_1 a1 a2 a3).bind fun t157 => (if t157 = 0 then ((qQ.f k a0_0 l0_1 a1 a2).bind fun bt158 => (wT.l0 k a1 a2 a3 bt158.2.2.2 l0_1 (l0_1.length : Int) 0 bt158.1 bt158.2.1 bt158.2.2.1)) else (some (0, 0, 0, t157)))
set_option maxHeartbeats 8000000 in
set_option maxRecDepth 100000 in
theorem wT.calls (k : Nat) (a0_0 : Int) (A0_1 : Option Addr) (c0_1 : Nat) (l0_1 : List (S26)) (a1 : Int) (a2 : Int) (a3 : Int) (r1 : Int) (r2 : Int) (r3 : Int) (r4 : Int) (w : World) (hr0_1 : Kd.C k26 w A0_1 l0_1.length l0_1) (uG : l0_1.length ≤ c0_1) (h : wT.f k a0_0 l0_1 a1 a2 a3 = some (r1, r2, r3, r4)) :
  Calls Tryz.prog 21 #[.agg #[.int .i64 a0_0, .slice A0_1 l0_1.length c0_1], .int .i64 a1, .int .i64 a2, .int .i64 a3] w fun e w' => e = .returned (.tuple #[.agg #[.int .i64 r1, .int .i64 r2, .int .i64 r3], .int .i64 r4]) ∧ Below w.heap.size w w' := by
 have hu24 := Tryz.underlying24; have hu26 := Tryz.underlying26; have HR0_1 := zA.mk hr0_1; have HC0_1 := zA.mk uG; clear hr0_1 uG; have HB := zA.mk (Below.refl w.heap.size w); have H : ((vH.f k a0_0 l0_1 a1 a2 a3).bind fun t157 => (if t157 = 0 then ((qQ.f k a0_0 l0_1 a1 a2).bind fun bt158 => (wT.l0 k a1 a2 a3 bt158.2.2.2 l0_1 (l0_1.length : Int) 0 bt158.1 bt158.2.1 bt158.2.2.1)) else (some (0, 0, 0, t157)))) = some (r1, r2, r3, r4) := h; clear h; replace H := Option.bind_eq_some_iff.mp H; obtain ⟨t157, A50, H⟩ := H; replace H : (if t157 = 0 then ((qQ.f k a0_0 l0_1 a1 a2).bind fun bt158 => (wT.l0 k a1 a2 a3 bt158.2.2.2 l0_1 (l0_1.length : Int) 0 bt158.1 bt158.2.1 bt158.2.2.1)) else (some (0, 0, 0, t157))) = some (r1, r2, r3, r4) := H; have A5 := zA.mk A50; clear A50; by_cases c6 : t157 = 0
 ·
  rw [if_pos c6] at H; have c6b0 : (t157 == 0) = true := beq_iff_eq.mpr c6; have c6b1 : (t157 != 0) = false := bne_eq_false_iff_eq.mpr c6; clear c6; replace H := Option.bind_eq_some_iff.mp H; obtain ⟨⟨t158, t159, t160, t161⟩, A70, H⟩ := H; replace H : (wT.l0 k a1 a2 a3 t161 l0_1 (l0_1.length : Int) 0 t158 t159 t160) = some (r1, r2, r3, r4) := H; have A7 := zA.mk A70; clear A70; have H' := zA.mk H; clear H; go_enter Tryz.func21, Tryz.ntmps21
  go_wp2_with (first | ((with_reducible refine wF (N := 4) rfl ?_); refine wA ?hg (N := 4) ?hd (cs := #[.int .i64 a0_0, .slice A0_1 l0_1.length c0_1]) (t := 24) ?hr ?_; (case hd => rfl); (case hg => rfl); (case hr => first | (go_simp; done) | (go_simp; rfl)); intro zDG hg w8 hbox hb; have n0_ := zA.mk (zF (eG HB.out) hb); have n1_ := zA.mk (hbox); have n2_ := zA.mk ((by rw [hg]; exact (zE (eG HB.out)) : w.heap.size ≤ zDG)); have n3_ := zA.mk ((by rw [hg]; exact (zE (eG HB.out)) : w.heap.size ≤ zDG)); clear HB; have HB := n0_; have jS := n1_; have GW155 := n2_; have GE155 := n3_; have ig155_ := geI GE155; clear n0_ n1_ n2_ n3_; clear hb hbox hg) | ((with_reducible refine wF (N := 8) rfl ?_); refine wA ?hg (N := 8) ?hd (cs := #[.int .i64 0, .int .i64 0, .int .i64 0]) (t := 26) ?hr ?_; (case hd => rfl); (case hg => rfl); (case hr => first | (go_simp; done) | (go_simp; rfl)); intro zBO hg w9 hbox hb; have n0_ := zA.mk (zG (bG jS.out) hb); have n1_ := zA.mk (zF (eG HB.out) hb); have n2_ := zA.mk (hbox); have n3_ := zA.mk ((by rw [hg]; exact (zE (eG HB.out)) : w.heap.size ≤ zBO)); have n4_ := zA.mk ((by rw [hg]; exact (zE (eG HB.out)) : w.heap.size ≤ zBO)); have n5_ := zA.mk ((by rw [hg]; exact Nat.ne_of_lt (wC (bG jS.out)) : zDG ≠ zBO)); have n6_ := zA.mk ((by rw [hg]; exact Nat.ne_of_gt (wC (bG jS.out)) : zBO ≠ zDG)); clear jS; clear HB; have jS := n0_; have HB := n1_; have uH := n2_; have GW156 := n3_; have GE156 := n4_; have ig156_ := geI GE156; have zGA := n5_; have zFZ := n6_; clear n0_ n1_ n2_ n3_ n4_ n5_ n6_; clear hb hbox hg; have hnb10 := zGA.out; have hnc10 := zFZ.out; have zHN : w9.cell? ⟨zDG, 0, none⟩ = some (.int .i64 a0_0) := (zC jS.out 0).trans rfl; have zHM : w9.cell? ⟨zDG, 1, none⟩ = some (.slice A0_1 l0_1.length c0_1) := (zC jS.out 1).trans rfl; have zHH := zB jS.out 0; have zHG := zB jS.out 1) | ((with_reducible refine zQ (f := 48) rfl ?_); refine vB (some 19) rfl rfl Tryz.func48 (by kernel_rfl) rfl #[.agg #[.int .i64 a0_0, .slice A0_1 l0_1.length c0_1], .int .i64 a1, .int .i64 a2, .int .i64 a3] rfl (by (try simp only [List.map_toArray, List.map_cons, List.map_nil]); first | done | rfl | (simp only [List.length_drop, List.length_take]; rfl)) ?_; (with_reducible refine (vH.calls k a0_0 _ _ l0_1 a1 a2 a3 t157 _ ?side1 ?side2 A5.out).mono ?_); (case side1 => repeat (first | exact (Kd.qW HR0_1.out HB.out) | (with_reducible refine Kd.vZ ?_ _) | (with_reducible refine Kd.vY ?_ _) | (with_reducible refine Kd.qU ?_))); (case side2 => exact HC0_1.out); rintro e w12 ⟨rfl, hb⟩; refine ⟨_, rfl, ?_⟩; have n0_ := zA.mk (zG (bG jS.out) hb); have n1_ := zA.mk (zG (bG uH.out) hb); have n2_ := zA.mk (zF (eG HB.out) hb); clear jS; clear uH; clear HB; have jS := n0_; have uH := n1_; have HB := n2_; clear n0_ n1_ n2_; (try clear hb); (try clear hb2); (try clear hk); (try clear hi); have zUQ : w12.cell? ⟨zDG, 0, none⟩ = some (.int .i64 a0_0) := (zC jS.out 0).trans rfl; have zUP : w12.cell? ⟨zDG, 1, none⟩ = some (.slice A0_1 l0_1.length c0_1) := (zC jS.out 1).trans rfl; have zTO := zB jS.out 0; have zTN := zB jS.out 1) | ((with_reducible refine zQ (f := 45) rfl ?_); refine vB (some 28) rfl rfl Tryz.func45 (by kernel_rfl) rfl #[.agg #[.int .i64 a0_0, .slice A0_1 l0_1.length c0_1], .int .i64 a1, .int .i64 a2] rfl (by (try simp only [List.map_toArray, List.map_cons, List.map_nil]); first | done | rfl | (simp only [List.length_drop, List.length_take]; rfl)) ?_; (with_reducible refine (qQ.calls k a0_0 _ _ l0_1 a1 a2 t158 t159 t160 t161 _ ?side1 ?side2 A7.out).mono ?_); (case side1 => repeat (first | exact (Kd.qW HR0_1.out HB.out) | (with_reducible refine Kd.vZ ?_ _) | (with_reducible refine Kd.vY ?_ _) | (with_reducible refine Kd.qU ?_))); (case side2 => exact HC0_1.out); rintro e w14 ⟨rfl, hb⟩; refine ⟨_, rfl, ?_⟩; have n0_ := zA.mk (zG (bG jS.out) hb); have n1_ := zA.mk (zG (bG uH.out) hb); have n2_ := zA.mk (zF (eG HB.out) hb); clear jS; clear uH; clear HB; have jS := n0_; have uH := n1_; have HB := n2_; clear n0_ n1_ n2_; (try clear hb); (try clear hb2); (try clear hk); (try clear hi)) | ((with_reducible refine wF (N := 11) rfl ?_); refine wA ?hg (N := 11) ?hd (cs := #[.int .i64 0, .int .i64 0, .int .i64 0]) (t := 26) ?hr ?_; (case hd => rfl); (case hg => rfl); (case hr => first | (go_simp; done) | (go_simp; rfl)); intro zDK hg w15 hbox hb; have n0_ := zA.mk (zG (bG jS.out) hb); have n1_ := zA.mk (zG (bG uH.out) hb); have n2_ := zA.mk (zF (eG HB.out) hb); have n3_ := zA.mk (hbox); have n4_ := zA.mk ((by rw [hg]; exact (zE (eG HB.out)) : w.heap.size ≤ zDK)); have n5_ := zA.mk ((by rw [hg]; exact (zE (eG HB.out)) : w.heap.size ≤ zDK)); have n6_ := zA.mk ((by rw [hg]; exact Nat.ne_of_lt (wC (bG jS.out)) : zDG ≠ zDK)); have n7_ := zA.mk ((by rw [hg]; exact Nat.ne_of_gt (wC (bG jS.out)) : zDK ≠ zDG)); have n8_ := zA.mk ((by rw [hg]; exact Nat.ne_of_lt (wC (bG uH.out)) : zBO ≠ zDK)); have n9_ := zA.mk ((by rw [hg]; exact Nat.ne_of_gt (wC (bG uH.out)) : zDK ≠ zBO)); clear jS; clear uH; clear HB; have jS := n0_; have uH := n1_; have HB := n2_; have kM := n3_; have GW162 := n4_; have GE162 := n5_; have ig162_ := geI GE162; have zAO := n6_; have zIY := n7_; have zAD := n8_; have zFY := n9_; clear n0_ n1_ n2_ n3_ n4_ n5_ n6_ n7_ n8_ n9_; clear hb hbox hg; have hnb16 := zIY.out; have hnc16 := zAO.out; have hnb17 := zFY.out; have hnc17 := zAD.out; have zHL : w15.cell? ⟨zDK, 0, none⟩ = some (.int .i64 0) := (zC kM.out 0).trans rfl; have zHK : w15.cell? ⟨zDK, 1, none⟩ = some (.int .i64 0) := (zC kM.out 1).trans rfl; have zPJ : w15.cell? ⟨zDK, 2, none⟩ = some (.int .i64 0) := (zC kM.out 2).trans rfl; have zHF := zB kM.out 0; have zHE := zB kM.out 1; have zOS := zB kM.out 2; have zLK : w15.cell? ⟨zDG, 0, none⟩ = some (.int .i64 a0_0) := (zC jS.out 0).trans rfl; have zLJ : w15.cell? ⟨zDG, 1, none⟩ = some (.slice A0_1 l0_1.length c0_1) := (zC jS.out 1).trans rfl; have zLD := zB jS.out 0; have zLC := zB jS.out 1))
  go_loopg [12, 34] k (fun kq v12 v34 w' => ∃ (x12_1 : Bool) (x34_1 : Int) (yN : Int) (yM : Int) (yA : Int), v12 = .bool x12_1 ∧ v34 = .int .i64 x34_1 ∧ zA (wT.l0 kq a1 a2 a3 x12_1 l0_1 (l0_1.length : Int) x34_1 yN yM yA = some (r1, r2, r3, r4)) ∧ zA (kq ≤ k) ∧ zA (w'.heap[zDG]? = some (.cells #[.int .i64 a0_0, (.slice A0_1 l0_1.length c0_1)] 24 (0, 0))) ∧ zA (w'.heap[zBO]? = some (.cells #[.int .i64 0, .int .i64 0, .int .i64 0] 26 (0, 0))) ∧ zA (w'.heap[zDK]? = some (.cells #[.int .i64 yN, .int .i64 yM, .int .i64 yA] 26 (0, 0))) ∧ zA (Below w.heap.size w w'))
  case atStart => exact ⟨(t161), (0), (t158), (t159), (t160), (by first | rfl | (simp; done) | (simp [*]; done)), (by first | rfl | (simp; done) | (simp [*]; done)), H', ⟨Nat.le_refl _⟩, ⟨by (with_reducible repeat first | apply bN | apply bD | apply bA); refine zV ?_ zAO.out _; (with_reducible repeat first | apply bN | apply bD | apply bA); refine zV ?_ zAO.out _; (with_reducible repeat first | apply bN | apply bD | apply bA); refine zV ?_ zAO.out _; (with_reducible repeat first | apply bN | apply bD | apply bA); exact jS.out⟩, ⟨by (with_reducible repeat first | apply bN | apply bD | apply bA); refine zV ?_ zAD.out _; (with_reducible repeat first | apply bN | apply bD | apply bA); refine zV ?_ zAD.out _; (with_reducible repeat first | apply bN | apply bD | apply bA); refine zV ?_ zAD.out _; (with_reducible repeat first | apply bN | apply bD | apply bA); exact uH.out⟩, ⟨by (with_reducible repeat first | apply bN | apply bD | apply bA); refine wE (cs := #[.int .i64 t158, .int .i64 t159, .int .i64 0]) ?_ 2 _ rfl; (with_reducible repeat first | apply bN | apply bD | apply bA); refine wE (cs := #[.int .i64 t158, .int .i64 0, .int .i64 0]) ?_ 1 _ rfl; (with_reducible repeat first | apply bN | apply bD | apply bA); refine wE (cs := #[.int .i64 0, .int .i64 0, .int .i64 0]) ?_ 0 _ rfl; (with_reducible repeat first | apply bN | apply bD | apply bA); exact kM.out⟩, ⟨eG HB.out⟩⟩
  case round =>
   clear H'; repeat first | clear c1 | clear c2 | clear p2 | clear c4 | clear c6 | clear c6b0 | clear c6b1 | clear c10 | clear c16 | clear c17 | clear zHN | clear zHM | clear zUQ | clear zUP | clear zHL | clear zHK | clear zPJ | clear zLK | clear zLJ | clear zHH | clear zHG | clear zTO | clear zTN | clear zHF | clear zHE | clear zOS | clear zLD | clear zLC
   obtain ⟨x12_1, x34_1, yN, yM, yA, rfl, rfl, HA, HK1, jS, uH, kM, HB⟩ := hrel
   cases gk with
   | zero => exact absurd HA.out (by simp [wT.l0])
   | succ k1 =>
    have H := HA.out; clear HA; simp only [wT.l0] at H; by_cases c20 : x34_1 < (l0_1.length : Int)
    ·
     rw [if_pos c20] at H; have c20b0 : decide (x34_1 < (l0_1.length : Int)) = true := decide_eq_true c20; clear c20; by_cases c21 : 0 ≤ x34_1
     ·
      rw [if_pos c21] at H; have c21b0 : decide (0 ≤ x34_1) = true := decide_eq_true c21; clear c21; by_cases c22 : x34_1 < (l0_1.length : Int)
      ·
       rw [if_pos c22] at H; have c22b0 : decide (x34_1 < (l0_1.length : Int)) = true := decide_eq_true c22; clear c22; have HC23 := zA.mk H; clear H; have p163 : 0 ≤ (x34_1 : Int) := of_decide_eq_true (by first | (with_reducible assumption) | assumption); have q163 : x34_1 < (l0_1.length : Int) := of_decide_eq_true (by first | (with_reducible assumption) | assumption); obtain ⟨ad163, e163, zOF, zOE, zOD⟩ := uM HR0_1.out x34_1 p163 q163; cases e163; replace zOF := (HB.out.cell (World.block_lt_of_cell? w _ zOF)).trans zOF; replace zOE := (HB.out.cell (World.block_lt_of_cell? w _ zOE)).trans zOE; replace zOD := (HB.out.cell (World.block_lt_of_cell? w _ zOD)).trans zOD; replace p163 := eq_true p163; replace q163 := eq_true q163; go_upto_region 8 with (first | ((with_reducible refine wF (N := 14) rfl ?_); refine wA ?hg (N := 14) ?hd (cs := #[.int .i64 0, .int .i64 0, .int .i64 0]) (t := 26) ?hr ?_; (case hd => rfl); (case hg => rfl); (case hr => first | (go_simp; done) | (go_simp; rfl)); intro zBN hg w24 hbox hb; have n0_ := zA.mk (zG (bG jS.out) hb); have n1_ := zA.mk (zG (bG uH.out) hb); have n2_ := zA.mk (zG (bG kM.out) hb); have n3_ := zA.mk (zF (eG HB.out) hb); have n4_ := zA.mk (hbox); have n5_ := zA.mk ((by rw [hg]; exact (zE (eG HB.out)) : w.heap.size ≤ zBN)); have n6_ := zA.mk ((by rw [hg]; exact (zE (eG HB.out)) : w.heap.size ≤ zBN)); have n7_ := zA.mk ((by rw [hg]; exact Nat.ne_of_lt (wC (bG jS.out)) : zDG ≠ zBN)); have n8_ := zA.mk ((by rw [hg]; exact Nat.ne_of_gt (wC (bG jS.out)) : zBN ≠ zDG)); have n9_ := zA.mk ((by rw [hg]; exact Nat.ne_of_lt (wC (bG uH.out)) : zBO ≠ zBN)); have n10_ := zA.mk ((by rw [hg]; exact Nat.ne_of_gt (wC (bG uH.out)) : zBN ≠ zBO)); have n11_ := zA.mk ((by rw [hg]; exact Nat.ne_of_lt (wC (bG kM.out)) : zDK ≠ zBN)); have n12_ := zA.mk ((by rw [hg]; exact Nat.ne_of_gt (wC (bG kM.out)) : zBN ≠ zDK)); clear jS; clear uH; clear kM; clear HB; have jS := n0_; have uH := n1_; have kM := n2_; have HB := n3_; have kK := n4_; have GW164 := n5_; have GE164 := n6_; have ig164_ := geI GE164; have jQ := n7_; have zEB := n8_; have jP := n9_; have zEA := n10_; have jO := n11_; have zDZ := n12_; clear n0_ n1_ n2_ n3_ n4_ n5_ n6_ n7_ n8_ n9_ n10_ n11_ n12_; clear hb hbox hg; have hnb25 := zEB.out; have hnc25 := jQ.out; have hnb26 := zEA.out; have hnc26 := jP.out; have hnb27 := zDZ.out; have hnc27 := jO.out; have zUK : w24.cell? ⟨zBN, 0, none⟩ = some (.int .i64 0) := (zC kK.out 0).trans rfl; have zUJ : w24.cell? ⟨zBN, 1, none⟩ = some (.int .i64 0) := (zC kK.out 1).trans rfl; have zUI : w24.cell? ⟨zBN, 2, none⟩ = some (.int .i64 0) := (zC kK.out 2).trans rfl; have zTI := zB kK.out 0; have zTH := zB kK.out 1; have zTG := zB kK.out 2))
       (try simp only [Act.put, sIA, sC0, sCS])
       go_cut [59] (fun v59 wc => ∃ (kq : Nat) (x59_22 : Bool), v59 = .bool x59_22 ∧ zA (wT.j1 kq a1 a2 a3 x12_1 l0_1 (l0_1.length : Int) x34_1 x59_22 yN yM yA ((zH l0_1 x34_1).f0) ((zH l0_1 x34_1).f1) ((zH l0_1 x34_1).f2) = some (r1, r2, r3, r4)) ∧ zA (kq ≤ k1) ∧ zA (wc.heap[zDG]? = some (.cells #[.int .i64 a0_0, (.slice (some ad163) l0_1.length c0_1)] 24 (0, 0))) ∧ zA (wc.heap[zBO]? = some (.cells #[.int .i64 0, .int .i64 0, .int .i64 0] 26 (0, 0))) ∧ zA (wc.heap[zDK]? = some (.cells #[.int .i64 yN, .int .i64 yM, .int .i64 yA] 26 (0, 0))) ∧ zA (wc.heap[zBN]? = some (.cells #[.int .i64 ((zH l0_1 x34_1).f0), .int .i64 ((zH l0_1 x34_1).f1), .int .i64 ((zH l0_1 x34_1).f2)] 26 (0, 0))) ∧ zA (Below w.heap.size w wc))
       case first =>
        have H := HC23.out; clear HC23; by_cases c29 : ((zH l0_1 x34_1).f0) = a1
        ·
         rw [if_pos c29] at H; have c29b0 : (((zH l0_1 x34_1).f0) == a1) = true := beq_iff_eq.mpr c29; have c29b1 : (((zH l0_1 x34_1).f0) != a1) = false := bne_eq_false_iff_eq.mpr c29; clear c29; (first | rw [c29b0] | (simp only [wJ, wK]; rw [c29b0]) | skip)
         replace H := Option.bind_eq_some_iff.mp H; obtain ⟨t165, A300, H⟩ := H; replace H : (if t165 = true then (if x12_1 = true then (wT.j1 k1 a1 a2 a3 x12_1 l0_1 (l0_1.length : Int) x34_1 (decide (((zH l0_1 x34_1).f2) > yA)) yN yM yA ((zH l0_1 x34_1).f0) ((zH l0_1 x34_1).f1) ((zH l0_1 x34_1).f2)) else (wT.j1 k1 a1 a2 a3 x12_1 l0_1 (l0_1.length : Int) x34_1 true yN yM yA ((zH l0_1 x34_1).f0) ((zH l0_1 x34_1).f1) ((zH l0_1 x34_1).f2))) else (wT.j1 k1 a1 a2 a3 x12_1 l0_1 (l0_1.length : Int) x34_1 false yN yM yA ((zH l0_1 x34_1).f0) ((zH l0_1 x34_1).f1) ((zH l0_1 x34_1).f2))) = some (r1, r2, r3, r4) := H; have A30 := zA.mk A300; clear A300; by_cases c31 : t165 = true
         ·
          subst c31; replace H : (if x12_1 = true then (wT.j1 k1 a1 a2 a3 x12_1 l0_1 (l0_1.length : Int) x34_1 (decide (((zH l0_1 x34_1).f2) > yA)) yN yM yA ((zH l0_1 x34_1).f0) ((zH l0_1 x34_1).f1) ((zH l0_1 x34_1).f2)) else (wT.j1 k1 a1 a2 a3 x12_1 l0_1 (l0_1.length : Int) x34_1 true yN yM yA ((zH l0_1 x34_1).f0) ((zH l0_1 x34_1).f1) ((zH l0_1 x34_1).f2))) = some (r1, r2, r3, r4) := by rw [if_pos rfl] at H; exact H
          by_cases c32 : x12_1 = true
          ·
           subst c32; replace H : (wT.j1 k1 a1 a2 a3 true l0_1 (l0_1.length : Int) x34_1 (decide (((zH l0_1 x34_1).f2) > yA)) yN yM yA ((zH l0_1 x34_1).f0) ((zH l0_1 x34_1).f1) ((zH l0_1 x34_1).f2)) = some (r1, r2, r3, r4) := by rw [if_pos rfl] at H; exact H
           have H' := zA.mk H; clear H; have hnb33 := zEB.out; have hnc33 := jQ.out; have hnb34 := zEA.out; have hnc34 := jP.out; have hnb35 := zDZ.out; have hnc35 := jO.out; have hcz36_0 : w24.cell? ⟨zBN, 0, none⟩ = some (.int .i64 0) := (zC kK.out 0).trans rfl; have hcz36_1 : w24.cell? ⟨zBN, 1, none⟩ = some (.int .i64 0) := (zC kK.out 1).trans rfl; have hcz36_2 : w24.cell? ⟨zBN, 2, none⟩ = some (.int .i64 0) := (zC kK.out 2).trans rfl; have hfz36_0 := zB kK.out 0; have hfz36_1 := zB kK.out 1; have hfz36_2 := zB kK.out 2; go_wp2_with (first | (go_at_call 35; (with_reducible refine (zR.calls ((zH l0_1 x34_1).f1) a2 a3 true _ A30.out).mono ?_); rintro e w' ⟨rfl, ⟨nd, rfl⟩⟩; have hnb37 := zIY.out; have hnc37 := zAO.out; have hnb38 := zFY.out; have hnc38 := zAD.out; have zUE : w24.cell? ⟨zDK, 0, none⟩ = some (.int .i64 yN) := (zC kM.out 0).trans rfl; have zUD : w24.cell? ⟨zDK, 1, none⟩ = some (.int .i64 yM) := (zC kM.out 1).trans rfl; have zZY : w24.cell? ⟨zDK, 2, none⟩ = some (.int .i64 yA) := (zC kM.out 2).trans rfl; have zTC := zB kM.out 0; have zTB := zB kM.out 1; have zZE := zB kM.out 2))
           go_meet
           case rel => exact ⟨_, (decide (((zH l0_1 x34_1).f2) > yA)), (by first | rfl | (simp; done) | (simp [*]; done)), H', ⟨by have := HK1.out; first | omega | exact Nat.le_refl _⟩, ⟨by (with_reducible repeat first | apply bN | apply bD | apply bA); refine zV ?_ jQ.out _; (with_reducible repeat first | apply bN | apply bD | apply bA); refine zV ?_ jQ.out _; (with_reducible repeat first | apply bN | apply bD | apply bA); refine zV ?_ jQ.out _; (with_reducible repeat first | apply bN | apply bD | apply bA); exact jS.out⟩, ⟨by (with_reducible repeat first | apply bN | apply bD | apply bA); refine zV ?_ jP.out _; (with_reducible repeat first | apply bN | apply bD | apply bA); refine zV ?_ jP.out _; (with_reducible repeat first | apply bN | apply bD | apply bA); refine zV ?_ jP.out _; (with_reducible repeat first | apply bN | apply bD | apply bA); exact uH.out⟩, ⟨by (with_reducible repeat first | apply bN | apply bD | apply bA); refine zV ?_ jO.out _; (with_reducible repeat first | apply bN | apply bD | apply bA); refine zV ?_ jO.out _; (with_reducible repeat first | apply bN | apply bD | apply bA); refine zV ?_ jO.out _; (with_reducible repeat first | apply bN | apply bD | apply bA); exact kM.out⟩, ⟨by (with_reducible repeat first | apply bN | apply bD | apply bA); refine wE (cs := #[.int .i64 ((zH l0_1 x34_1).f0), .int .i64 ((zH l0_1 x34_1).f1), .int .i64 0]) ?_ 2 _ rfl; (with_reducible repeat first | apply bN | apply bD | apply bA); refine wE (cs := #[.int .i64 ((zH l0_1 x34_1).f0), .int .i64 0, .int .i64 0]) ?_ 1 _ rfl; (with_reducible repeat first | apply bN | apply bD | apply bA); refine wE (cs := #[.int .i64 0, .int .i64 0, .int .i64 0]) ?_ 0 _ rfl; (with_reducible repeat first | apply bN | apply bD | apply bA); exact kK.out⟩, ⟨eG HB.out⟩⟩
          ·
           replace c32 := Bool.eq_false_iff.mpr c32; subst c32; replace H : (wT.j1 k1 a1 a2 a3 false l0_1 (l0_1.length : Int) x34_1 true yN yM yA ((zH l0_1 x34_1).f0) ((zH l0_1 x34_1).f1) ((zH l0_1 x34_1).f2)) = some (r1, r2, r3, r4) := by rw [if_neg (show ¬ (false = true) by decide)] at H; exact H
           have H' := zA.mk H; clear H; have hnb40 := zEB.out; have hnc40 := jQ.out; have hnb41 := zEA.out; have hnc41 := jP.out; have hnb42 := zDZ.out; have hnc42 := jO.out; have hcz43_0 : w24.cell? ⟨zBN, 0, none⟩ = some (.int .i64 0) := (zC kK.out 0).trans rfl; have hcz43_1 : w24.cell? ⟨zBN, 1, none⟩ = some (.int .i64 0) := (zC kK.out 1).trans rfl; have hcz43_2 : w24.cell? ⟨zBN, 2, none⟩ = some (.int .i64 0) := (zC kK.out 2).trans rfl; have hfz43_0 := zB kK.out 0; have hfz43_1 := zB kK.out 1; have hfz43_2 := zB kK.out 2; go_wp2_with (first | (go_at_call 35; (with_reducible refine (zR.calls ((zH l0_1 x34_1).f1) a2 a3 true _ A30.out).mono ?_); rintro e w' ⟨rfl, ⟨nd, rfl⟩⟩))
           go_meet
           case rel => exact ⟨_, (true), (by first | rfl | (simp; done) | (simp [*]; done)), H', ⟨by have := HK1.out; first | omega | exact Nat.le_refl _⟩, ⟨by (with_reducible repeat first | apply bN | apply bD | apply bA); refine zV ?_ jQ.out _; (with_reducible repeat first | apply bN | apply bD | apply bA); refine zV ?_ jQ.out _; (with_reducible repeat first | apply bN | apply bD | apply bA); refine zV ?_ jQ.out _; (with_reducible repeat first | apply bN | apply bD | apply bA); exact jS.out⟩, ⟨by (with_reducible repeat first | apply bN | apply bD | apply bA); refine zV ?_ jP.out _; (with_reducible repeat first | apply bN | apply bD | apply bA); refine zV ?_ jP.out _; (with_reducible repeat first | apply bN | apply bD | apply bA); refine zV ?_ jP.out _; (with_reducible repeat first | apply bN | apply bD | apply bA); exact uH.out⟩, ⟨by (with_reducible repeat first | apply bN | apply bD | apply bA); refine zV ?_ jO.out _; (with_reducible repeat first | apply bN | apply bD | apply bA); refine zV ?_ jO.out _; (with_reducible repeat first | apply bN | apply bD | apply bA); refine zV ?_ jO.out _; (with_reducible repeat first | apply bN | apply bD | apply bA); exact kM.out⟩, ⟨by (with_reducible repeat first | apply bN | apply bD | apply bA); refine wE (cs := #[.int .i64 ((zH l0_1 x34_1).f0), .int .i64 ((zH l0_1 x34_1).f1), .int .i64 0]) ?_ 2 _ rfl; (with_reducible repeat first | apply bN | apply bD | apply bA); refine wE (cs := #[.int .i64 ((zH l0_1 x34_1).f0), .int .i64 0, .int .i64 0]) ?_ 1 _ rfl; (with_reducible repeat first | apply bN | apply bD | apply bA); refine wE (cs := #[.int .i64 0, .int .i64 0, .int .i64 0]) ?_ 0 _ rfl; (with_reducible repeat first | apply bN | apply bD | apply bA); exact kK.out⟩, ⟨eG HB.out⟩⟩
         ·
          replace c31 := Bool.eq_false_iff.mpr c31; subst c31; replace H : (wT.j1 k1 a1 a2 a3 x12_1 l0_1 (l0_1.length : Int) x34_1 false yN yM yA ((zH l0_1 x34_1).f0) ((zH l0_1 x34_1).f1) ((zH l0_1 x34_1).f2)) = some (r1, r2, r3, r4) := by rw [if_neg (show ¬ (false = true) by decide)] at H; exact H
          have H' := zA.mk H; clear H; have hnb44 := zEB.out; have hnc44 := jQ.out; have hnb45 := zEA.out; have hnc45 := jP.out; have hnb46 := zDZ.out; have hnc46 := jO.out; have hcz47_0 : w24.cell? ⟨zBN, 0, none⟩ = some (.int .i64 0) := (zC kK.out 0).trans rfl; have hcz47_1 : w24.cell? ⟨zBN, 1, none⟩ = some (.int .i64 0) := (zC kK.out 1).trans rfl; have hcz47_2 : w24.cell? ⟨zBN, 2, none⟩ = some (.int .i64 0) := (zC kK.out 2).trans rfl; have hfz47_0 := zB kK.out 0; have hfz47_1 := zB kK.out 1; have hfz47_2 := zB kK.out 2; go_wp2_with (first | (go_at_call 35; (with_reducible refine (zR.calls ((zH l0_1 x34_1).f1) a2 a3 false _ A30.out).mono ?_); rintro e w' ⟨rfl, ⟨nd, rfl⟩⟩))
          go_meet
          case rel => exact ⟨_, (false), (by first | rfl | (simp; done) | (simp [*]; done)), H', ⟨by have := HK1.out; first | omega | exact Nat.le_refl _⟩, ⟨by (with_reducible repeat first | apply bN | apply bD | apply bA); refine zV ?_ jQ.out _; (with_reducible repeat first | apply bN | apply bD | apply bA); refine zV ?_ jQ.out _; (with_reducible repeat first | apply bN | apply bD | apply bA); refine zV ?_ jQ.out _; (with_reducible repeat first | apply bN | apply bD | apply bA); exact jS.out⟩, ⟨by (with_reducible repeat first | apply bN | apply bD | apply bA); refine zV ?_ jP.out _; (with_reducible repeat first | apply bN | apply bD | apply bA); refine zV ?_ jP.out _; (with_reducible repeat first | apply bN | apply bD | apply bA); refine zV ?_ jP.out _; (with_reducible repeat first | apply bN | apply bD | apply bA); exact uH.out⟩, ⟨by (with_reducible repeat first | apply bN | apply bD | apply bA); refine zV ?_ jO.out _; (with_reducible repeat first | apply bN | apply bD | apply bA); refine zV ?_ jO.out _; (with_reducible repeat first | apply bN | apply bD | apply bA); refine zV ?_ jO.out _; (with_reducible repeat first | apply bN | apply bD | apply bA); exact kM.out⟩, ⟨by (with_reducible repeat first | apply bN | apply bD | apply bA); refine wE (cs := #[.int .i64 ((zH l0_1 x34_1).f0), .int .i64 ((zH l0_1 x34_1).f1), .int .i64 0]) ?_ 2 _ rfl; (with_reducible repeat first | apply bN | apply bD | apply bA); refine wE (cs := #[.int .i64 ((zH l0_1 x34_1).f0), .int .i64 0, .int .i64 0]) ?_ 1 _ rfl; (with_reducible repeat first | apply bN | apply bD | apply bA); refine wE (cs := #[.int .i64 0, .int .i64 0, .int .i64 0]) ?_ 0 _ rfl; (with_reducible repeat first | apply bN | apply bD | apply bA); exact kK.out⟩, ⟨eG HB.out⟩⟩
        ·
         rw [if_neg c29] at H; have c29b0 : (((zH l0_1 x34_1).f0) == a1) = false := beq_eq_false_iff_ne.mpr c29; have c29b1 : (((zH l0_1 x34_1).f0) != a1) = true := bne_iff_ne.mpr c29; (first | rw [c29b0] | (simp only [wJ, wK]; rw [c29b0]) | skip)
         have H' := zA.mk H; clear H; have hnb48 := zEB.out; have hnc48 := jQ.out; have hnb49 := zEA.out; have hnc49 := jP.out; have hnb50 := zDZ.out; have hnc50 := jO.out; have hcz51_0 : w24.cell? ⟨zBN, 0, none⟩ = some (.int .i64 0) := (zC kK.out 0).trans rfl; have hcz51_1 : w24.cell? ⟨zBN, 1, none⟩ = some (.int .i64 0) := (zC kK.out 1).trans rfl; have hcz51_2 : w24.cell? ⟨zBN, 2, none⟩ = some (.int .i64 0) := (zC kK.out 2).trans rfl; have hfz51_0 := zB kK.out 0; have hfz51_1 := zB kK.out 1; have hfz51_2 := zB kK.out 2; go_wp2; go_meet
         case rel => exact ⟨_, (false), (by first | rfl | (simp; done) | (simp [*]; done)), H', ⟨by have := HK1.out; first | omega | exact Nat.le_refl _⟩, ⟨by (with_reducible repeat first | apply bN | apply bD | apply bA); refine zV ?_ jQ.out _; (with_reducible repeat first | apply bN | apply bD | apply bA); refine zV ?_ jQ.out _; (with_reducible repeat first | apply bN | apply bD | apply bA); refine zV ?_ jQ.out _; (with_reducible repeat first | apply bN | apply bD | apply bA); exact jS.out⟩, ⟨by (with_reducible repeat first | apply bN | apply bD | apply bA); refine zV ?_ jP.out _; (with_reducible repeat first | apply bN | apply bD | apply bA); refine zV ?_ jP.out _; (with_reducible repeat first | apply bN | apply bD | apply bA); refine zV ?_ jP.out _; (with_reducible repeat first | apply bN | apply bD | apply bA); exact uH.out⟩, ⟨by (with_reducible repeat first | apply bN | apply bD | apply bA); refine zV ?_ jO.out _; (with_reducible repeat first | apply bN | apply bD | apply bA); refine zV ?_ jO.out _; (with_reducible repeat first | apply bN | apply bD | apply bA); refine zV ?_ jO.out _; (with_reducible repeat first | apply bN | apply bD | apply bA); exact kM.out⟩, ⟨by (with_reducible repeat first | apply bN | apply bD | apply bA); refine wE (cs := #[.int .i64 ((zH l0_1 x34_1).f0), .int .i64 ((zH l0_1 x34_1).f1), .int .i64 0]) ?_ 2 _ rfl; (with_reducible repeat first | apply bN | apply bD | apply bA); refine wE (cs := #[.int .i64 ((zH l0_1 x34_1).f0), .int .i64 0, .int .i64 0]) ?_ 1 _ rfl; (with_reducible repeat first | apply bN | apply bD | apply bA); refine wE (cs := #[.int .i64 0, .int .i64 0, .int .i64 0]) ?_ 0 _ rfl; (with_reducible repeat first | apply bN | apply bD | apply bA); exact kK.out⟩, ⟨eG HB.out⟩⟩
       case rest =>
        clear HC23; repeat first | clear c1 | clear p1 | clear q1 | clear hx1 | clear c2 | clear p2 | clear c3 | clear c4 | clear c5 | clear c6 | clear c6b0 | clear c6b1 | clear c10 | clear c16 | clear p16 | clear q16 | clear hx16 | clear c17 | clear c20 | clear c20b0 | clear c21 | clear c21b0 | clear c22 | clear c22b0 | clear c25 | clear c26 | clear c27 | clear c29 | clear c29b0 | clear c29b1 | clear c31 | clear c32 | clear c33 | clear c34 | clear c35 | clear c37 | clear c38 | clear c40 | clear c41 | clear c42 | clear c44 | clear c45 | clear c46 | clear c48 | clear c49 | clear c50 | clear zHN | clear zHM | clear zUQ | clear zUP | clear zHL | clear zHK | clear zPJ | clear zLK | clear zLJ | clear zUK | clear zUJ | clear zUI | clear hcz36_0 | clear hcz36_1 | clear hcz36_2 | clear zUE | clear zUD | clear zZY | clear hcz43_0 | clear hcz43_1 | clear hcz43_2 | clear hcz47_0 | clear hcz47_1 | clear hcz47_2 | clear hcz51_0 | clear hcz51_1 | clear hcz51_2 | clear zHH | clear zHG | clear zTO | clear zTN | clear zHF | clear zHE | clear zOS | clear zLD | clear zLC | clear zTI | clear zTH | clear zTG | clear hfz36_0 | clear hfz36_1 | clear hfz36_2 | clear zTC | clear zTB | clear zZE | clear hfz43_0 | clear hfz43_1 | clear hfz43_2 | clear hfz47_0 | clear hfz47_1 | clear hfz47_2 | clear hfz51_0 | clear hfz51_1 | clear hfz51_2 | clear zOF | clear zOE | clear zOD | clear p163 | clear p2 | clear q163
        obtain ⟨kq, x59_22, rfl, HA, HJ22, jS, uH, kM, kK, HB⟩ := hcut
        cases kq with
        | zero => exact absurd HA.out (by simp [wT.j1])
        | succ kj22 =>
         have H := HA.out; clear HA; simp only [wT.j1] at H; by_cases c52 : x59_22 = true
         ·
          subst c52; replace H : (wT.l0 kj22 a1 a2 a3 true l0_1 (l0_1.length : Int) (wrap64 (x34_1 + 1)) ((zH l0_1 x34_1).f0) ((zH l0_1 x34_1).f1) ((zH l0_1 x34_1).f2)) = some (r1, r2, r3, r4) := by rw [if_pos rfl] at H; exact H
          have H' := zA.mk H; clear H; have hnb53 := zEB.out; have hnc53 := jQ.out; have hnb54 := zEA.out; have hnc54 := jP.out; have hnb55 := zDZ.out; have hnc55 := jO.out; have zLI : wc.cell? ⟨zBN, 0, none⟩ = some (.int .i64 ((zH l0_1 x34_1).f0)) := (zC kK.out 0).trans rfl; have zLH : wc.cell? ⟨zBN, 1, none⟩ = some (.int .i64 ((zH l0_1 x34_1).f1)) := (zC kK.out 1).trans rfl; have hcz56_2 : wc.cell? ⟨zBN, 2, none⟩ = some (.int .i64 ((zH l0_1 x34_1).f2)) := (zC kK.out 2).trans rfl; have zLB := zB kK.out 0; have zLA := zB kK.out 1; have hfz56_2 := zB kK.out 2; have hnb57 := zIY.out; have hnc57 := zAO.out; have hnb58 := zFY.out; have hnc58 := zAD.out; have hcz59_0 : wc.cell? ⟨zDK, 0, none⟩ = some (.int .i64 yN) := (zC kM.out 0).trans rfl; have hcz59_1 : wc.cell? ⟨zDK, 1, none⟩ = some (.int .i64 yM) := (zC kM.out 1).trans rfl; have hcz59_2 : wc.cell? ⟨zDK, 2, none⟩ = some (.int .i64 yA) := (zC kM.out 2).trans rfl; have hfz59_0 := zB kM.out 0; have hfz59_1 := zB kM.out 1; have hfz59_2 := zB kM.out 2; go_wp2; go_roundg kj22
          case measure => have := HK1.out; have := HJ22.out; omega
          case rel => exact ⟨(true), (wrap64 (x34_1 + 1)), (((zH l0_1 x34_1).f0)), (((zH l0_1 x34_1).f1)), (((zH l0_1 x34_1).f2)), (by first | rfl | (simp; done) | (simp [*]; done)), (by first | rfl | (simp; done) | (simp [*]; done)), H', ⟨by have := HK1.out; have := HJ22.out; omega⟩, ⟨by (with_reducible repeat first | apply bN | apply bD | apply bA); refine zV ?_ zAO.out _; (with_reducible repeat first | apply bN | apply bD | apply bA); refine zV ?_ zAO.out _; (with_reducible repeat first | apply bN | apply bD | apply bA); refine zV ?_ zAO.out _; (with_reducible repeat first | apply bN | apply bD | apply bA); exact jS.out⟩, ⟨by (with_reducible repeat first | apply bN | apply bD | apply bA); refine zV ?_ zAD.out _; (with_reducible repeat first | apply bN | apply bD | apply bA); refine zV ?_ zAD.out _; (with_reducible repeat first | apply bN | apply bD | apply bA); refine zV ?_ zAD.out _; (with_reducible repeat first | apply bN | apply bD | apply bA); exact uH.out⟩, ⟨by (with_reducible repeat first | apply bN | apply bD | apply bA); refine wE (cs := #[.int .i64 ((zH l0_1 x34_1).f0), .int .i64 ((zH l0_1 x34_1).f1), .int .i64 yA]) ?_ 2 _ rfl; (with_reducible repeat first | apply bN | apply bD | apply bA); refine wE (cs := #[.int .i64 ((zH l0_1 x34_1).f0), .int .i64 yM, .int .i64 yA]) ?_ 1 _ rfl; (with_reducible repeat first | apply bN | apply bD | apply bA); refine wE (cs := #[.int .i64 yN, .int .i64 yM, .int .i64 yA]) ?_ 0 _ rfl; (with_reducible repeat first | apply bN | apply bD | apply bA); exact kM.out⟩, ⟨eG HB.out⟩⟩
         ·
          replace c52 := Bool.eq_false_iff.mpr c52; subst c52; replace H : (wT.l0 kj22 a1 a2 a3 x12_1 l0_1 (l0_1.length : Int) (wrap64 (x34_1 + 1)) yN yM yA) = some (r1, r2, r3, r4) := by rw [if_neg (show ¬ (false = true) by decide)] at H; exact H
          have H' := zA.mk H; clear H; go_wp2; go_roundg kj22
          case measure => have := HK1.out; have := HJ22.out; omega
          case rel => exact ⟨(x12_1), (wrap64 (x34_1 + 1)), (yN), (yM), (yA), (by first | rfl | (simp; done) | (simp [*]; done)), (by first | rfl | (simp; done) | (simp [*]; done)), H', ⟨by have := HK1.out; have := HJ22.out; omega⟩, ⟨by (with_reducible repeat first | apply bN | apply bD | apply bA); exact jS.out⟩, ⟨by (with_reducible repeat first | apply bN | apply bD | apply bA); exact uH.out⟩, ⟨by (with_reducible repeat first | apply bN | apply bD | apply bA); exact kM.out⟩, ⟨eG HB.out⟩⟩
      · rw [if_neg c22] at H; exact absurd H (by simp)
     · rw [if_neg c21] at H; exact absurd H (by simp)
    ·
     rw [if_neg c20] at H; have c20b0 : decide (x34_1 < (l0_1.length : Int)) = false := decide_eq_false c20; clear c20; by_cases c60 : x12_1 = true
     ·
      subst c60; replace H : (some (yN, yM, yA, 0)) = some (r1, r2, r3, r4) := by rw [if_pos rfl] at H; exact H
      simp only [Option.some.injEq, Prod.mk.injEq] at H; obtain ⟨rfl, rfl, rfl, rfl⟩ := H; have hnb61 := zIY.out; have hnc61 := zAO.out; have hnb62 := zFY.out; have hnc62 := zAD.out; have zPE : wr.cell? ⟨zDK, 0, none⟩ = some (.int .i64 yN) := (zC kM.out 0).trans rfl; have zPD : wr.cell? ⟨zDK, 1, none⟩ = some (.int .i64 yM) := (zC kM.out 1).trans rfl; have hcz63_2 : wr.cell? ⟨zDK, 2, none⟩ = some (.int .i64 yA) := (zC kM.out 2).trans rfl; have zON := zB kM.out 0; have zOM := zB kM.out 1; have hfz63_2 := zB kM.out 2; have hnb64 := zFZ.out; have hnc64 := zGA.out; have hcz65_0 : wr.cell? ⟨zBO, 0, none⟩ = some (.int .i64 0) := (zC uH.out 0).trans rfl; have hcz65_1 : wr.cell? ⟨zBO, 1, none⟩ = some (.int .i64 0) := (zC uH.out 1).trans rfl; have hcz65_2 : wr.cell? ⟨zBO, 2, none⟩ = some (.int .i64 0) := (zC uH.out 2).trans rfl; have hfz65_0 := zB uH.out 0; have hfz65_1 := zB uH.out 1; have hfz65_2 := zB uH.out 2; go_wp2; refine bodyPost_ret (jE rfl _ _ zBO 26 #[.int .i64 yN, .int .i64 yM, .int .i64 yA] (0, 0) _ rfl (by (with_reducible repeat first | apply bN | apply bD | apply bA); refine wE (cs := #[.int .i64 yN, .int .i64 yM, .int .i64 0]) ?_ 2 _ rfl; (with_reducible repeat first | apply bN | apply bD | apply bA); refine wE (cs := #[.int .i64 yN, .int .i64 0, .int .i64 0]) ?_ 1 _ rfl; (with_reducible repeat first | apply bN | apply bD | apply bA); refine wE (cs := #[.int .i64 0, .int .i64 0, .int .i64 0]) ?_ 0 _ rfl; (with_reducible repeat first | apply bN | apply bD | apply bA); exact uH.out) Tryz.underlying26 rfl (by kernel_rfl)) rfl ?_; exact ⟨by first | rfl | (simp [zN, zM] <;> rfl) | (simp [*, zN, zM] <;> rfl), eG HB.out⟩
     ·
      replace c60 := Bool.eq_false_iff.mpr c60; subst c60; replace H : (some (0, 0, 0, 7)) = some (r1, r2, r3, r4) := by rw [if_neg (show ¬ (false = true) by decide)] at H; exact H
      simp only [Option.some.injEq, Prod.mk.injEq] at H; obtain ⟨rfl, rfl, rfl, rfl⟩ := H; have hnb66 := zFZ.out; have hnc66 := zGA.out; have hnb67 := zAD.out; have hnc67 := zFY.out; have hcz68_0 : wr.cell? ⟨zBO, 0, none⟩ = some (.int .i64 0) := (zC uH.out 0).trans rfl; have hcz68_1 : wr.cell? ⟨zBO, 1, none⟩ = some (.int .i64 0) := (zC uH.out 1).trans rfl; have hcz68_2 : wr.cell? ⟨zBO, 2, none⟩ = some (.int .i64 0) := (zC uH.out 2).trans rfl; have hfz68_0 := zB uH.out 0; have hfz68_1 := zB uH.out 1; have hfz68_2 := zB uH.out 2; go_wp2; refine bodyPost_ret (jE rfl _ _ zBO 26 #[.int .i64 0, .int .i64 0, .int .i64 0] (0, 0) _ rfl (by (with_reducible repeat first | apply bN | apply bD | apply bA); refine wE (cs := #[.int .i64 0, .int .i64 0, .int .i64 0]) ?_ 2 _ rfl; (with_reducible repeat first | apply bN | apply bD | apply bA); refine wE (cs := #[.int .i64 0, .int .i64 0, .int .i64 0]) ?_ 1 _ rfl; (with_reducible repeat first | apply bN | apply bD | apply bA); refine wE (cs := #[.int .i64 0, .int .i64 0, .int .i64 0]) ?_ 0 _ rfl; (with_reducible repeat first | apply bN | apply bD | apply bA); exact uH.out) Tryz.underlying26 rfl (by kernel_rfl)) rfl ?_; exact ⟨by first | rfl | (simp [zN, zM] <;> rfl) | (simp [*, zN, zM] <;> rfl), eG HB.out⟩
 ·
  rw [if_neg c6] at H; have c6b0 : (t157 == 0) = false := beq_eq_false_iff_ne.mpr c6; have c6b1 : (t157 != 0) = true := bne_iff_ne.mpr c6; simp only [Option.some.injEq, Prod.mk.injEq] at H; obtain ⟨rfl, rfl, rfl, rfl⟩ := H; go_enter Tryz.func21, Tryz.ntmps21
  go_wp2_with (first | ((with_reducible refine wF (N := 4) rfl ?_); refine wA ?hg (N := 4) ?hd (cs := #[.int .i64 a0_0, .slice A0_1 l0_1.length c0_1]) (t := 24) ?hr ?_; (case hd => rfl); (case hg => rfl); (case hr => first | (go_simp; done) | (go_simp; rfl)); intro zDG hg w69 hbox hb; have n0_ := zA.mk (zF (eG HB.out) hb); have n1_ := zA.mk (hbox); have n2_ := zA.mk ((by rw [hg]; exact (zE (eG HB.out)) : w.heap.size ≤ zDG)); have n3_ := zA.mk ((by rw [hg]; exact (zE (eG HB.out)) : w.heap.size ≤ zDG)); clear HB; have HB := n0_; have jS := n1_; have GW155 := n2_; have GE155 := n3_; have ig155_ := geI GE155; clear n0_ n1_ n2_ n3_; clear hb hbox hg) | ((with_reducible refine wF (N := 8) rfl ?_); refine wA ?hg (N := 8) ?hd (cs := #[.int .i64 0, .int .i64 0, .int .i64 0]) (t := 26) ?hr ?_; (case hd => rfl); (case hg => rfl); (case hr => first | (go_simp; done) | (go_simp; rfl)); intro zBO hg w70 hbox hb; have n0_ := zA.mk (zG (bG jS.out) hb); have n1_ := zA.mk (zF (eG HB.out) hb); have n2_ := zA.mk (hbox); have n3_ := zA.mk ((by rw [hg]; exact (zE (eG HB.out)) : w.heap.size ≤ zBO)); have n4_ := zA.mk ((by rw [hg]; exact (zE (eG HB.out)) : w.heap.size ≤ zBO)); have n5_ := zA.mk ((by rw [hg]; exact Nat.ne_of_lt (wC (bG jS.out)) : zDG ≠ zBO)); have n6_ := zA.mk ((by rw [hg]; exact Nat.ne_of_gt (wC (bG jS.out)) : zBO ≠ zDG)); clear jS; clear HB; have jS := n0_; have HB := n1_; have uH := n2_; have GW156 := n3_; have GE156 := n4_; have ig156_ := geI GE156; have zGA := n5_; have zFZ := n6_; clear n0_ n1_ n2_ n3_ n4_ n5_ n6_; clear hb hbox hg; have hnb71 := zGA.out; have hnc71 := zFZ.out; have hcz72_0 : w70.cell? ⟨zDG, 0, none⟩ = some (.int .i64 a0_0) := (zC jS.out 0).trans rfl; have hcz72_1 : w70.cell? ⟨zDG, 1, none⟩ = some (.slice A0_1 l0_1.length c0_1) := (zC jS.out 1).trans rfl; have hfz72_0 := zB jS.out 0; have hfz72_1 := zB jS.out 1) | ((with_reducible refine zQ (f := 48) rfl ?_); refine vB (some 19) rfl rfl Tryz.func48 (by kernel_rfl) rfl #[.agg #[.int .i64 a0_0, .slice A0_1 l0_1.length c0_1], .int .i64 a1, .int .i64 a2, .int .i64 a3] rfl (by (try simp only [List.map_toArray, List.map_cons, List.map_nil]); first | done | rfl | (simp only [List.length_drop, List.length_take]; rfl)) ?_; (with_reducible refine (vH.calls k a0_0 _ _ l0_1 a1 a2 a3 t157 _ ?side1 ?side2 A5.out).mono ?_); (case side1 => repeat (first | exact (Kd.qW HR0_1.out HB.out) | (with_reducible refine Kd.vZ ?_ _) | (with_reducible refine Kd.vY ?_ _) | (with_reducible refine Kd.qU ?_))); (case side2 => exact HC0_1.out); rintro e w73 ⟨rfl, hb⟩; refine ⟨_, rfl, ?_⟩; have n0_ := zA.mk (zG (bG jS.out) hb); have n1_ := zA.mk (zG (bG uH.out) hb); have n2_ := zA.mk (zF (eG HB.out) hb); clear jS; clear uH; clear HB; have jS := n0_; have uH := n1_; have HB := n2_; clear n0_ n1_ n2_; (try clear hb); (try clear hb2); (try clear hk); (try clear hi); have zLG : w73.cell? ⟨zBO, 0, none⟩ = some (.int .i64 0) := (zC uH.out 0).trans rfl; have zLF : w73.cell? ⟨zBO, 1, none⟩ = some (.int .i64 0) := (zC uH.out 1).trans rfl; have hcz74_2 : w73.cell? ⟨zBO, 2, none⟩ = some (.int .i64 0) := (zC uH.out 2).trans rfl; have zKZ := zB uH.out 0; have zKY := zB uH.out 1; have hfz74_2 := zB uH.out 2))
  refine bodyPost_ret (jE rfl _ _ zBO 26 #[.int .i64 0, .int .i64 0, .int .i64 0] (0, 0) _ rfl (by (with_reducible repeat first | apply bN | apply bD | apply bA); refine wE (cs := #[.int .i64 0, .int .i64 0, .int .i64 0]) ?_ 2 _ rfl; (with_reducible repeat first | apply bN | apply bD | apply bA); refine wE (cs := #[.int .i64 0, .int .i64 0, .int .i64 0]) ?_ 1 _ rfl; (with_reducible repeat first | apply bN | apply bD | apply bA); refine wE (cs := #[.int .i64 0, .int .i64 0, .int .i64 0]) ?_ 0 _ rfl; (with_reducible repeat first | apply bN | apply bD | apply bA); exact uH.out) Tryz.underlying26 rfl (by kernel_rfl)) rfl ?_; exact ⟨by first | rfl | (simp [zN, zM] <;> rfl) | (simp [*, zN, zM] <;> rfl), eG HB.out⟩
def qF.l0 : Nat → Int → Int → Int → List Int → List (S26) → Int → Int → Option (List Int × Int)
 | 0, _, _, _, _, _, _, _ => none
 | k + 1, x1, x2, x3, x11, x23, x24, x25 => if x25 < x24 then (if 0 ≤ x25 then (if x25 < (x23.length : Int) then (if ((zH x23 x25).f0) = x1 then ((zR.f ((zH x23 x25).f1) x2 x3).bind fun t170 => (if t170 = true then (if x11.length < 17592186044416 then (qF.l0 k x1 x2 x3 (x11 ++ [(zH x23 x25).f1]) x23 x24 (wrap64 (x25 + 1))) else (none)) else (qF.l0 k x1 x2 x3 x11 x23 x24 (wrap64 (x25 + 1))))) else (qF.l0 k x1 x2 x3 x11 x23 x24 (wrap64 (x25 + 1)))) else (none)) else (none)) else (some (x11, 0))
def qF.f (k : Nat) (a0_0 : Int) (l0_1 : List (S26)) (a1 : Int) (a2 : Int) (a3 : Int) : Option (List Int × Int) := (vH.f k a0_0 l0_1 a1 a2 a3).bind fun t167 => (if t167 = 0 then (qF.l0 k a1 a2 a3 ([] : List Int) l0_1 (l0_1.length : Int) 0) else (some (([] : List Int), t167)))
set_option maxHeartbeats 8000000 in
set_option maxRecDepth 100000 in
theorem qF.calls (k : Nat) (a0_0 : Int) (A0_1 : Option Addr) (c0_1 : Nat) (l0_1 : List (S26)) (a1 : Int) (a2 : Int) (a3 : Int) (r1 : List Int) (r2 : Int) (w : World) (hr0_1 : Kd.C k26 w A0_1 l0_1.length l0_1) (uG : l0_1.length ≤ c0_1) (h : qF.f k a0_0 l0_1 a1 a2 a3 = some (r1, r2)) :
  Calls Tryz.prog 23 #[.agg #[.int .i64 a0_0, .slice A0_1 l0_1.length c0_1], .int .i64 a1, .int .i64 a2, .int .i64 a3] w fun e w' => ∃ v0_ : Value, e = .returned (.tuple #[v0_, .int .i64 r2]) ∧ Kd.R (Kd.int .i64) 3 w' w.heap.size (fun _ => True) v0_ r1 ∧ Below w.heap.size w w' := by
 have hu24 := Tryz.underlying24; have hu26 := Tryz.underlying26; have HR0_1 := zA.mk hr0_1; have HC0_1 := zA.mk uG; clear hr0_1 uG; have HB := zA.mk (Below.refl w.heap.size w); have H : ((vH.f k a0_0 l0_1 a1 a2 a3).bind fun t167 => (if t167 = 0 then (qF.l0 k a1 a2 a3 ([] : List Int) l0_1 (l0_1.length : Int) 0) else (some (([] : List Int), t167)))) = some (r1, r2) := h; clear h; replace H := Option.bind_eq_some_iff.mp H; obtain ⟨t167, A50, H⟩ := H; replace H : (if t167 = 0 then (qF.l0 k a1 a2 a3 ([] : List Int) l0_1 (l0_1.length : Int) 0) else (some (([] : List Int), t167))) = some (r1, r2) := H; have A5 := zA.mk A50; clear A50; by_cases c6 : t167 = 0
 ·
  rw [if_pos c6] at H; have c6b0 : (t167 == 0) = true := beq_iff_eq.mpr c6; have c6b1 : (t167 != 0) = false := bne_eq_false_iff_eq.mpr c6; clear c6; have H' := zA.mk H; clear H; go_enter Tryz.func23, Tryz.ntmps23
  go_wp2_with (first | ((with_reducible refine wF (N := 4) rfl ?_); refine wA ?hg (N := 4) ?hd (cs := #[.int .i64 a0_0, .slice A0_1 l0_1.length c0_1]) (t := 24) ?hr ?_; (case hd => rfl); (case hg => rfl); (case hr => first | (go_simp; done) | (go_simp; rfl)); intro zER hg w7 hbox hb; have n0_ := zA.mk (zF (eG HB.out) hb); have n1_ := zA.mk (hbox); have n2_ := zA.mk ((by rw [hg]; exact (zE (eG HB.out)) : w.heap.size ≤ zER)); have n3_ := zA.mk ((by rw [hg]; exact (zE (eG HB.out)) : w.heap.size ≤ zER)); clear HB; have HB := n0_; have kG := n1_; have GW166 := n2_; have GE166 := n3_; have ig166_ := geI GE166; clear n0_ n1_ n2_ n3_; clear hb hbox hg; have zFM : w7.cell? ⟨zER, 0, none⟩ = some (.int .i64 a0_0) := (zC kG.out 0).trans rfl; have zFL : w7.cell? ⟨zER, 1, none⟩ = some (.slice A0_1 l0_1.length c0_1) := (zC kG.out 1).trans rfl; have zFK := zB kG.out 0; have zFJ := zB kG.out 1) | ((with_reducible refine zQ (f := 48) rfl ?_); refine vB (some 18) rfl rfl Tryz.func48 (by kernel_rfl) rfl #[.agg #[.int .i64 a0_0, .slice A0_1 l0_1.length c0_1], .int .i64 a1, .int .i64 a2, .int .i64 a3] rfl (by (try simp only [List.map_toArray, List.map_cons, List.map_nil]); first | done | rfl | (simp only [List.length_drop, List.length_take]; rfl)) ?_; (with_reducible refine (vH.calls k a0_0 _ _ l0_1 a1 a2 a3 t167 _ ?side1 ?side2 A5.out).mono ?_); (case side1 => repeat (first | exact (Kd.qW HR0_1.out HB.out) | (with_reducible refine Kd.vZ ?_ _) | (with_reducible refine Kd.vY ?_ _) | (with_reducible refine Kd.qU ?_))); (case side2 => exact HC0_1.out); rintro e w9 ⟨rfl, hb⟩; refine ⟨_, rfl, ?_⟩; have n0_ := zA.mk (zG (bG kG.out) hb); have n1_ := zA.mk (zF (eG HB.out) hb); clear kG; clear HB; have kG := n0_; have HB := n1_; clear n0_ n1_; (try clear hb); (try clear hb2); (try clear hk); (try clear hi); have zCC : w9.cell? ⟨zER, 0, none⟩ = some (.int .i64 a0_0) := (zC kG.out 0).trans rfl; have zCB : w9.cell? ⟨zER, 1, none⟩ = some (.slice A0_1 l0_1.length c0_1) := (zC kG.out 1).trans rfl; have zCA := zB kG.out 0; have zBZ := zB kG.out 1))
  go_loopg [11, 25] k (fun kq v11 v25 w' => ∃ (x11_1 : List Int) (x25_1 : Int), v25 = .int .i64 x25_1 ∧ zA (qF.l0 kq a1 a2 a3 x11_1 l0_1 (l0_1.length : Int) x25_1 = some (r1, r2)) ∧ zA (kq ≤ k) ∧ zA (Kd.R (Kd.int .i64) 3 w' w.heap.size (fun _ => True) v11 x11_1) ∧ zA (w'.heap[zER]? = some (.cells #[.int .i64 a0_0, (.slice A0_1 l0_1.length c0_1)] 24 (0, 0))) ∧ zA (Below w.heap.size w w'))
  case atStart => exact ⟨(([] : List Int)), (0), (by first | rfl | (simp; done) | (simp [*]; done)), H', ⟨Nat.le_refl _⟩, ⟨by first | exact Kd.zHS _ _ _ _ _ | exact Kd.zMP _ _ _ _ _ | exact Kd.zML _ _ _ _ _ | exact Kd.zMO _ _ _ _ _ | exact Kd.zMN _ _ _ _ _⟩, ⟨by (with_reducible repeat first | apply bN | apply bD | apply bA); exact kG.out⟩, ⟨eG HB.out⟩⟩
  case round =>
   clear H'; repeat first | clear c2 | clear p2 | clear c4 | clear c6 | clear c6b0 | clear c6b1 | clear zCC | clear zCB | clear zFM | clear zFL | clear zCA | clear zBZ | clear zFK | clear zFJ
   obtain ⟨x11_1, x25_1, rfl, HA, HK1, zGN, kG, HB⟩ := hrel
   cases gk with
   | zero => exact absurd HA.out (by simp [qF.l0])
   | succ k1 =>
    have H := HA.out; clear HA; simp only [qF.l0] at H; by_cases c11 : x25_1 < (l0_1.length : Int)
    ·
     rw [if_pos c11] at H; have c11b0 : decide (x25_1 < (l0_1.length : Int)) = true := decide_eq_true c11; clear c11; by_cases c12 : 0 ≤ x25_1
     ·
      rw [if_pos c12] at H; have c12b0 : decide (0 ≤ x25_1) = true := decide_eq_true c12; clear c12; by_cases c13 : x25_1 < (l0_1.length : Int)
      ·
       rw [if_pos c13] at H; have c13b0 : decide (x25_1 < (l0_1.length : Int)) = true := decide_eq_true c13; clear c13; by_cases c14 : ((zH l0_1 x25_1).f0) = a1
       ·
        rw [if_pos c14] at H; have c14b0 : (((zH l0_1 x25_1).f0) == a1) = true := beq_iff_eq.mpr c14; have c14b1 : (((zH l0_1 x25_1).f0) != a1) = false := bne_eq_false_iff_eq.mpr c14; clear c14; replace H := Option.bind_eq_some_iff.mp H; obtain ⟨t170, A150, H⟩ := H; replace H : (if t170 = true then (if x11_1.length < 17592186044416 then (qF.l0 k1 a1 a2 a3 (x11_1 ++ [(zH l0_1 x25_1).f1]) l0_1 (l0_1.length : Int) (wrap64 (x25_1 + 1))) else (none)) else (qF.l0 k1 a1 a2 a3 x11_1 l0_1 (l0_1.length : Int) (wrap64 (x25_1 + 1)))) = some (r1, r2) := H; have A15 := zA.mk A150; clear A150; by_cases c16 : t170 = true
        ·
         subst c16; replace H : (if x11_1.length < 17592186044416 then (qF.l0 k1 a1 a2 a3 (x11_1 ++ [(zH l0_1 x25_1).f1]) l0_1 (l0_1.length : Int) (wrap64 (x25_1 + 1))) else (none)) = some (r1, r2) := by rw [if_pos rfl] at H; exact H
         by_cases c17 : x11_1.length < 17592186044416
         ·
          rw [if_pos c17] at H; have LMc17 := zA.mk c17; clear c17; obtain ⟨y171, hy171⟩ : ∃ y_ : List Int, y_ = (x11_1 ++ [(zH l0_1 x25_1).f1]) := ⟨_, rfl⟩; replace H : (qF.l0 k1 a1 a2 a3 y171 l0_1 (l0_1.length : Int) (wrap64 (x25_1 + 1))) = some (r1, r2) := by first | (rw [hy171]; with_reducible exact H) | (have H2_ := (Option.bind_some _ _).symm.trans H; rw [hy171]; with_reducible exact H2_) | (have H2_ := (Option.bind_some _ _).symm.trans H; with_reducible exact H2_) | with_reducible exact H | (rw [hy171]; exact H) | exact H
          have Ny171 := zA.mk hy171; clear hy171; have H' := zA.mk H; clear H; have p168 : 0 ≤ (x25_1 : Int) := of_decide_eq_true (by first | (with_reducible assumption) | assumption); have q168 : x25_1 < (l0_1.length : Int) := of_decide_eq_true (by first | (with_reducible assumption) | assumption); obtain ⟨ad168, e168, zCS, zCR, zCQ⟩ := uM HR0_1.out x25_1 p168 q168; cases e168; replace zCS := (HB.out.cell (World.block_lt_of_cell? w _ zCS)).trans zCS; replace zCR := (HB.out.cell (World.block_lt_of_cell? w _ zCR)).trans zCR; replace zCQ := (HB.out.cell (World.block_lt_of_cell? w _ zCQ)).trans zCQ; replace p168 := eq_true p168; replace q168 := eq_true q168; go_wp2_with (first | ((with_reducible refine wF (N := 13) rfl ?_); refine wA ?hg (N := 13) ?hd (cs := #[.int .i64 0, .int .i64 0, .int .i64 0]) (t := 26) ?hr ?_; (case hd => rfl); (case hg => rfl); (case hr => first | (go_simp; done) | (go_simp; rfl)); intro zAK hg w18 hbox hb; have n0_ := zA.mk (Kd.wB (by (with_reducible repeat (first | apply Kd.zT | apply Kd.zS | apply Kd.wD)); exact zGN.out) hb); have n1_ := zA.mk (zG (bG kG.out) hb); have n2_ := zA.mk (zF (eG HB.out) hb); have n3_ := zA.mk (hbox); have n4_ := zA.mk ((by rw [hg]; exact (zE (eG HB.out)) : w.heap.size ≤ zAK)); have n5_ := zA.mk ((by rw [hg]; exact (zE (eG HB.out)) : w.heap.size ≤ zAK)); have n6_ := zA.mk ((by rw [hg]; exact Nat.ne_of_lt (wC (bG kG.out)) : zER ≠ zAK)); have n7_ := zA.mk ((by rw [hg]; exact Nat.ne_of_gt (wC (bG kG.out)) : zAK ≠ zER)); clear zGN; clear kG; clear HB; have zGN := n0_; have kG := n1_; have HB := n2_; have zBP := n3_; have GW169 := n4_; have wBW := n5_; have ig169_ := geI wBW; have uW := n6_; have zFX := n7_; clear n0_ n1_ n2_ n3_ n4_ n5_ n6_ n7_; clear hb hbox hg; have hnb19 := zFX.out; have hnc19 := uW.out; have hcz20_0 : w18.cell? ⟨zAK, 0, none⟩ = some (.int .i64 0) := (zC zBP.out 0).trans rfl; have hcz20_1 : w18.cell? ⟨zAK, 1, none⟩ = some (.int .i64 0) := (zC zBP.out 1).trans rfl; have hcz20_2 : w18.cell? ⟨zAK, 2, none⟩ = some (.int .i64 0) := (zC zBP.out 2).trans rfl; have hfz20_0 := zB zBP.out 0; have hfz20_1 := zB zBP.out 1; have hfz20_2 := zB zBP.out 2) | (go_at_call 35; (with_reducible refine (zR.calls ((zH l0_1 x25_1).f1) a2 a3 true _ A15.out).mono ?_); rintro e w' ⟨rfl, ⟨nd, rfl⟩⟩) | ((with_reducible refine qA (b := .append) (xs := #[.tmp 40, .tmp 43]) rfl ?_); at_builtin; refine Kd.jF (Kd.int .i64) (w0 := w) w.heap.size rfl (.tmp 40) (.tmp 43) 40 3 (.int .i64 0) 8 rfl Tryz.underlying40 info3 rfl (by decide) (by omega) u11 x11_1 ((zH l0_1 x25_1).f1) [.int .i64 ((zH l0_1 x25_1).f1)] (fun _ => True) (fun _ => False) rfl (by first | (go_simp; done) | (go_simp; rfl)) ?aP (fun _ hk => hk.elim) ?aF ?aO ?aB ?aS ?aL ?_; (case aP => exact rfl); (case aB => exact (eG HB.out)); (case aF => exact (fun _ _ => trivial)); (case aO => exact (by (with_reducible repeat (first | apply Kd.zT | apply Kd.zS | apply Kd.wD)); exact Kd.wQ (Kd.wO (p := ⟨zAK, 2, none⟩) (Kd.wO (p := ⟨zAK, 1, none⟩) (Kd.wO (p := ⟨zAK, 0, none⟩) (Kd.vL zGN.out zBP.out (by decide)) (fun _ hk => hk.2) (.int .i64 ((zH l0_1 x25_1).f0))) (fun _ hk => hk.2) (.int .i64 ((zH l0_1 x25_1).f1))) (fun _ hk => hk.2) (.int .i64 ((zH l0_1 x25_1).f2))) (fun _ hk => trivial))); (case aS => exact (zE (eG HB.out))); (case aL => have := LMc17.out; omega); intro v172 w21 ho hb hg hat; rw [← Ny171.out] at ho; have n0_ := zA.mk (wZ (g := zER) (o := .cells #[.int .i64 a0_0, .slice (some ad168) l0_1.length c0_1] 24 (0, 0)) (by (with_reducible repeat first | apply bN | apply bD | apply bA); refine zV ?_ uW.out _; (with_reducible repeat first | apply bN | apply bD | apply bA); refine zV ?_ uW.out _; (with_reducible repeat first | apply bN | apply bD | apply bA); refine zV ?_ uW.out _; (with_reducible repeat first | apply bN | apply bD | apply bA); exact kG.out) hg (Kd.R_ne zGN.out kG.out (by decide))); have n1_ := zA.mk (wZ (g := zAK) (o := .cells #[.int .i64 ((zH l0_1 x25_1).f0), .int .i64 ((zH l0_1 x25_1).f1), .int .i64 ((zH l0_1 x25_1).f2)] 26 (0, 0)) (by (with_reducible repeat first | apply bN | apply bD | apply bA); refine wE (cs := #[.int .i64 ((zH l0_1 x25_1).f0), .int .i64 ((zH l0_1 x25_1).f1), .int .i64 0]) ?_ 2 _ rfl; (with_reducible repeat first | apply bN | apply bD | apply bA); refine wE (cs := #[.int .i64 ((zH l0_1 x25_1).f0), .int .i64 0, .int .i64 0]) ?_ 1 _ rfl; (with_reducible repeat first | apply bN | apply bD | apply bA); refine wE (cs := #[.int .i64 0, .int .i64 0, .int .i64 0]) ?_ 0 _ rfl; (with_reducible repeat first | apply bN | apply bD | apply bA); exact zBP.out) hg (Kd.R_ne zGN.out zBP.out (by decide))); have n2_ := zA.mk (hb); have n3_ := zA.mk (ho); clear kG; clear zBP; clear HB; clear zGN; have kG := n0_; have zBP := n1_; have HB := n2_; have HO173 := n3_; clear n0_ n1_ n2_ n3_; clear ho hb hg hat))
          go_roundg k1
          case measure => have := HK1.out; omega
          case rel => exact ⟨(y171), (wrap64 (x25_1 + 1)), (by first | rfl | (simp; done) | (simp [*]; done)), H', ⟨by have := HK1.out; omega⟩, ⟨by (with_reducible repeat (first | apply Kd.zT | apply Kd.zS | apply Kd.wD)); exact HO173.out⟩, ⟨by (with_reducible repeat first | apply bN | apply bD | apply bA); exact kG.out⟩, ⟨eG HB.out⟩⟩
         · rw [if_neg c17] at H; exact absurd H (by simp)
        ·
         replace c16 := Bool.eq_false_iff.mpr c16; subst c16; replace H : (qF.l0 k1 a1 a2 a3 x11_1 l0_1 (l0_1.length : Int) (wrap64 (x25_1 + 1))) = some (r1, r2) := by rw [if_neg (show ¬ (false = true) by decide)] at H; exact H
         have H' := zA.mk H; clear H; have p168 : 0 ≤ (x25_1 : Int) := of_decide_eq_true (by first | (with_reducible assumption) | assumption); have q168 : x25_1 < (l0_1.length : Int) := of_decide_eq_true (by first | (with_reducible assumption) | assumption); obtain ⟨ad168, e168, zCS, zCR, zCQ⟩ := uM HR0_1.out x25_1 p168 q168; cases e168; replace zCS := (HB.out.cell (World.block_lt_of_cell? w _ zCS)).trans zCS; replace zCR := (HB.out.cell (World.block_lt_of_cell? w _ zCR)).trans zCR; replace zCQ := (HB.out.cell (World.block_lt_of_cell? w _ zCQ)).trans zCQ; replace p168 := eq_true p168; replace q168 := eq_true q168; go_wp2_with (first | ((with_reducible refine wF (N := 13) rfl ?_); refine wA ?hg (N := 13) ?hd (cs := #[.int .i64 0, .int .i64 0, .int .i64 0]) (t := 26) ?hr ?_; (case hd => rfl); (case hg => rfl); (case hr => first | (go_simp; done) | (go_simp; rfl)); intro zAK hg w22 hbox hb; have n0_ := zA.mk (Kd.wB (by (with_reducible repeat (first | apply Kd.zT | apply Kd.zS | apply Kd.wD)); exact zGN.out) hb); have n1_ := zA.mk (zG (bG kG.out) hb); have n2_ := zA.mk (zF (eG HB.out) hb); have n3_ := zA.mk (hbox); have n4_ := zA.mk ((by rw [hg]; exact (zE (eG HB.out)) : w.heap.size ≤ zAK)); have n5_ := zA.mk ((by rw [hg]; exact (zE (eG HB.out)) : w.heap.size ≤ zAK)); have n6_ := zA.mk ((by rw [hg]; exact Nat.ne_of_lt (wC (bG kG.out)) : zER ≠ zAK)); have n7_ := zA.mk ((by rw [hg]; exact Nat.ne_of_gt (wC (bG kG.out)) : zAK ≠ zER)); clear zGN; clear kG; clear HB; have zGN := n0_; have kG := n1_; have HB := n2_; have zBP := n3_; have GW169 := n4_; have wBW := n5_; have ig169_ := geI wBW; have uW := n6_; have zFX := n7_; clear n0_ n1_ n2_ n3_ n4_ n5_ n6_ n7_; clear hb hbox hg; have hnb23 := zFX.out; have hnc23 := uW.out; have hcz24_0 : w22.cell? ⟨zAK, 0, none⟩ = some (.int .i64 0) := (zC zBP.out 0).trans rfl; have hcz24_1 : w22.cell? ⟨zAK, 1, none⟩ = some (.int .i64 0) := (zC zBP.out 1).trans rfl; have hcz24_2 : w22.cell? ⟨zAK, 2, none⟩ = some (.int .i64 0) := (zC zBP.out 2).trans rfl; have hfz24_0 := zB zBP.out 0; have hfz24_1 := zB zBP.out 1; have hfz24_2 := zB zBP.out 2) | (go_at_call 35; (with_reducible refine (zR.calls ((zH l0_1 x25_1).f1) a2 a3 false _ A15.out).mono ?_); rintro e w' ⟨rfl, ⟨nd, rfl⟩⟩))
         go_roundg k1
         case measure => have := HK1.out; omega
         case rel => exact ⟨(x11_1), (wrap64 (x25_1 + 1)), (by first | rfl | (simp; done) | (simp [*]; done)), H', ⟨by have := HK1.out; omega⟩, ⟨by (with_reducible repeat (first | apply Kd.zT | apply Kd.zS | apply Kd.wD)); exact Kd.wQ (Kd.wO (p := ⟨zAK, 2, none⟩) (Kd.wO (p := ⟨zAK, 1, none⟩) (Kd.wO (p := ⟨zAK, 0, none⟩) (Kd.vL zGN.out zBP.out (by decide)) (fun _ hk => hk.2) (.int .i64 ((zH l0_1 x25_1).f0))) (fun _ hk => hk.2) (.int .i64 ((zH l0_1 x25_1).f1))) (fun _ hk => hk.2) (.int .i64 ((zH l0_1 x25_1).f2))) (fun _ hk => trivial)⟩, ⟨by (with_reducible repeat first | apply bN | apply bD | apply bA); refine zV ?_ uW.out _; (with_reducible repeat first | apply bN | apply bD | apply bA); refine zV ?_ uW.out _; (with_reducible repeat first | apply bN | apply bD | apply bA); refine zV ?_ uW.out _; (with_reducible repeat first | apply bN | apply bD | apply bA); exact kG.out⟩, ⟨eG HB.out⟩⟩
       ·
        rw [if_neg c14] at H; have c14b0 : (((zH l0_1 x25_1).f0) == a1) = false := beq_eq_false_iff_ne.mpr c14; have c14b1 : (((zH l0_1 x25_1).f0) != a1) = true := bne_iff_ne.mpr c14; have H' := zA.mk H; clear H; have p168 : 0 ≤ (x25_1 : Int) := of_decide_eq_true (by first | (with_reducible assumption) | assumption); have q168 : x25_1 < (l0_1.length : Int) := of_decide_eq_true (by first | (with_reducible assumption) | assumption); obtain ⟨ad168, e168, zCS, zCR, zCQ⟩ := uM HR0_1.out x25_1 p168 q168; cases e168; replace zCS := (HB.out.cell (World.block_lt_of_cell? w _ zCS)).trans zCS; replace zCR := (HB.out.cell (World.block_lt_of_cell? w _ zCR)).trans zCR; replace zCQ := (HB.out.cell (World.block_lt_of_cell? w _ zCQ)).trans zCQ; replace p168 := eq_true p168; replace q168 := eq_true q168; go_wp2_with (first | ((with_reducible refine wF (N := 13) rfl ?_); refine wA ?hg (N := 13) ?hd (cs := #[.int .i64 0, .int .i64 0, .int .i64 0]) (t := 26) ?hr ?_; (case hd => rfl); (case hg => rfl); (case hr => first | (go_simp; done) | (go_simp; rfl)); intro zAK hg w25 hbox hb; have n0_ := zA.mk (Kd.wB (by (with_reducible repeat (first | apply Kd.zT | apply Kd.zS | apply Kd.wD)); exact zGN.out) hb); have n1_ := zA.mk (zG (bG kG.out) hb); have n2_ := zA.mk (zF (eG HB.out) hb); have n3_ := zA.mk (hbox); have n4_ := zA.mk ((by rw [hg]; exact (zE (eG HB.out)) : w.heap.size ≤ zAK)); have n5_ := zA.mk ((by rw [hg]; exact (zE (eG HB.out)) : w.heap.size ≤ zAK)); have n6_ := zA.mk ((by rw [hg]; exact Nat.ne_of_lt (wC (bG kG.out)) : zER ≠ zAK)); have n7_ := zA.mk ((by rw [hg]; exact Nat.ne_of_gt (wC (bG kG.out)) : zAK ≠ zER)); clear zGN; clear kG; clear HB; have zGN := n0_; have kG := n1_; have HB := n2_; have zBP := n3_; have GW169 := n4_; have wBW := n5_; have ig169_ := geI wBW; have uW := n6_; have zFX := n7_; clear n0_ n1_ n2_ n3_ n4_ n5_ n6_ n7_; clear hb hbox hg; have hnb26 := zFX.out; have hnc26 := uW.out; have wAH : w25.cell? ⟨zAK, 0, none⟩ = some (.int .i64 0) := (zC zBP.out 0).trans rfl; have wAG : w25.cell? ⟨zAK, 1, none⟩ = some (.int .i64 0) := (zC zBP.out 1).trans rfl; have wAF : w25.cell? ⟨zAK, 2, none⟩ = some (.int .i64 0) := (zC zBP.out 2).trans rfl; have zZN := zB zBP.out 0; have zZM := zB zBP.out 1; have zZL := zB zBP.out 2))
        go_roundg k1
        case measure => have := HK1.out; omega
        case rel => exact ⟨(x11_1), (wrap64 (x25_1 + 1)), (by first | rfl | (simp; done) | (simp [*]; done)), H', ⟨by have := HK1.out; omega⟩, ⟨by (with_reducible repeat (first | apply Kd.zT | apply Kd.zS | apply Kd.wD)); exact Kd.wQ (Kd.wO (p := ⟨zAK, 2, none⟩) (Kd.wO (p := ⟨zAK, 1, none⟩) (Kd.wO (p := ⟨zAK, 0, none⟩) (Kd.vL zGN.out zBP.out (by decide)) (fun _ hk => hk.2) (.int .i64 ((zH l0_1 x25_1).f0))) (fun _ hk => hk.2) (.int .i64 ((zH l0_1 x25_1).f1))) (fun _ hk => hk.2) (.int .i64 ((zH l0_1 x25_1).f2))) (fun _ hk => trivial)⟩, ⟨by (with_reducible repeat first | apply bN | apply bD | apply bA); refine zV ?_ uW.out _; (with_reducible repeat first | apply bN | apply bD | apply bA); refine zV ?_ uW.out _; (with_reducible repeat first | apply bN | apply bD | apply bA); refine zV ?_ uW.out _; (with_reducible repeat first | apply bN | apply bD | apply bA); exact kG.out⟩, ⟨eG HB.out⟩⟩
      · rw [if_neg c13] at H; exact absurd H (by simp)
     · rw [if_neg c12] at H; exact absurd H (by simp)
    ·
     rw [if_neg c11] at H; have c11b0 : decide (x25_1 < (l0_1.length : Int)) = false := decide_eq_false c11; clear c11; simp only [Option.some.injEq, Prod.mk.injEq] at H; obtain ⟨rfl, rfl⟩ := H; go_wp2; go_ret2
     exact ⟨_, by first | rfl | (simp [zN, zM] <;> rfl) | (simp [*, zN, zM] <;> rfl), by (with_reducible repeat (first | apply Kd.zT | apply Kd.zS | apply Kd.wD)); exact zGN.out, eG HB.out⟩
 ·
  rw [if_neg c6] at H; have c6b0 : (t167 == 0) = false := beq_eq_false_iff_ne.mpr c6; have c6b1 : (t167 != 0) = true := bne_iff_ne.mpr c6; simp only [Option.some.injEq, Prod.mk.injEq] at H; obtain ⟨rfl, rfl⟩ := H; go_enter Tryz.func23, Tryz.ntmps23
  go_wp2_with (first | ((with_reducible refine wF (N := 4) rfl ?_); refine wA ?hg (N := 4) ?hd (cs := #[.int .i64 a0_0, .slice A0_1 l0_1.length c0_1]) (t := 24) ?hr ?_; (case hd => rfl); (case hg => rfl); (case hr => first | (go_simp; done) | (go_simp; rfl)); intro zER hg w28 hbox hb; have n0_ := zA.mk (zF (eG HB.out) hb); have n1_ := zA.mk (hbox); have n2_ := zA.mk ((by rw [hg]; exact (zE (eG HB.out)) : w.heap.size ≤ zER)); have n3_ := zA.mk ((by rw [hg]; exact (zE (eG HB.out)) : w.heap.size ≤ zER)); clear HB; have HB := n0_; have kG := n1_; have GW166 := n2_; have GE166 := n3_; have ig166_ := geI GE166; clear n0_ n1_ n2_ n3_; clear hb hbox hg; have wAE : w28.cell? ⟨zER, 0, none⟩ = some (.int .i64 a0_0) := (zC kG.out 0).trans rfl; have wAD : w28.cell? ⟨zER, 1, none⟩ = some (.slice A0_1 l0_1.length c0_1) := (zC kG.out 1).trans rfl; have zZK := zB kG.out 0; have zZJ := zB kG.out 1) | ((with_reducible refine zQ (f := 48) rfl ?_); refine vB (some 18) rfl rfl Tryz.func48 (by kernel_rfl) rfl #[.agg #[.int .i64 a0_0, .slice A0_1 l0_1.length c0_1], .int .i64 a1, .int .i64 a2, .int .i64 a3] rfl (by (try simp only [List.map_toArray, List.map_cons, List.map_nil]); first | done | rfl | (simp only [List.length_drop, List.length_take]; rfl)) ?_; (with_reducible refine (vH.calls k a0_0 _ _ l0_1 a1 a2 a3 t167 _ ?side1 ?side2 A5.out).mono ?_); (case side1 => repeat (first | exact (Kd.qW HR0_1.out HB.out) | (with_reducible refine Kd.vZ ?_ _) | (with_reducible refine Kd.vY ?_ _) | (with_reducible refine Kd.qU ?_))); (case side2 => exact HC0_1.out); rintro e w30 ⟨rfl, hb⟩; refine ⟨_, rfl, ?_⟩; have n0_ := zA.mk (zG (bG kG.out) hb); have n1_ := zA.mk (zF (eG HB.out) hb); clear kG; clear HB; have kG := n0_; have HB := n1_; clear n0_ n1_; (try clear hb); (try clear hb2); (try clear hk); (try clear hi)))
  go_ret2
  exact ⟨_, by first | rfl | (simp [zN, zM] <;> rfl) | (simp [*, zN, zM] <;> rfl), by first | exact Kd.zHS _ _ _ _ _ | exact Kd.zMP _ _ _ _ _ | exact Kd.zML _ _ _ _ _ | exact Kd.zMO _ _ _ _ _ | exact Kd.zMN _ _ _ _ _, eG HB.out⟩
def qL.l0 : Nat → List Int → List Int → Int → Int → Option (Bool)
 | 0, _, _, _, _ => none
 | k + 1, x0, x1, x12, x13 => if x13 < x12 then (if 0 ≤ x13 then (if x13 < (x0.length : Int) then (if x13 < (x1.length : Int) then (if (rd x0 x13) = (rd x1 x13) then (qL.l0 k x0 x1 x12 (wrap64 (x13 + 1))) else (some false)) else (none)) else (none)) else (none)) else (some true)
def qL.f (k : Nat) (l0 : List Int) (l1 : List Int) : Option (Bool) := if (l0.length : Int) = (l1.length : Int) then (qL.l0 k l0 l1 (l0.length : Int) 0) else (some false)
set_option maxHeartbeats 8000000 in
set_option maxRecDepth 100000 in
theorem qL.calls (k : Nat) (A0 : Option Addr) (c0 : Nat) (l0 : List Int) (A1 : Option Addr) (c1 : Nat) (l1 : List Int) (r : Bool) (w : World) (hr0 : Kd.C (Kd.int .i64) w A0 l0.length l0) (hc0 : l0.length ≤ c0) (hr1 : Kd.C (Kd.int .i64) w A1 l1.length l1) (hc1 : l1.length ≤ c1) (h : qL.f k l0 l1 = some r) :
  Calls Tryz.prog 25 #[.slice A0 l0.length c0, .slice A1 l1.length c1] w fun e w' => e = .returned (.bool r) ∧ wR w w' := by
 have HR0 := zA.mk hr0; have HC0 := zA.mk hc0; clear hr0 hc0; have HR1 := zA.mk hr1; have HC1 := zA.mk hc1; clear hr1 hc1; have H : (if (l0.length : Int) = (l1.length : Int) then (qL.l0 k l0 l1 (l0.length : Int) 0) else (some false)) = some r := h; clear h; by_cases c3 : (l0.length : Int) = (l1.length : Int)
 ·
  rw [if_pos c3] at H; have c3b0 : ((l0.length : Int) == (l1.length : Int)) = true := beq_iff_eq.mpr c3; have c3b1 : ((l0.length : Int) != (l1.length : Int)) = false := bne_eq_false_iff_eq.mpr c3; have c3b2 : (l0.length == l1.length) = true := by first | simpa using c3 | (simp at c3 ⊢; omega)
  clear c3; have H' := zA.mk H; clear H; go_enter Tryz.func25, Tryz.ntmps25
  go_wp2; repeat (go_quiet (fail); try go_wp2)
  go_loopg [13] k (fun kq v13 w' => ∃ (x13_1 : Int), v13 = .int .i64 x13_1 ∧ zA (qL.l0 kq l0 l1 (l0.length : Int) x13_1 = some r) ∧ zA (kq ≤ k) ∧ wR w w')
  case atStart => exact ⟨(0), (by first | rfl | (simp; done) | (simp [*]; done)), H', ⟨Nat.le_refl _⟩, by repeat (first | exact wR.refl _ | apply wR.step)⟩
  case round =>
   clear H'; try clear c1
   try clear c2
   try clear p2
   try clear c3
   try clear c3b0
   try clear c3b1
   try clear c3b2
   obtain ⟨x13_1, rfl, HA, HK1, ⟨m1, rfl⟩⟩ := hrel
   cases gk with
   | zero => exact absurd HA.out (by simp [qL.l0])
   | succ k1 =>
    have H := HA.out; clear HA; simp only [qL.l0] at H; by_cases c4 : x13_1 < (l0.length : Int)
    ·
     rw [if_pos c4] at H; have c4b0 : decide (x13_1 < (l0.length : Int)) = true := decide_eq_true c4; clear c4; by_cases c5 : 0 ≤ x13_1
     ·
      rw [if_pos c5] at H; have c5b0 : decide (0 ≤ x13_1) = true := decide_eq_true c5; clear c5; by_cases c6 : x13_1 < (l0.length : Int)
      ·
       rw [if_pos c6] at H; have c6b0 : decide (x13_1 < (l0.length : Int)) = true := decide_eq_true c6; clear c6; by_cases c7 : x13_1 < (l1.length : Int)
       ·
        rw [if_pos c7] at H; have c7b0 : decide (x13_1 < (l1.length : Int)) = true := decide_eq_true c7; clear c7; by_cases c8 : (rd l0 x13_1) = (rd l1 x13_1)
        ·
         rw [if_pos c8] at H; have c8b0 : ((rd l0 x13_1) == (rd l1 x13_1)) = true := beq_iff_eq.mpr c8; have c8b1 : ((rd l0 x13_1) != (rd l1 x13_1)) = false := bne_eq_false_iff_eq.mpr c8; clear c8; have H' := zA.mk H; clear H; have p174 : 0 ≤ (x13_1 : Int) := of_decide_eq_true (by first | (with_reducible assumption) | assumption); have q174 : x13_1 < (l0.length : Int) := of_decide_eq_true (by first | (with_reducible assumption) | assumption); obtain ⟨ad174, e174, hx174_0⟩ := Kd.zNN HR0.out x13_1 p174 q174; cases e174; replace p174 := eq_true p174; replace q174 := eq_true q174; have p175 : 0 ≤ (x13_1 : Int) := of_decide_eq_true (by first | (with_reducible assumption) | assumption); have q175 : x13_1 < (l1.length : Int) := of_decide_eq_true (by first | (with_reducible assumption) | assumption); obtain ⟨ad175, e175, hx175_0⟩ := Kd.zNN HR1.out x13_1 p175 q175; cases e175; replace p175 := eq_true p175; replace q175 := eq_true q175; go_wp2; repeat (go_quiet (fail); try go_wp2)
         go_roundg k1
         case measure => have := HK1.out; omega
         case rel => exact ⟨(wrap64 (x13_1 + 1)), (by first | rfl | (simp; done) | (simp [*]; done)), H', ⟨by have := HK1.out; omega⟩, by repeat (first | exact wR.refl _ | apply wR.step)⟩
        ·
         rw [if_neg c8] at H; have c8b0 : ((rd l0 x13_1) == (rd l1 x13_1)) = false := beq_eq_false_iff_ne.mpr c8; have c8b1 : ((rd l0 x13_1) != (rd l1 x13_1)) = true := bne_iff_ne.mpr c8; obtain rfl := Option.some.inj H; have p174 : 0 ≤ (x13_1 : Int) := of_decide_eq_true (by first | (with_reducible assumption) | assumption); have q174 : x13_1 < (l0.length : Int) := of_decide_eq_true (by first | (with_reducible assumption) | assumption); obtain ⟨ad174, e174, hx174_0⟩ := Kd.zNN HR0.out x13_1 p174 q174; cases e174; replace p174 := eq_true p174; replace q174 := eq_true q174; have p175 : 0 ≤ (x13_1 : Int) := of_decide_eq_true (by first | (with_reducible assumption) | assumption); have q175 : x13_1 < (l1.length : Int) := of_decide_eq_true (by first | (with_reducible assumption) | assumption); obtain ⟨ad175, e175, hx175_0⟩ := Kd.zNN HR1.out x13_1 p175 q175; cases e175; replace p175 := eq_true p175; replace q175 := eq_true q175; go_wp2; repeat (go_quiet (fail); try go_wp2)
         go_ret
         exact ⟨by first | rfl | (simp; done) | (simp [*]; done), by repeat (first | exact wR.refl _ | apply wR.step)⟩
       · rw [if_neg c7] at H; exact absurd H (by simp)
      · rw [if_neg c6] at H; exact absurd H (by simp)
     · rw [if_neg c5] at H; exact absurd H (by simp)
    ·
     rw [if_neg c4] at H; have c4b0 : decide (x13_1 < (l0.length : Int)) = false := decide_eq_false c4; clear c4; obtain rfl := Option.some.inj H; go_wp2; repeat (go_quiet (fail); try go_wp2)
     go_ret
     exact ⟨by first | rfl | (simp; done) | (simp [*]; done), by repeat (first | exact wR.refl _ | apply wR.step)⟩
 ·
  rw [if_neg c3] at H; have c3b0 : ((l0.length : Int) == (l1.length : Int)) = false := beq_eq_false_iff_ne.mpr c3; have c3b1 : ((l0.length : Int) != (l1.length : Int)) = true := bne_iff_ne.mpr c3; have c3b2 : (l0.length == l1.length) = false := by first | simpa using c3 | (simp at c3 ⊢; omega)
  obtain rfl := Option.some.inj H; go_enter Tryz.func25, Tryz.ntmps25
  go_wp2; repeat (go_quiet (fail); try go_wp2)
  go_ret
  exact ⟨by first | rfl | (simp; done) | (simp [*]; done), by repeat (first | exact wR.refl _ | apply wR.step)⟩
end Go.Proofs.YtholbmidciapdaaGreatDoor.Pr
namespace Go.Proofs.YtholbmidciapdaaGreatDoor.TX
open Go Go.Lib
/-- What lies between the bytes c. -/
def parts (c : UInt8) : List UInt8 → List (List UInt8)
  | [] => [[]]
  | b :: r => if b = c then [] :: parts c r else match parts c r with
    | [] => [[b]]
    | p :: q => (b :: p) :: q
/-- The first piece, the rest behind its byte c, and whether there is one. -/
def cut1 (c : UInt8) : List UInt8 → List UInt8 × List UInt8 × Bool
  | [] => ([], [], false)
  | b :: r => if b = c then ([], r, true) else (b :: (cut1 c r).1, (cut1 c r).2.1, (cut1 c r).2.2)
theorem zDV (c b : UInt8) (r : List UInt8) : parts c (b :: r) = if b = c then [] :: parts c r else match parts c r with
    | [] => [[b]]
    | p :: q => (b :: p) :: q := rfl
theorem zAN (c b : UInt8) (r : List UInt8) : cut1 c (b :: r) = if b = c then ([], r, true) else (b :: (cut1 c r).1, (cut1 c r).2.1, (cut1 c r).2.2) := rfl
theorem zGH (c : UInt8) (s : List UInt8) : parts c s ≠ [] := by
  cases s with
  | nil => simp [parts]
  | cons b r =>
    rw [zDV]
    by_cases h : b = c
    · simp [h]
    · rw [if_neg h]; cases parts c r <;> simp
theorem zYY (c : UInt8) : index [] [c] = -1 := rfl
theorem zWP (c b : UInt8) (r : List UInt8) : index (b :: r) [c] = if b = c then 0 else if index r [c] = -1 then -1 else index r [c] + 1 := by
  have e0 : index (b :: r) [c] = if [c].isPrefixOf (b :: r) then 0 else if index r [c] == -1 then -1 else index r [c] + 1 := rfl
  rw [e0]
  by_cases h : b = c
  · subst h; simp [List.isPrefixOf]
  · have h2 : (c == b) = false := by simpa using fun e => h e.symm
    rw [if_neg h]
    simp only [List.isPrefixOf, h2, Bool.false_and, Bool.false_eq_true, if_false]
    by_cases h3 : index r [c] = -1
    · simp [h3]
    · rw [if_neg (by simpa using h3), if_neg h3]
theorem wAR (c : UInt8) : ∀ s : List UInt8, cut s [c] = cut1 c s
  | [] => by unfold cut; rw [zYY]; rfl
  | b :: r => by
    have ih := wAR c r
    have hg := index_ge r [c]
    unfold cut at ih ⊢
    rw [zAN, zWP]
    by_cases h : b = c
    · rw [if_pos h, if_pos h]; simp
    · rw [if_neg h, if_neg h, ← ih]
      by_cases h3 : index r [c] = -1
      · rw [if_pos h3]; simp [h3]
      · rw [if_neg h3, if_pos (by omega), if_pos (by omega)]
        have e : (index r [c] + 1).toNat = (index r [c]).toNat + 1 := by omega
        rw [e, show (index r [c]).toNat + 1 + [c].length = ((index r [c]).toNat + [c].length) + 1 from by omega]
        rfl
theorem zEV (c : UInt8) : ∀ s : List UInt8, (cut1 c s).2.2 = true → (cut1 c s).2.1.length < s.length
  | [], h => by simp [cut1] at h
  | b :: r, h => by
    rw [zAN] at h ⊢
    by_cases e : b = c
    · rw [if_pos e]; simp
    · rw [if_neg e] at h ⊢
      have := zEV c r h
      simp only [List.length_cons]; omega
theorem zKD (c : UInt8) : ∀ s : List UInt8, (cut1 c s).2.2 = true → s = (cut1 c s).1 ++ c :: (cut1 c s).2.1
  | [], h => by simp [cut1] at h
  | b :: r, h => by
    rw [zAN] at h ⊢
    by_cases e : b = c
    · rw [if_pos e]; simp [e]
    · rw [if_neg e] at h ⊢
      have := zKD c r h
      simp only [List.cons_append]
      rw [← this]
theorem zHQ (c : UInt8) : ∀ s : List UInt8, (cut1 c s).2.2 = false → (cut1 c s).1 = s ∧ (cut1 c s).2.1 = []
  | [], _ => ⟨rfl, rfl⟩
  | b :: r, h => by
    rw [zAN] at h ⊢
    by_cases e : b = c
    · rw [if_pos e] at h; simp at h
    · rw [if_neg e] at h ⊢
      have := zHQ c r h
      exact ⟨by simp [this.1], this.2⟩
theorem zJL (c : UInt8) : ∀ (a r : List UInt8), c ∉ a → cut1 c (a ++ c :: r) = (a, r, true)
  | [], r, _ => by show cut1 c (c :: r) = _; rw [zAN, if_pos rfl]
  | b :: a, r, h => by
    have h1 : ¬ b = c := fun e => h (by simp [e])
    have ih := zJL c a r (fun e => h (by simp [e]))
    show cut1 c (b :: (a ++ c :: r)) = _
    rw [zAN, if_neg h1, ih]
theorem zWB (c : UInt8) : ∀ s : List UInt8, c ∉ (cut1 c s).1
  | [] => by simp [cut1]
  | b :: r => by
    rw [zAN]
    by_cases e : b = c
    · rw [if_pos e]; simp
    · rw [if_neg e]
      have := zWB c r
      simp only [List.mem_cons, not_or]
      exact ⟨fun h => e h.symm, this⟩
theorem zIF (c : UInt8) : ∀ s : List UInt8, parts c s = (cut1 c s).1 :: if (cut1 c s).2.2 = true then parts c (cut1 c s).2.1 else []
  | [] => rfl
  | b :: r => by
    have ih := zIF c r
    rw [zDV, zAN]
    by_cases e : b = c
    · rw [if_pos e, if_pos e]; simp
    · rw [if_neg e, if_neg e, ih]
theorem zYL (c : UInt8) : ∀ a r : List UInt8, c ∉ a → parts c (a ++ c :: r) = a :: parts c r := by
  intro a r h
  rw [zIF, zJL c a r h]
  simp
theorem zVN (c : UInt8) : ∀ a : List UInt8, c ∉ a → parts c a = [a]
  | [], _ => rfl
  | b :: a, h => by
    have h1 : ¬ b = c := fun e => h (by simp [e])
    rw [zDV, if_neg h1, zVN c a (fun e => h (by simp [e]))]
/-- The pieces again, with c between. -/
def glue (c : UInt8) : List (List UInt8) → List UInt8
  | [] => []
  | [p] => p
  | p :: q => p ++ c :: glue c q
theorem zNE (c : UInt8) : ∀ s : List UInt8, glue c (parts c s) = s
  | [] => rfl
  | b :: r => by
    have ih := zNE c r
    rw [zDV]
    by_cases e : b = c
    · rw [if_pos e]
      cases hp : parts c r with
      | nil => exact absurd hp (zGH c r)
      | cons q t =>
        rw [hp] at ih
        simp [glue, ih, e]
    · rw [if_neg e]
      cases hp : parts c r with
      | nil => exact absurd hp (zGH c r)
      | cons q t =>
        rw [hp] at ih
        cases t with
        | nil => simp only [glue] at ih ⊢; rw [ih]
        | cons u v => simp only [glue] at ih ⊢; rw [List.cons_append, ih]
theorem zDR (c : UInt8) (n : Nat) (s : List UInt8) (h : index s [c] = -1) : countFrom [c] n s = 0 := by
  cases n with
  | zero => rfl
  | succ n => unfold countFrom; simp [h]
theorem zIS (c : UInt8) : ∀ (n : Nat) (s : List UInt8), s.length < n → splitK [c] 0 (countFrom [c] n s) s = parts c s
  | 0, s, h => by omega
  | n + 1, s, h => by
    have hc := wAR c s
    rw [zIF, ← hc]
    unfold cut
    have hg := index_ge s [c]
    by_cases e : index s [c] = -1
    · rw [zDR c _ s e]
      simp [splitK, e]
    · have e0 : 0 ≤ index s [c] := by omega
      have hr := index_room s [c] e0
      have l1 : ([c] : List UInt8).length = 1 := rfl
      rw [l1] at hr
      have ih := zIS c n (s.drop ((index s [c]).toNat + [c].length)) (by rw [List.length_drop, l1]; omega)
      have e1 : (index s [c] == -1) = false := by simpa using e
      have ec : countFrom [c] (n + 1) s = countFrom [c] n (s.drop ((index s [c]).toNat + [c].length)) + 1 := by
        rw [countFrom, if_neg (by simp [e1])]; omega
      rw [ec]
      unfold splitK
      rw [if_neg (by simp [e1]), if_pos e0, ih]
      simp
theorem count_le (c : UInt8) : ∀ (n : Nat) (s : List UInt8), countFrom [c] n s ≤ s.length
  | 0, s => Nat.zero_le _
  | n + 1, s => by
    by_cases e : index s [c] = -1
    · rw [zDR c _ s e]; omega
    · have e0 : 0 ≤ index s [c] := by have := index_ge s [c]; omega
      have hr := index_room s [c] e0
      have l1 : ([c] : List UInt8).length = 1 := rfl
      have ih := count_le c n (s.drop ((index s [c]).toNat + [c].length))
      rw [List.length_drop] at ih
      have e1 : (index s [c] == -1) = false := by simpa using e
      rw [countFrom, if_neg (by simp [e1])]
      rw [l1] at hr ih ⊢
      omega
theorem zMT (c : UInt8) : ∀ (n : Nat) (s : List UInt8), s.length < n → (splitK [c] 0 (countFrom [c] n s) s).length = countFrom [c] n s + 1
  | 0, s, h => by omega
  | n + 1, s, h => by
    by_cases e : index s [c] = -1
    · rw [zDR c _ s e]; rfl
    · have e0 : 0 ≤ index s [c] := by have := index_ge s [c]; omega
      have hr := index_room s [c] e0
      have l1 : ([c] : List UInt8).length = 1 := rfl
      rw [l1] at hr
      have ih := zMT c n (s.drop ((index s [c]).toNat + [c].length)) (by rw [List.length_drop, l1]; omega)
      have e1 : (index s [c] == -1) = false := by simpa using e
      have ec : countFrom [c] (n + 1) s = countFrom [c] n (s.drop ((index s [c]).toNat + [c].length)) + 1 := by
        rw [countFrom, if_neg (by simp [e1])]; omega
      rw [ec]
      unfold splitK
      rw [if_neg (by simp [e1]), List.length_cons, ih]
/-- strings.Split at one byte. -/
theorem split_eq (c : UInt8) (s : List UInt8) : splitK [c] 0 (count s [c]) s = parts c s := zIS c _ s (by omega)
def zBY (b : UInt8) : Bool := decide (48 ≤ b.toNat) && decide (b.toNat ≤ 57)
def zBD : Nat → List UInt8 → Nat
  | a, [] => a
  | a, b :: r => zBD (10 * a + (b.toNat - 48)) r
/-- Digits, without a needless 0 ahead. -/
def Canon (s : List UInt8) : Prop := 1 ≤ s.length ∧ ¬ (1 < s.length ∧ s.head? = some 48) ∧ s.all zBY = true
instance (s : List UInt8) : Decidable (Canon s) := by unfold Canon; infer_instance
theorem kZ (b : UInt8) : zBY b = true ↔ 48 ≤ b.toNat ∧ b.toNat ≤ 57 := by simp [zBY]
theorem zJS : ∀ (s : List UInt8) (a : Nat) (b : UInt8), zBD a (s ++ [b]) = 10 * zBD a s + (b.toNat - 48)
  | [], a, b => rfl
  | c :: r, a, b => zJS r _ b
theorem zMR : ∀ (s : List UInt8) (a : Nat), s.all zBY = true → zBD a s + 1 ≤ (a + 1) * 10 ^ s.length
  | [], a, _ => Nat.le_of_eq (by rw [List.length_nil, Nat.pow_zero, Nat.mul_one]; rfl)
  | b :: r, a, h => by
    simp only [List.all_cons, Bool.and_eq_true] at h
    have hb := (kZ b).1 h.1
    have ih := zMR r (10 * a + (b.toNat - 48)) h.2
    refine Nat.le_trans ih ?_
    rw [List.length_cons, Nat.pow_succ]
    generalize 10 ^ r.length = p
    have e : 10 * a + (b.toNat - 48) + 1 ≤ (a + 1) * 10 := by omega
    have := Nat.mul_le_mul_right p e
    rw [Nat.mul_assoc, Nat.mul_comm 10 p] at this
    exact this
theorem zMS : ∀ (s : List UInt8) (a : Nat), a * 10 ^ s.length ≤ zBD a s
  | [], a => Nat.le_of_eq (by rw [List.length_nil, Nat.pow_zero, Nat.mul_one]; rfl)
  | b :: r, a => by
    refine Nat.le_trans ?_ (zMS r (10 * a + (b.toNat - 48)))
    rw [List.length_cons, Nat.pow_succ]
    generalize 10 ^ r.length = p
    have e : a * 10 ≤ 10 * a + (b.toNat - 48) := by omega
    have := Nat.mul_le_mul_right p e
    rw [Nat.mul_assoc, Nat.mul_comm 10 p] at this
    exact this
theorem zVO : ∀ (s : List UInt8) (a : Nat), s.all zBY = true → (a + 1) * 10 ^ s.length ≤ 18446744073709551616 → parseUint10 a s = .ok (zBD a s)
  | [], a, _, _ => rfl
  | b :: r, a, h, hl => by
    simp only [List.all_cons, Bool.and_eq_true] at h
    have hb := (kZ b).1 h.1
    have e : (10 * a + 10) * 10 ^ r.length ≤ 18446744073709551616 := by
      rw [List.length_cons, Nat.pow_succ, Nat.mul_comm (10 ^ r.length) 10, ← Nat.mul_assoc] at hl
      have : (a + 1) * 10 = 10 * a + 10 := by omega
      rw [this] at hl; exact hl
    have hp : 1 ≤ 10 ^ r.length := Nat.one_le_pow _ _ (by decide)
    have e2 : 10 * a + 10 ≤ 18446744073709551616 := Nat.le_trans (Nat.le_mul_of_pos_right _ hp) e
    unfold parseUint10
    rw [if_pos hb, if_neg (by omega), if_neg (by omega)]
    have ec : a * 10 + (b.toNat - 48) = 10 * a + (b.toNat - 48) := by omega
    rw [ec, zVO r _ h.2 (Nat.le_trans (Nat.mul_le_mul_right _ (by omega)) e)]
    rfl
theorem zAC {u : Nat} (h : u < 10) : decDigits u = [UInt8.ofNat (48 + u)] := by rw [decDigits, dif_pos h]
theorem zDY {u : Nat} (h : ¬ u < 10) : decDigits u = decDigits (u / 10) ++ [UInt8.ofNat (48 + u % 10)] := by rw [decDigits, dif_neg h]
theorem zLM {d : Nat} (h : d < 10) : (UInt8.ofNat (48 + d)).toNat = 48 + d := by
  rw [UInt8.toNat_ofNat']; omega
theorem zWY (u : Nat) : 1 ≤ (decDigits u).length := by
  by_cases h : u < 10
  · rw [zAC h]; simp
  · rw [zDY h]; simp
theorem zWZ (u : Nat) : (decDigits u).all zBY = true := by
  induction u using Nat.strongRecOn with
  | _ u ih =>
    by_cases h : u < 10
    · rw [zAC h]
      simp only [List.all_cons, List.all_nil, Bool.and_true]
      rw [kZ, zLM h]; omega
    · rw [zDY h, List.all_append, ih (u / 10) (by omega)]
      simp only [List.all_cons, List.all_nil, Bool.and_true, Bool.true_and]
      rw [kZ, zLM (by omega)]; omega
theorem zWX (u : Nat) : zBD 0 (decDigits u) = u := by
  induction u using Nat.strongRecOn with
  | _ u ih =>
    by_cases h : u < 10
    · rw [zAC h]
      show 10 * 0 + ((UInt8.ofNat (48 + u)).toNat - 48) = u
      rw [zLM h]; omega
    · rw [zDY h, zJS, ih (u / 10) (by omega), zLM (by omega)]; omega
theorem zUZ (u : Nat) (h1 : 1 ≤ u) : ∃ b r, decDigits u = b :: r ∧ b ≠ 48 := by
  induction u using Nat.strongRecOn with
  | _ u ih =>
    by_cases h : u < 10
    · refine ⟨_, _, zAC h, fun e => ?_⟩
      have := congrArg UInt8.toNat e
      rw [zLM h] at this
      have h48 : (48 : UInt8).toNat = 48 := rfl
      omega
    · obtain ⟨b, r, e, hb⟩ := ih (u / 10) (by omega) (by omega)
      exact ⟨b, _, by rw [zDY h, e]; rfl, hb⟩
theorem zQV (u : Nat) : Canon (decDigits u) := by
  refine ⟨zWY u, fun h => ?_, zWZ u⟩
  by_cases h0 : u < 10
  · rw [zAC h0] at h; simp at h
  · obtain ⟨b, r, e, hb⟩ := zUZ u (by omega)
    rw [e] at h
    exact hb (by simpa using h.2)
theorem wAX (s : List UInt8) (h : Canon s) (h1 : 1 < s.length) : 10 ^ (s.length - 1) ≤ zBD 0 s := by
  cases s with
  | nil => simp at h1
  | cons b r =>
    obtain ⟨_, h2, h3⟩ := h
    simp only [List.all_cons, Bool.and_eq_true] at h3
    have hb := (kZ b).1 h3.1
    have hb2 : b ≠ 48 := fun e => h2 ⟨h1, by simp [e]⟩
    have hb3 : b.toNat ≠ 48 := fun e => hb2 (UInt8.toNat_inj.1 (by rw [e]; rfl))
    have := zMS r (10 * 0 + (b.toNat - 48))
    refine Nat.le_trans ?_ this
    simp only [List.length_cons, Nat.add_sub_cancel]
    exact Nat.le_mul_of_pos_left _ (by omega)
theorem zPV {s : List UInt8} (h : Canon s) (hl : s.length ≤ 18) : atoiAll s = .ok ((zBD 0 s : Nat) : Int) := by
  obtain ⟨h1, h2, h3⟩ := h
  have hv := zMR s 0 h3
  have hp : (0 + 1) * 10 ^ s.length ≤ 10 ^ 18 := by
    rw [Nat.zero_add, Nat.one_mul]; exact Nat.pow_le_pow_right (by decide) hl
  have hq := zVO s 0 h3 (by omega)
  cases s with
  | nil => simp at h1
  | cons c r =>
    have h3' := h3
    simp only [List.all_cons, Bool.and_eq_true] at h3'
    have hc := (kZ c).1 h3'.1
    unfold atoiAll
    simp only []
    rw [if_neg (by omega : ¬ (c.toNat = 43 ∨ c.toNat = 45))]
    have e : parseMag (c :: r) = .ok (zBD 0 (c :: r)) := by unfold parseMag; rw [if_neg (by simp)]; exact hq
    rw [e]
    simp only []
    rw [if_neg (by omega), if_neg (by omega), if_neg (by omega)]
/-- A number of at most so many digits, as a word has it. -/
def numP (most : Nat) (s : List UInt8) : Option Nat := if Canon s ∧ s.length ≤ most then some (zBD 0 s) else none
theorem zFA {u : Nat} : ∀ {n : Nat}, u < 10 ^ n → 1 ≤ n → (decDigits u).length ≤ n := by
  intro n h hn
  have hc := zQV u
  rcases Nat.lt_or_ge n (decDigits u).length with hlt | hge
  · have := wAX _ hc (by omega)
    rw [zWX] at this
    have h2 : 10 ^ n ≤ 10 ^ ((decDigits u).length - 1) := Nat.pow_le_pow_right (by decide) (by omega)
    omega
  · exact hge
end Go.Proofs.YtholbmidciapdaaGreatDoor.TX
namespace Go.Proofs.YtholbmidciapdaaGreatDoor.X
open Go Go.RowKit Go.Proofs.YtholbmidciapdaaGreatDoor.TX Go.Proofs.YtholbmidciapdaaGreatDoorW.PrintWords Go.Proofs.YtholbmidciapdaaGreatDoorW.PrintLast Go.Proofs.YtholbmidciapdaaGreatDoorW.PrintMore
theorem zVC (w : World) (n : Nat) : Below w.heap.size w (w.drewN n) := ⟨rfl, rfl, rfl, Nat.le_refl _, fun _ _ => rfl⟩
/-- The first piece, the rest, and whether the byte stands in it. -/
def strings_Cut.f (a0 a1 : ByteArray) : Option (ByteArray × ByteArray × Bool) := if a0.size < 4294967281 then some (⟨(Lib.cut a0.data.toList a1.data.toList).1.toArray⟩, ⟨(Lib.cut a0.data.toList a1.data.toList).2.1.toArray⟩, (Lib.cut a0.data.toList a1.data.toList).2.2) else none
theorem strings_Cut.calls (a0 a1 r1 r2 : ByteArray) (r3 : Bool) (w : World) (hG : GI w) (h : strings_Cut.f a0 a1 = some (r1, r2, r3)) :
    Calls Tryz.prog 71 #[.string a0, .string a1] w fun e w' => e = .returned (.tuple #[.string r1, .string r2, .bool r3]) ∧ Below w.heap.size w w' := by
  unfold strings_Cut.f at h
  by_cases hs : a0.size < 4294967281
  · rw [if_pos hs] at h
    obtain ⟨m, hm⟩ := hG.max
    simp only [Option.some.injEq, Prod.mk.injEq] at h
    obtain ⟨rfl, rfl, rfl⟩ := h
    refine (Tryz.strings_Cut a0 a1 m w hs hm).mono ?_
    rintro e w' ⟨rfl, n, rfl⟩
    exact ⟨rfl, zVC w n⟩
  · rw [if_neg hs] at h; cases h
/-- All pieces. -/
def strings_Split.f (a0 a1 : ByteArray) : Option (List ByteArray) := if a0.size < 4294967281 ∧ a1.size = 1 then some (Lib.splitB a1 0 (Lib.countB a0 a1) a0) else none
theorem one_byte {b : ByteArray} (h : b.size = 1) : ∃ c, b = ⟨#[c]⟩ := by
  obtain ⟨⟨l⟩⟩ := b
  match l with
  | [] => cases h
  | [c] => exact ⟨c, rfl⟩
  | _ :: _ :: _ => simp [ByteArray.size] at h
theorem zYC (s : ByteArray) (c : UInt8) : (Lib.splitB ⟨#[c]⟩ 0 (Lib.countB s ⟨#[c]⟩) s).length = Lib.countB s ⟨#[c]⟩ + 1 := by
  have e := congrArg List.length (Lib.splitB_data ⟨#[c]⟩ 0 (Lib.countB s ⟨#[c]⟩) s)
  rw [List.length_map] at e
  rw [e]
  exact zMT c _ s.data.toList (by omega)
theorem strings_Split.calls (a0 a1 : ByteArray) (r : List ByteArray) (w : World) (hG : GI w) (h : strings_Split.f a0 a1 = some r) :
    Calls Tryz.prog 73 #[.string a0, .string a1] w fun e w' => ∃ v0_ : Value, e = .returned (v0_) ∧ Kd.R Kd.string 9 w' w.heap.size (fun _ => True) v0_ r ∧ Below w.heap.size w w' := by
  unfold strings_Split.f at h
  by_cases hs : a0.size < 4294967281 ∧ a1.size = 1
  · rw [if_pos hs] at h
    obtain ⟨m, hm⟩ := hG.max
    obtain rfl := Option.some.inj h
    obtain ⟨hs, h1⟩ := hs
    obtain ⟨c, rfl⟩ := one_byte h1
    have hl := zYC a0 c
    have hb : Lib.countB a0 ⟨#[c]⟩ ≤ a0.size := by
      have := count_le c (a0.data.toList.length + 1) a0.data.toList
      have e : a0.data.toList.length = a0.size := Array.length_toList
      have e2 : Lib.countB a0 ⟨#[c]⟩ = Lib.countFrom [c] (a0.data.toList.length + 1) a0.data.toList := rfl
      omega
    refine (Tryz.strings_Split a0 ⟨#[c]⟩ m w hs hm (by omega)).mono ?_
    rintro e w' ⟨rfl, rfl⟩
    refine ⟨_, rfl, ?_, qJ (Below.refl _ _) _⟩
    rw [← hl]
    have hm2 : (Lib.splitB ⟨#[c]⟩ 0 (Lib.countB a0 ⟨#[c]⟩) a0).length ≤ maxLen := by rw [hl]; simp only [maxLen]; omega
    clear hl
    generalize Lib.splitB ⟨#[c]⟩ 0 (Lib.countB a0 ⟨#[c]⟩) a0 = ps at hm2 ⊢
    refine Kd.R_of_own ⟨by simp [encs], .inr ⟨w.heap.size, _, (ps.map Value.string).toArray, rfl, Nat.le_refl _, ?_, Nat.le_refl _, hm2, by simp, by rw [Nat.mul_one]; exact List.take_of_length_le (by simp)⟩⟩ (fun _ _ => trivial)
    exact Array.getElem?_push_size
  · rw [if_neg hs] at h; cases h
/-- The number of a numeral, and whether there is an error. -/
def strconv_Atoi.f (a0 : ByteArray) : Option (Int × Option Int) := if a0.size ≤ 281474976710656 then (match Lib.atoiAll a0.data.toList with
  | .ok v => some (v, none)
  | .range => some (Lib.atoiSat a0.data.toList, some 0)
  | _ => some (0, some 0)) else none
theorem strconv_Atoi.oks (a0 : ByteArray) (r1 : Int) (w : World) (hG : GI w) (h : strconv_Atoi.f a0 = some (r1, none)) :
    Calls Tryz.prog 83 #[.string a0] w fun e w' => e = .returned (.tuple #[.int .i64 r1, .nilIface]) ∧ Below w.heap.size w w' := by
  unfold strconv_Atoi.f at h
  by_cases hs : a0.size ≤ 281474976710656
  · rw [if_pos hs] at h
    cases ha : Lib.atoiAll a0.data.toList with
    | ok v =>
      rw [ha] at h
      simp only [Option.some.injEq, Prod.mk.injEq, and_true] at h
      subst h
      refine (Tryz.strconv_Atoi_ok a0 (by omega) v ha w).mono ?_
      rintro e w' ⟨rfl, hw⟩
      refine ⟨rfl, ?_⟩
      rcases hw with rfl | ⟨t, rfl⟩
      · exact Below.refl _ _
      · exact Joins.below_bytesWorld _ w _ t (Nat.le_refl _)
    | range => rw [ha] at h; simp at h
    | _ => rw [ha] at h; simp at h
  · rw [if_neg hs] at h; cases h
theorem strconv_Atoi.zUX (a0 : ByteArray) (r1 : Int) (q : Int) (w : World) (hG : GI w) (h : strconv_Atoi.f a0 = some (r1, some q)) :
    Calls Tryz.prog 83 #[.string a0] w fun e w' => ∃ b : Nat, e = .returned (.tuple #[.int .i64 r1, .iface 143 (.pointer (some ⟨b, 0, none⟩))]) ∧ Below w.heap.size w w' := by
  unfold strconv_Atoi.f at h
  by_cases hs : a0.size ≤ 281474976710656
  · rw [if_pos hs] at h
    obtain ⟨_, ⟨tp, p, h1⟩, ⟨tp2, p2, h2⟩, _⟩ := hG
    cases ha : Lib.atoiAll a0.data.toList with
    | ok v => rw [ha] at h; simp at h
    | range =>
      rw [ha] at h
      simp only [Option.some.injEq, Prod.mk.injEq] at h
      obtain ⟨rfl, _⟩ := h
      refine (Tryz.strconv_Atoi_range_var a0 hs ha tp2 p2 w h2).mono ?_
      rintro e w' ⟨N, rfl, _, _, hb⟩
      exact ⟨N, rfl, hb⟩
    | _ =>
      rw [ha] at h
      simp only [Option.some.injEq, Prod.mk.injEq] at h
      obtain ⟨rfl, _⟩ := h
      refine (Tryz.strconv_Atoi_syntax_var a0 hs ha tp p w h1).mono ?_
      rintro e w' ⟨N, rfl, _, _, hb⟩
      exact ⟨N, rfl, hb⟩
  · rw [if_neg hs] at h; cases h
end Go.Proofs.YtholbmidciapdaaGreatDoor.X
namespace Go.Proofs.YtholbmidciapdaaGreatDoor.X
open Go Go.RowKit Go.Lib Go.Proofs Go.Shelf
def vP.f (a0 a1 : ByteArray) : Option ByteArray := if a0.size < 4294967281 ∧ a1.size < 4294967281 ∧ a1.data.toList.all (fun b => decide (b.toNat < 128)) = true then some ⟨(Lib.trimS a0.data.toList a1.data.toList).toArray⟩ else none
theorem vP.calls (a0 a1 r : ByteArray) (w : World) (h : vP.f a0 a1 = some r) : Calls Tryz.prog 82 #[.string a0, .string a1] w fun e w' => e = .returned (.string r) ∧ Below w.heap.size w w' := by
  unfold vP.f at h
  by_cases hs : a0.size < 4294967281 ∧ a1.size < 4294967281 ∧ a1.data.toList.all (fun b => decide (b.toNat < 128)) = true
  · rw [if_pos hs] at h
    obtain rfl := Option.some.inj h
    exact Any.strings_Trim_laid Tryz.lays160 (by kernel_rfl) a0 a1 w (by omega) hs.2.1 (ascii_of_all hs.2.2)
  · rw [if_neg hs] at h; cases h
end Go.Proofs.YtholbmidciapdaaGreatDoor.X
namespace Go.Proofs.YtholbmidciapdaaGreatDoor.Pr
open Go.RowKit Go.Proofs.YtholbmidciapdaaGreatDoorW.PrintWords Go.Proofs.YtholbmidciapdaaGreatDoorW.PrintLast Go.Proofs.YtholbmidciapdaaGreatDoorW.PrintMore Go.Proofs.YtholbmidciapdaaGreatDoor.X
attribute [local go_sem] uR uP kP kO jN jM uQ uO   -- for this text's walks alone
set_option linter.unusedVariables false
set_option linter.unusedSimpArgs false
def vQ.f (a0 : ByteArray) : Option (Int × Bool) := if a0.toList = ([] : List UInt8) then (some (0, false)) else (if (a0.size : Int) > 9 then (some (0, false)) else (if (a0.size : Int) > 1 then (if 0 < (a0.size : Int) then (if (bt a0 0) = 48 then (some (0, false)) else ((vP.f a0 (⟨#[48, 49, 50, 51, 52, 53, 54, 55, 56, 57]⟩ : ByteArray)).bind fun t189 => (if t189.toList = ([] : List UInt8) then ((strconv_Atoi.f a0).bind fun bt190 => (if bt190.2.isNone = true then (some (bt190.1, true)) else (some (bt190.1, false)))) else (some (0, false))))) else (none)) else ((vP.f a0 (⟨#[48, 49, 50, 51, 52, 53, 54, 55, 56, 57]⟩ : ByteArray)).bind fun t193 => (if t193.toList = ([] : List UInt8) then ((strconv_Atoi.f a0).bind fun bt194 => (if bt194.2.isNone = true then (some (bt194.1, true)) else (some (bt194.1, false)))) else (some (0, false))))))
set_option maxHeartbeats 8000000 in
set_option maxRecDepth 100000 in
theorem vQ.calls (a0 : ByteArray) (r1 : Int) (r2 : Bool) (w : World) (hG : GI w) (h : vQ.f a0 = some (r1, r2)) :
  Calls Tryz.prog 74 #[.string a0] w fun e w' => e = .returned (.tuple #[.int .i64 r1, .bool r2]) ∧ Below w.heap.size w w' := by
 have hu78 := Tryz.underlying78; have HG := zA.mk hG; clear hG; have HB := zA.mk (Below.refl w.heap.size w); have H : (if a0.toList = ([] : List UInt8) then (some (0, false)) else (if (a0.size : Int) > 9 then (some (0, false)) else (if (a0.size : Int) > 1 then (if 0 < (a0.size : Int) then (if (bt a0 0) = 48 then (some (0, false)) else ((vP.f a0 (⟨#[48, 49, 50, 51, 52, 53, 54, 55, 56, 57]⟩ : ByteArray)).bind fun t189 => (if t189.toList = ([] : List UInt8) then ((strconv_Atoi.f a0).bind fun bt190 => (if bt190.2.isNone = true then (some (bt190.1, true)) else (some (bt190.1, false)))) else (some (0, false))))) else (none)) else ((vP.f a0 (⟨#[48, 49, 50, 51, 52, 53, 54, 55, 56, 57]⟩ : ByteArray)).bind fun t193 => (if t193.toList = ([] : List UInt8) then ((strconv_Atoi.f a0).bind fun bt194 => (if bt194.2.isNone = true then (some (bt194.1, true)) else (some (bt194.1, false)))) else (some (0, false))))))) = some (r1, r2) := h; clear h; by_cases c2 : a0.toList = ([] : List UInt8)
 ·
  rw [if_pos c2] at H; have c2b0 : (a0.toList == ([] : List UInt8)) = true := beq_iff_eq.mpr c2; have c2b1 : (a0.toList != ([] : List UInt8)) = false := bne_eq_false_iff_eq.mpr c2; clear c2; simp only [Option.some.injEq, Prod.mk.injEq] at H; obtain ⟨rfl, rfl⟩ := H; go_enter Tryz.func74, Tryz.ntmps74
  go_wp2; repeat (go_quiet (fail); try go_wp2)
  go_ret2
  exact ⟨by first | rfl | (simp [zN, zM] <;> rfl) | (simp [*, zN, zM] <;> rfl), eG HB.out⟩
 ·
  rw [if_neg c2] at H; have c2b0 : (a0.toList == ([] : List UInt8)) = false := beq_eq_false_iff_ne.mpr c2; have c2b1 : (a0.toList != ([] : List UInt8)) = true := bne_iff_ne.mpr c2; by_cases c3 : (a0.size : Int) > 9
  ·
   rw [if_pos c3] at H; have c3b0 : decide (9 < (a0.size : Int)) = true := decide_eq_true c3; have c3b1 : decide (9 < a0.size) = true := decide_eq_true (by omega); clear c3; simp only [Option.some.injEq, Prod.mk.injEq] at H; obtain ⟨rfl, rfl⟩ := H; go_enter Tryz.func74, Tryz.ntmps74
   go_wp2; repeat (go_quiet (fail); try go_wp2)
   go_ret2
   exact ⟨by first | rfl | (simp [zN, zM] <;> rfl) | (simp [*, zN, zM] <;> rfl), eG HB.out⟩
  ·
   rw [if_neg c3] at H; have c3b0 : decide (9 < (a0.size : Int)) = false := decide_eq_false c3; have c3b1 : decide (9 < a0.size) = false := decide_eq_false (by omega); clear c3; by_cases c4 : (a0.size : Int) > 1
   ·
    rw [if_pos c4] at H; have c4b0 : decide (1 < (a0.size : Int)) = true := decide_eq_true c4; have c4b1 : decide (1 < a0.size) = true := decide_eq_true (by omega); clear c4; by_cases c5 : 0 < (a0.size : Int)
    ·
     rw [if_pos c5] at H; have c5b0 : decide (0 < (a0.size : Int)) = true := decide_eq_true c5; have c5b1 : decide (0 < a0.size) = true := decide_eq_true (by omega); clear c5; by_cases c7 : (bt a0 0) = 48
     ·
      rw [if_pos c7] at H; have c7b0 : ((bt a0 0) == 48) = true := beq_iff_eq.mpr c7; have c7b1 : ((bt a0 0) != 48) = false := bne_eq_false_iff_eq.mpr c7; clear c7; simp only [Option.some.injEq, Prod.mk.injEq] at H; obtain ⟨rfl, rfl⟩ := H; have p6 : 0 ≤ (0 : Int) := (by omega); have q6 : 0 < a0.size := (by have : (0 : Int) < (a0.size : Int) := of_decide_eq_true (by first | (with_reducible assumption) | assumption); omega); have hx6 : ∀ h : 0 < a0.size, ((a0[0]'h).toNat : Int) = bt a0 0 := zGM a0 0; clear p6; have qi6 : (0 < (a0.size : Int)) = True := eq_true (of_decide_eq_true (by first | (with_reducible assumption) | assumption)); replace q6 := eq_true q6; go_enter Tryz.func74, Tryz.ntmps74
      go_wp2; repeat (go_quiet (fail); try go_wp2)
      go_ret2
      exact ⟨by first | rfl | (simp [zN, zM] <;> rfl) | (simp [*, zN, zM] <;> rfl), eG HB.out⟩
     ·
      rw [if_neg c7] at H; have c7b0 : ((bt a0 0) == 48) = false := beq_eq_false_iff_ne.mpr c7; have c7b1 : ((bt a0 0) != 48) = true := bne_iff_ne.mpr c7; replace H := Option.bind_eq_some_iff.mp H; obtain ⟨t189, A80, H⟩ := H; replace H : (if t189.toList = ([] : List UInt8) then ((strconv_Atoi.f a0).bind fun bt190 => (if bt190.2.isNone = true then (some (bt190.1, true)) else (some (bt190.1, false)))) else (some (0, false))) = some (r1, r2) := H; have A8 := zA.mk A80; clear A80; by_cases c9 : t189.toList = ([] : List UInt8)
      ·
       rw [if_pos c9] at H; have c9b0 : (t189.toList == ([] : List UInt8)) = true := beq_iff_eq.mpr c9; have c9b1 : (t189.toList != ([] : List UInt8)) = false := bne_eq_false_iff_eq.mpr c9; clear c9; replace H := Option.bind_eq_some_iff.mp H; obtain ⟨⟨t190, t191⟩, A100, H⟩ := H; replace H : (if t191.isNone = true then (some (t190, true)) else (some (t190, false))) = some (r1, r2) := H; have A10 := zA.mk A100; clear A100; rcases t191 with _ | q192
       ·
        replace H : (some (t190, true)) = some (r1, r2) := by rw [if_pos (show (none : Option Int).isNone = true by rfl)] at H; exact H
        try simp only [zN, zM]
        simp only [Option.some.injEq, Prod.mk.injEq] at H; obtain ⟨rfl, rfl⟩ := H; have p6 : 0 ≤ (0 : Int) := (by omega); have q6 : 0 < a0.size := (by have : (0 : Int) < (a0.size : Int) := of_decide_eq_true (by first | (with_reducible assumption) | assumption); omega); have hx6 : ∀ h : 0 < a0.size, ((a0[0]'h).toNat : Int) = bt a0 0 := zGM a0 0; clear p6; have qi6 : (0 < (a0.size : Int)) = True := eq_true (of_decide_eq_true (by first | (with_reducible assumption) | assumption)); replace q6 := eq_true q6; go_enter Tryz.func74, Tryz.ntmps74
        go_wp2_with (first | (go_at_call 82; (with_reducible refine (vP.calls a0 (⟨#[48, 49, 50, 51, 52, 53, 54, 55, 56, 57]⟩ : ByteArray) t189 _ A8.out).mono ?_); rintro e w11 ⟨rfl, hb⟩; have n0_ := zA.mk (zF (eG HB.out) hb); clear HB; have HB := n0_; clear n0_; (try clear hb); (try clear hb2); (try clear hk); (try clear hi)) | (go_at_call 83; (with_reducible refine (strconv_Atoi.oks a0 t190 _ ?side1 A10.out).mono ?_); (case side1 => exact GI.below HG.out (eG HB.out)); rintro e w12 ⟨rfl, hb⟩; have n0_ := zA.mk (zF (eG HB.out) hb); clear HB; have HB := n0_; clear n0_; (try clear hb); (try clear hb2); (try clear hk); (try clear hi); (try simp only [zN, zM])))
        repeat (go_quiet (first | (go_at_call 82; (with_reducible refine (vP.calls a0 (⟨#[48, 49, 50, 51, 52, 53, 54, 55, 56, 57]⟩ : ByteArray) t189 _ A8.out).mono ?_); rintro e w11 ⟨rfl, hb⟩; have n0_ := zA.mk (zF (eG HB.out) hb); clear HB; have HB := n0_; clear n0_; (try clear hb); (try clear hb2); (try clear hk); (try clear hi)) | (go_at_call 83; (with_reducible refine (strconv_Atoi.oks a0 t190 _ ?side1 A10.out).mono ?_); (case side1 => exact GI.below HG.out (eG HB.out)); rintro e w12 ⟨rfl, hb⟩; have n0_ := zA.mk (zF (eG HB.out) hb); clear HB; have HB := n0_; clear n0_; (try clear hb); (try clear hb2); (try clear hk); (try clear hi); (try simp only [zN, zM]))); try go_wp2_with (first | (go_at_call 82; (with_reducible refine (vP.calls a0 (⟨#[48, 49, 50, 51, 52, 53, 54, 55, 56, 57]⟩ : ByteArray) t189 _ A8.out).mono ?_); rintro e w11 ⟨rfl, hb⟩; have n0_ := zA.mk (zF (eG HB.out) hb); clear HB; have HB := n0_; clear n0_; (try clear hb); (try clear hb2); (try clear hk); (try clear hi)) | (go_at_call 83; (with_reducible refine (strconv_Atoi.oks a0 t190 _ ?side1 A10.out).mono ?_); (case side1 => exact GI.below HG.out (eG HB.out)); rintro e w12 ⟨rfl, hb⟩; have n0_ := zA.mk (zF (eG HB.out) hb); clear HB; have HB := n0_; clear n0_; (try clear hb); (try clear hb2); (try clear hk); (try clear hi); (try simp only [zN, zM]))))
        go_ret2
        exact ⟨by first | rfl | (simp [zN, zM] <;> rfl) | (simp [*, zN, zM] <;> rfl), eG HB.out⟩
       ·
        replace H : (some (t190, false)) = some (r1, r2) := by rw [if_neg (show ¬ (some q192).isNone = true by simp)] at H; exact H
        try simp only [zN, zM]
        simp only [Option.some.injEq, Prod.mk.injEq] at H; obtain ⟨rfl, rfl⟩ := H; have p6 : 0 ≤ (0 : Int) := (by omega); have q6 : 0 < a0.size := (by have : (0 : Int) < (a0.size : Int) := of_decide_eq_true (by first | (with_reducible assumption) | assumption); omega); have hx6 : ∀ h : 0 < a0.size, ((a0[0]'h).toNat : Int) = bt a0 0 := zGM a0 0; clear p6; have qi6 : (0 < (a0.size : Int)) = True := eq_true (of_decide_eq_true (by first | (with_reducible assumption) | assumption)); replace q6 := eq_true q6; go_enter Tryz.func74, Tryz.ntmps74
        go_wp2_with (first | (go_at_call 82; (with_reducible refine (vP.calls a0 (⟨#[48, 49, 50, 51, 52, 53, 54, 55, 56, 57]⟩ : ByteArray) t189 _ A8.out).mono ?_); rintro e w13 ⟨rfl, hb⟩; have n0_ := zA.mk (zF (eG HB.out) hb); clear HB; have HB := n0_; clear n0_; (try clear hb); (try clear hb2); (try clear hk); (try clear hi)) | (go_at_call 83; (with_reducible refine (strconv_Atoi.zUX a0 t190 q192 _ ?side1 A10.out).mono ?_); (case side1 => exact GI.below HG.out (eG HB.out)); rintro e w14 ⟨bE, rfl, hb⟩; have n0_ := zA.mk (zF (eG HB.out) hb); clear HB; have HB := n0_; clear n0_; (try clear hb); (try clear hb2); (try clear hk); (try clear hi); (try simp only [zN, zM])))
        repeat (go_quiet (first | (go_at_call 82; (with_reducible refine (vP.calls a0 (⟨#[48, 49, 50, 51, 52, 53, 54, 55, 56, 57]⟩ : ByteArray) t189 _ A8.out).mono ?_); rintro e w13 ⟨rfl, hb⟩; have n0_ := zA.mk (zF (eG HB.out) hb); clear HB; have HB := n0_; clear n0_; (try clear hb); (try clear hb2); (try clear hk); (try clear hi)) | (go_at_call 83; (with_reducible refine (strconv_Atoi.zUX a0 t190 q192 _ ?side1 A10.out).mono ?_); (case side1 => exact GI.below HG.out (eG HB.out)); rintro e w14 ⟨bE, rfl, hb⟩; have n0_ := zA.mk (zF (eG HB.out) hb); clear HB; have HB := n0_; clear n0_; (try clear hb); (try clear hb2); (try clear hk); (try clear hi); (try simp only [zN, zM]))); try go_wp2_with (first | (go_at_call 82; (with_reducible refine (vP.calls a0 (⟨#[48, 49, 50, 51, 52, 53, 54, 55, 56, 57]⟩ : ByteArray) t189 _ A8.out).mono ?_); rintro e w13 ⟨rfl, hb⟩; have n0_ := zA.mk (zF (eG HB.out) hb); clear HB; have HB := n0_; clear n0_; (try clear hb); (try clear hb2); (try clear hk); (try clear hi)) | (go_at_call 83; (with_reducible refine (strconv_Atoi.zUX a0 t190 q192 _ ?side1 A10.out).mono ?_); (case side1 => exact GI.below HG.out (eG HB.out)); rintro e w14 ⟨bE, rfl, hb⟩; have n0_ := zA.mk (zF (eG HB.out) hb); clear HB; have HB := n0_; clear n0_; (try clear hb); (try clear hb2); (try clear hk); (try clear hi); (try simp only [zN, zM]))))
        go_ret2
        exact ⟨by first | rfl | (simp [zN, zM] <;> rfl) | (simp [*, zN, zM] <;> rfl), eG HB.out⟩
      ·
       rw [if_neg c9] at H; have c9b0 : (t189.toList == ([] : List UInt8)) = false := beq_eq_false_iff_ne.mpr c9; have c9b1 : (t189.toList != ([] : List UInt8)) = true := bne_iff_ne.mpr c9; simp only [Option.some.injEq, Prod.mk.injEq] at H; obtain ⟨rfl, rfl⟩ := H; have p6 : 0 ≤ (0 : Int) := (by omega); have q6 : 0 < a0.size := (by have : (0 : Int) < (a0.size : Int) := of_decide_eq_true (by first | (with_reducible assumption) | assumption); omega); have hx6 : ∀ h : 0 < a0.size, ((a0[0]'h).toNat : Int) = bt a0 0 := zGM a0 0; clear p6; have qi6 : (0 < (a0.size : Int)) = True := eq_true (of_decide_eq_true (by first | (with_reducible assumption) | assumption)); replace q6 := eq_true q6; go_enter Tryz.func74, Tryz.ntmps74
       go_wp2_with (first | (go_at_call 82; (with_reducible refine (vP.calls a0 (⟨#[48, 49, 50, 51, 52, 53, 54, 55, 56, 57]⟩ : ByteArray) t189 _ A8.out).mono ?_); rintro e w15 ⟨rfl, hb⟩; have n0_ := zA.mk (zF (eG HB.out) hb); clear HB; have HB := n0_; clear n0_; (try clear hb); (try clear hb2); (try clear hk); (try clear hi)))
       repeat (go_quiet (first | (go_at_call 82; (with_reducible refine (vP.calls a0 (⟨#[48, 49, 50, 51, 52, 53, 54, 55, 56, 57]⟩ : ByteArray) t189 _ A8.out).mono ?_); rintro e w15 ⟨rfl, hb⟩; have n0_ := zA.mk (zF (eG HB.out) hb); clear HB; have HB := n0_; clear n0_; (try clear hb); (try clear hb2); (try clear hk); (try clear hi))); try go_wp2_with (first | (go_at_call 82; (with_reducible refine (vP.calls a0 (⟨#[48, 49, 50, 51, 52, 53, 54, 55, 56, 57]⟩ : ByteArray) t189 _ A8.out).mono ?_); rintro e w15 ⟨rfl, hb⟩; have n0_ := zA.mk (zF (eG HB.out) hb); clear HB; have HB := n0_; clear n0_; (try clear hb); (try clear hb2); (try clear hk); (try clear hi))))
       go_ret2
       exact ⟨by first | rfl | (simp [zN, zM] <;> rfl) | (simp [*, zN, zM] <;> rfl), eG HB.out⟩
    · rw [if_neg c5] at H; exact absurd H (by simp)
   ·
    rw [if_neg c4] at H; have c4b0 : decide (1 < (a0.size : Int)) = false := decide_eq_false c4; have c4b1 : decide (1 < a0.size) = false := decide_eq_false (by omega); clear c4; replace H := Option.bind_eq_some_iff.mp H; obtain ⟨t193, A160, H⟩ := H; replace H : (if t193.toList = ([] : List UInt8) then ((strconv_Atoi.f a0).bind fun bt194 => (if bt194.2.isNone = true then (some (bt194.1, true)) else (some (bt194.1, false)))) else (some (0, false))) = some (r1, r2) := H; have A16 := zA.mk A160; clear A160; by_cases c17 : t193.toList = ([] : List UInt8)
    ·
     rw [if_pos c17] at H; have c17b0 : (t193.toList == ([] : List UInt8)) = true := beq_iff_eq.mpr c17; have c17b1 : (t193.toList != ([] : List UInt8)) = false := bne_eq_false_iff_eq.mpr c17; clear c17; replace H := Option.bind_eq_some_iff.mp H; obtain ⟨⟨t194, t195⟩, A180, H⟩ := H; replace H : (if t195.isNone = true then (some (t194, true)) else (some (t194, false))) = some (r1, r2) := H; have A18 := zA.mk A180; clear A180; rcases t195 with _ | q196
     ·
      replace H : (some (t194, true)) = some (r1, r2) := by rw [if_pos (show (none : Option Int).isNone = true by rfl)] at H; exact H
      try simp only [zN, zM]
      simp only [Option.some.injEq, Prod.mk.injEq] at H; obtain ⟨rfl, rfl⟩ := H; go_enter Tryz.func74, Tryz.ntmps74
      go_wp2_with (first | (go_at_call 82; (with_reducible refine (vP.calls a0 (⟨#[48, 49, 50, 51, 52, 53, 54, 55, 56, 57]⟩ : ByteArray) t193 _ A16.out).mono ?_); rintro e w19 ⟨rfl, hb⟩; have n0_ := zA.mk (zF (eG HB.out) hb); clear HB; have HB := n0_; clear n0_; (try clear hb); (try clear hb2); (try clear hk); (try clear hi)) | (go_at_call 83; (with_reducible refine (strconv_Atoi.oks a0 t194 _ ?side1 A18.out).mono ?_); (case side1 => exact GI.below HG.out (eG HB.out)); rintro e w20 ⟨rfl, hb⟩; have n0_ := zA.mk (zF (eG HB.out) hb); clear HB; have HB := n0_; clear n0_; (try clear hb); (try clear hb2); (try clear hk); (try clear hi); (try simp only [zN, zM])))
      repeat (go_quiet (first | (go_at_call 82; (with_reducible refine (vP.calls a0 (⟨#[48, 49, 50, 51, 52, 53, 54, 55, 56, 57]⟩ : ByteArray) t193 _ A16.out).mono ?_); rintro e w19 ⟨rfl, hb⟩; have n0_ := zA.mk (zF (eG HB.out) hb); clear HB; have HB := n0_; clear n0_; (try clear hb); (try clear hb2); (try clear hk); (try clear hi)) | (go_at_call 83; (with_reducible refine (strconv_Atoi.oks a0 t194 _ ?side1 A18.out).mono ?_); (case side1 => exact GI.below HG.out (eG HB.out)); rintro e w20 ⟨rfl, hb⟩; have n0_ := zA.mk (zF (eG HB.out) hb); clear HB; have HB := n0_; clear n0_; (try clear hb); (try clear hb2); (try clear hk); (try clear hi); (try simp only [zN, zM]))); try go_wp2_with (first | (go_at_call 82; (with_reducible refine (vP.calls a0 (⟨#[48, 49, 50, 51, 52, 53, 54, 55, 56, 57]⟩ : ByteArray) t193 _ A16.out).mono ?_); rintro e w19 ⟨rfl, hb⟩; have n0_ := zA.mk (zF (eG HB.out) hb); clear HB; have HB := n0_; clear n0_; (try clear hb); (try clear hb2); (try clear hk); (try clear hi)) | (go_at_call 83; (with_reducible refine (strconv_Atoi.oks a0 t194 _ ?side1 A18.out).mono ?_); (case side1 => exact GI.below HG.out (eG HB.out)); rintro e w20 ⟨rfl, hb⟩; have n0_ := zA.mk (zF (eG HB.out) hb); clear HB; have HB := n0_; clear n0_; (try clear hb); (try clear hb2); (try clear hk); (try clear hi); (try simp only [zN, zM]))))
      go_ret2
      exact ⟨by first | rfl | (simp [zN, zM] <;> rfl) | (simp [*, zN, zM] <;> rfl), eG HB.out⟩
     ·
      replace H : (some (t194, false)) = some (r1, r2) := by rw [if_neg (show ¬ (some q196).isNone = true by simp)] at H; exact H
      try simp only [zN, zM]
      simp only [Option.some.injEq, Prod.mk.injEq] at H; obtain ⟨rfl, rfl⟩ := H; go_enter Tryz.func74, Tryz.ntmps74
      go_wp2_with (first | (go_at_call 82; (with_reducible refine (vP.calls a0 (⟨#[48, 49, 50, 51, 52, 53, 54, 55, 56, 57]⟩ : ByteArray) t193 _ A16.out).mono ?_); rintro e w21 ⟨rfl, hb⟩; have n0_ := zA.mk (zF (eG HB.out) hb); clear HB; have HB := n0_; clear n0_; (try clear hb); (try clear hb2); (try clear hk); (try clear hi)) | (go_at_call 83; (with_reducible refine (strconv_Atoi.zUX a0 t194 q196 _ ?side1 A18.out).mono ?_); (case side1 => exact GI.below HG.out (eG HB.out)); rintro e w22 ⟨bE, rfl, hb⟩; have n0_ := zA.mk (zF (eG HB.out) hb); clear HB; have HB := n0_; clear n0_; (try clear hb); (try clear hb2); (try clear hk); (try clear hi); (try simp only [zN, zM])))
      repeat (go_quiet (first | (go_at_call 82; (with_reducible refine (vP.calls a0 (⟨#[48, 49, 50, 51, 52, 53, 54, 55, 56, 57]⟩ : ByteArray) t193 _ A16.out).mono ?_); rintro e w21 ⟨rfl, hb⟩; have n0_ := zA.mk (zF (eG HB.out) hb); clear HB; have HB := n0_; clear n0_; (try clear hb); (try clear hb2); (try clear hk); (try clear hi)) | (go_at_call 83; (with_reducible refine (strconv_Atoi.zUX a0 t194 q196 _ ?side1 A18.out).mono ?_); (case side1 => exact GI.below HG.out (eG HB.out)); rintro e w22 ⟨bE, rfl, hb⟩; have n0_ := zA.mk (zF (eG HB.out) hb); clear HB; have HB := n0_; clear n0_; (try clear hb); (try clear hb2); (try clear hk); (try clear hi); (try simp only [zN, zM]))); try go_wp2_with (first | (go_at_call 82; (with_reducible refine (vP.calls a0 (⟨#[48, 49, 50, 51, 52, 53, 54, 55, 56, 57]⟩ : ByteArray) t193 _ A16.out).mono ?_); rintro e w21 ⟨rfl, hb⟩; have n0_ := zA.mk (zF (eG HB.out) hb); clear HB; have HB := n0_; clear n0_; (try clear hb); (try clear hb2); (try clear hk); (try clear hi)) | (go_at_call 83; (with_reducible refine (strconv_Atoi.zUX a0 t194 q196 _ ?side1 A18.out).mono ?_); (case side1 => exact GI.below HG.out (eG HB.out)); rintro e w22 ⟨bE, rfl, hb⟩; have n0_ := zA.mk (zF (eG HB.out) hb); clear HB; have HB := n0_; clear n0_; (try clear hb); (try clear hb2); (try clear hk); (try clear hi); (try simp only [zN, zM]))))
      go_ret2
      exact ⟨by first | rfl | (simp [zN, zM] <;> rfl) | (simp [*, zN, zM] <;> rfl), eG HB.out⟩
    ·
     rw [if_neg c17] at H; have c17b0 : (t193.toList == ([] : List UInt8)) = false := beq_eq_false_iff_ne.mpr c17; have c17b1 : (t193.toList != ([] : List UInt8)) = true := bne_iff_ne.mpr c17; simp only [Option.some.injEq, Prod.mk.injEq] at H; obtain ⟨rfl, rfl⟩ := H; go_enter Tryz.func74, Tryz.ntmps74
     go_wp2_with (first | (go_at_call 82; (with_reducible refine (vP.calls a0 (⟨#[48, 49, 50, 51, 52, 53, 54, 55, 56, 57]⟩ : ByteArray) t193 _ A16.out).mono ?_); rintro e w23 ⟨rfl, hb⟩; have n0_ := zA.mk (zF (eG HB.out) hb); clear HB; have HB := n0_; clear n0_; (try clear hb); (try clear hb2); (try clear hk); (try clear hi)))
     repeat (go_quiet (first | (go_at_call 82; (with_reducible refine (vP.calls a0 (⟨#[48, 49, 50, 51, 52, 53, 54, 55, 56, 57]⟩ : ByteArray) t193 _ A16.out).mono ?_); rintro e w23 ⟨rfl, hb⟩; have n0_ := zA.mk (zF (eG HB.out) hb); clear HB; have HB := n0_; clear n0_; (try clear hb); (try clear hb2); (try clear hk); (try clear hi))); try go_wp2_with (first | (go_at_call 82; (with_reducible refine (vP.calls a0 (⟨#[48, 49, 50, 51, 52, 53, 54, 55, 56, 57]⟩ : ByteArray) t193 _ A16.out).mono ?_); rintro e w23 ⟨rfl, hb⟩; have n0_ := zA.mk (zF (eG HB.out) hb); clear HB; have HB := n0_; clear n0_; (try clear hb); (try clear hb2); (try clear hk); (try clear hi))))
     go_ret2
     exact ⟨by first | rfl | (simp [zN, zM] <;> rfl) | (simp [*, zN, zM] <;> rfl), eG HB.out⟩
def vO.j0 : Nat → List ByteArray → Bool → Option (Int × Int × Int × Bool)
 | 0, _, _ => none
 | k + 1, x4, x33 => if x33 = true then (some (0, 0, 0, false)) else (if 1 < (x4.length : Int) then ((vQ.f (rdOf ByteArray.empty x4 1)).bind fun bt205 => (if 3 < (x4.length : Int) then ((vQ.f (rdOf ByteArray.empty x4 3)).bind fun bt208 => (if 5 < (x4.length : Int) then ((vQ.f (rdOf ByteArray.empty x4 5)).bind fun bt211 => (if bt205.2 = true then (if bt208.2 = true then (some (bt205.1, bt208.1, bt211.1, bt211.2)) else (some (bt205.1, bt208.1, bt211.1, false))) else (some (bt205.1, bt208.1, bt211.1, false)))) else (none))) else (none))) else (none))
def vO.f (k : Nat) (a0 : ByteArray) : Option (Int × Int × Int × Bool) := (strings_Split.f a0 (⟨#[32]⟩ : ByteArray)).bind fun t198 => (if (t198.length : Int) = 6 then (if 0 < (t198.length : Int) then (if (rdOf ByteArray.empty t198 0).toList = ([99, 108, 97, 115, 115] : List UInt8) then (if 2 < (t198.length : Int) then (if (rdOf ByteArray.empty t198 2).toList = ([102, 114, 111, 109] : List UInt8) then (if 4 < (t198.length : Int) then (vO.j0 k t198 ((rdOf ByteArray.empty t198 4).toList != ([97, 116] : List UInt8))) else (none)) else (vO.j0 k t198 true)) else (none)) else (vO.j0 k t198 true)) else (none)) else (vO.j0 k t198 true))
set_option maxHeartbeats 8000000 in
set_option maxRecDepth 100000 in
theorem vO.calls (k : Nat) (a0 : ByteArray) (r1 : Int) (r2 : Int) (r3 : Int) (r4 : Bool) (w : World) (hG : GI w) (h : vO.f k a0 = some (r1, r2, r3, r4)) :
  Calls Tryz.prog 60 #[.string a0] w fun e w' => e = .returned (.tuple #[.agg #[.int .i64 r1, .int .i64 r2, .int .i64 r3], .bool r4]) ∧ Below w.heap.size w w' := by
 have hu26 := Tryz.underlying26; have HG := zA.mk hG; clear hG; have HB := zA.mk (Below.refl w.heap.size w); have H : ((strings_Split.f a0 (⟨#[32]⟩ : ByteArray)).bind fun t198 => (if (t198.length : Int) = 6 then (if 0 < (t198.length : Int) then (if (rdOf ByteArray.empty t198 0).toList = ([99, 108, 97, 115, 115] : List UInt8) then (if 2 < (t198.length : Int) then (if (rdOf ByteArray.empty t198 2).toList = ([102, 114, 111, 109] : List UInt8) then (if 4 < (t198.length : Int) then (vO.j0 k t198 ((rdOf ByteArray.empty t198 4).toList != ([97, 116] : List UInt8))) else (none)) else (vO.j0 k t198 true)) else (none)) else (vO.j0 k t198 true)) else (none)) else (vO.j0 k t198 true))) = some (r1, r2, r3, r4) := h; clear h; replace H := Option.bind_eq_some_iff.mp H; obtain ⟨t198, A20, H⟩ := H; replace H : (if (t198.length : Int) = 6 then (if 0 < (t198.length : Int) then (if (rdOf ByteArray.empty t198 0).toList = ([99, 108, 97, 115, 115] : List UInt8) then (if 2 < (t198.length : Int) then (if (rdOf ByteArray.empty t198 2).toList = ([102, 114, 111, 109] : List UInt8) then (if 4 < (t198.length : Int) then (vO.j0 k t198 ((rdOf ByteArray.empty t198 4).toList != ([97, 116] : List UInt8))) else (none)) else (vO.j0 k t198 true)) else (none)) else (vO.j0 k t198 true)) else (none)) else (vO.j0 k t198 true)) = some (r1, r2, r3, r4) := H; have A2 := zA.mk A20; clear A20; have HC3 := zA.mk H; clear H; go_enter Tryz.func60, Tryz.ntmps60
 go_upto_region 2 with (first | ((with_reducible refine wF (N := 2) rfl ?_); refine wA ?hg (N := 2) ?hd (cs := #[.int .i64 0, .int .i64 0, .int .i64 0]) (t := 26) ?hr ?_; (case hd => rfl); (case hg => rfl); (case hr => first | (go_simp; done) | (go_simp; rfl)); intro zEQ hg w4 hbox hb; have n0_ := zA.mk (zF (eG HB.out) hb); have n1_ := zA.mk (hbox); have n2_ := zA.mk ((by rw [hg]; exact (zE (eG HB.out)) : w.heap.size ≤ zEQ)); have n3_ := zA.mk ((by rw [hg]; exact (zE (eG HB.out)) : w.heap.size ≤ zEQ)); clear HB; have HB := n0_; have jC := n1_; have GW197 := n2_; have GE197 := n3_; have ig197_ := geI GE197; clear n0_ n1_ n2_ n3_; clear hb hbox hg) | ((with_reducible refine zQ (f := 73) rfl ?_); refine vB (some 12) rfl rfl Tryz.func73 (by kernel_rfl) rfl #[.string a0, .string (⟨#[32]⟩ : ByteArray)] rfl (by (try simp only [List.map_toArray, List.map_cons, List.map_nil]); first | done | rfl | (simp only [List.length_drop, List.length_take]; rfl)) ?_; (with_reducible refine (strings_Split.calls a0 (⟨#[32]⟩ : ByteArray) t198 _ ?side1 A2.out).mono ?_); (case side1 => exact GI.below HG.out (eG HB.out)); rintro e w5 ⟨v199, rfl, ho0, hb⟩; refine ⟨_, rfl, ?_⟩; have n0_ := zA.mk (Kd.yK ho0 (zE (eG HB.out))); have n1_ := zA.mk (zG (bG jC.out) hb); have n2_ := zA.mk (zF (eG HB.out) hb); clear jC; clear HB; have zJA := n0_; have jC := n1_; have HB := n2_; clear n0_ n1_ n2_; (try clear hb); (try clear hb2); (try clear hk); (try clear hi); (try clear ho0)))
 (try simp only [Act.put, sIA, sC0, sCS])
 go_cut [33] (fun v33 wc => ∃ (kq : Nat) (x33_2 : Bool), v33 = .bool x33_2 ∧ zA (vO.j0 kq t198 x33_2 = some (r1, r2, r3, r4)) ∧ zA (kq ≤ k) ∧ zA (Kd.R Kd.string 9 wc w.heap.size (fun _ => True) v199 t198) ∧ zA (wc.heap[zEQ]? = some (.cells #[.int .i64 0, .int .i64 0, .int .i64 0] 26 (0, 0))) ∧ zA (Below w.heap.size w wc))
 case first =>
  have H := HC3.out; clear HC3; by_cases c6 : (t198.length : Int) = 6
  ·
   rw [if_pos c6] at H; have c6b0 : ((t198.length : Int) == 6) = true := beq_iff_eq.mpr c6; have c6b1 : ((t198.length : Int) != 6) = false := bne_eq_false_iff_eq.mpr c6; clear c6; (first | rw [c6b0] | (simp only [wJ, wK]; rw [c6b0]) | skip)
   by_cases c7 : 0 < (t198.length : Int)
   ·
    rw [if_pos c7] at H; have c7b0 : decide (0 < (t198.length : Int)) = true := decide_eq_true c7; have c7b1 : decide (0 < t198.length) = true := decide_eq_true (by omega); clear c7; by_cases c8 : (rdOf ByteArray.empty t198 0).toList = ([99, 108, 97, 115, 115] : List UInt8)
    ·
     rw [if_pos c8] at H; have c8b0 : ((rdOf ByteArray.empty t198 0).toList == ([99, 108, 97, 115, 115] : List UInt8)) = true := beq_iff_eq.mpr c8; have c8b1 : ((rdOf ByteArray.empty t198 0).toList != ([99, 108, 97, 115, 115] : List UInt8)) = false := bne_eq_false_iff_eq.mpr c8; clear c8; by_cases c9 : 2 < (t198.length : Int)
     ·
      rw [if_pos c9] at H; have c9b0 : decide (2 < (t198.length : Int)) = true := decide_eq_true c9; have c9b1 : decide (2 < t198.length) = true := decide_eq_true (by omega); clear c9; by_cases c10 : (rdOf ByteArray.empty t198 2).toList = ([102, 114, 111, 109] : List UInt8)
      ·
       rw [if_pos c10] at H; have c10b0 : ((rdOf ByteArray.empty t198 2).toList == ([102, 114, 111, 109] : List UInt8)) = true := beq_iff_eq.mpr c10; have c10b1 : ((rdOf ByteArray.empty t198 2).toList != ([102, 114, 111, 109] : List UInt8)) = false := bne_eq_false_iff_eq.mpr c10; clear c10; by_cases c11 : 4 < (t198.length : Int)
       ·
        rw [if_pos c11] at H; have c11b0 : decide (4 < (t198.length : Int)) = true := decide_eq_true c11; have c11b1 : decide (4 < t198.length) = true := decide_eq_true (by omega); clear c11; have H' := zA.mk H; clear H; obtain ⟨Ao12, co12, eo12⟩ := Kd.vG zJA.out; subst eo12; have p201 : 0 ≤ (0 : Int) := (by omega); have q201 : 0 < (t198.length : Int) := of_decide_eq_true (by first | (with_reducible assumption) | assumption); obtain ⟨ad201, e201, zEM⟩ := Kd.wH (Kd.zU zJA.out).2.2 0 p201 q201; cases e201; have qi201 : (0 < t198.length) = True := eq_true (by omega); (try rw [show ((0 : Int)).toNat = 0 from rfl] at zEM)
        (try rw [Addr.add_zero'] at zEM)
        replace p201 := eq_true p201; replace q201 := eq_true q201; have p202 : 0 ≤ (2 : Int) := (by omega); have q202 : 2 < (t198.length : Int) := of_decide_eq_true (by first | (with_reducible assumption) | assumption); obtain ⟨ad202, e202, zJG⟩ := Kd.wH (Kd.zU zJA.out).2.2 2 p202 q202; obtain rfl : ad201 = ad202 := (by injection e202); (try simp only [show (2 : Int).toNat = 2 from rfl, Nat.reduceMul, Nat.reduceEqDiff, Go.Addr.add, ↓reduceIte] at zJG)
        have qi202 : (2 < t198.length) = True := eq_true (by omega); (try rw [show ((2 : Int)).toNat = 2 from rfl] at zJG)
        replace p202 := eq_true p202; replace q202 := eq_true q202; have p203 : 0 ≤ (4 : Int) := (by omega); have q203 : 4 < (t198.length : Int) := of_decide_eq_true (by first | (with_reducible assumption) | assumption); obtain ⟨ad203, e203, zSM⟩ := Kd.wH (Kd.zU zJA.out).2.2 4 p203 q203; obtain rfl : ad201 = ad203 := (by injection e203); (try simp only [show (4 : Int).toNat = 4 from rfl, Nat.reduceMul, Nat.reduceEqDiff, Go.Addr.add, ↓reduceIte] at zSM)
        have qi203 : (4 < t198.length) = True := eq_true (by omega); (try rw [show ((4 : Int)).toNat = 4 from rfl] at zSM)
        replace p203 := eq_true p203; replace q203 := eq_true q203; go_wp2; go_meet
        case rel => exact ⟨_, (((rdOf ByteArray.empty t198 4).toList != ([97, 116] : List UInt8))), (by first | rfl | (simp; done) | (simp [*]; done)), H', ⟨by first | omega | exact Nat.le_refl _⟩, ⟨by (with_reducible repeat (first | apply Kd.zT | apply Kd.zS | apply Kd.wD)); exact zJA.out⟩, ⟨by (with_reducible repeat first | apply bN | apply bD | apply bA); exact jC.out⟩, ⟨eG HB.out⟩⟩
       · rw [if_neg c11] at H; exact absurd H (by simp)
      ·
       rw [if_neg c10] at H; have c10b0 : ((rdOf ByteArray.empty t198 2).toList == ([102, 114, 111, 109] : List UInt8)) = false := beq_eq_false_iff_ne.mpr c10; have c10b1 : ((rdOf ByteArray.empty t198 2).toList != ([102, 114, 111, 109] : List UInt8)) = true := bne_iff_ne.mpr c10; have H' := zA.mk H; clear H; obtain ⟨Ao13, co13, eo13⟩ := Kd.vG zJA.out; subst eo13; have p201 : 0 ≤ (0 : Int) := (by omega); have q201 : 0 < (t198.length : Int) := of_decide_eq_true (by first | (with_reducible assumption) | assumption); obtain ⟨ad201, e201, zEM⟩ := Kd.wH (Kd.zU zJA.out).2.2 0 p201 q201; cases e201; have qi201 : (0 < t198.length) = True := eq_true (by omega); (try rw [show ((0 : Int)).toNat = 0 from rfl] at zEM)
       (try rw [Addr.add_zero'] at zEM)
       replace p201 := eq_true p201; replace q201 := eq_true q201; have p202 : 0 ≤ (2 : Int) := (by omega); have q202 : 2 < (t198.length : Int) := of_decide_eq_true (by first | (with_reducible assumption) | assumption); obtain ⟨ad202, e202, zJG⟩ := Kd.wH (Kd.zU zJA.out).2.2 2 p202 q202; obtain rfl : ad201 = ad202 := (by injection e202); (try simp only [show (2 : Int).toNat = 2 from rfl, Nat.reduceMul, Nat.reduceEqDiff, Go.Addr.add, ↓reduceIte] at zJG)
       have qi202 : (2 < t198.length) = True := eq_true (by omega); (try rw [show ((2 : Int)).toNat = 2 from rfl] at zJG)
       replace p202 := eq_true p202; replace q202 := eq_true q202; go_wp2; go_meet
       case rel => exact ⟨_, (true), (by first | rfl | (simp; done) | (simp [*]; done)), H', ⟨by first | omega | exact Nat.le_refl _⟩, ⟨by (with_reducible repeat (first | apply Kd.zT | apply Kd.zS | apply Kd.wD)); exact zJA.out⟩, ⟨by (with_reducible repeat first | apply bN | apply bD | apply bA); exact jC.out⟩, ⟨eG HB.out⟩⟩
     · rw [if_neg c9] at H; exact absurd H (by simp)
    ·
     rw [if_neg c8] at H; have c8b0 : ((rdOf ByteArray.empty t198 0).toList == ([99, 108, 97, 115, 115] : List UInt8)) = false := beq_eq_false_iff_ne.mpr c8; have c8b1 : ((rdOf ByteArray.empty t198 0).toList != ([99, 108, 97, 115, 115] : List UInt8)) = true := bne_iff_ne.mpr c8; have H' := zA.mk H; clear H; obtain ⟨Ao14, co14, eo14⟩ := Kd.vG zJA.out; subst eo14; have p201 : 0 ≤ (0 : Int) := (by omega); have q201 : 0 < (t198.length : Int) := of_decide_eq_true (by first | (with_reducible assumption) | assumption); obtain ⟨ad201, e201, zEM⟩ := Kd.wH (Kd.zU zJA.out).2.2 0 p201 q201; cases e201; have qi201 : (0 < t198.length) = True := eq_true (by omega); (try rw [show ((0 : Int)).toNat = 0 from rfl] at zEM)
     (try rw [Addr.add_zero'] at zEM)
     replace p201 := eq_true p201; replace q201 := eq_true q201; go_wp2; go_meet
     case rel => exact ⟨_, (true), (by first | rfl | (simp; done) | (simp [*]; done)), H', ⟨by first | omega | exact Nat.le_refl _⟩, ⟨by (with_reducible repeat (first | apply Kd.zT | apply Kd.zS | apply Kd.wD)); exact zJA.out⟩, ⟨by (with_reducible repeat first | apply bN | apply bD | apply bA); exact jC.out⟩, ⟨eG HB.out⟩⟩
   · rw [if_neg c7] at H; exact absurd H (by simp)
  ·
   rw [if_neg c6] at H; have c6b0 : ((t198.length : Int) == 6) = false := beq_eq_false_iff_ne.mpr c6; have c6b1 : ((t198.length : Int) != 6) = true := bne_iff_ne.mpr c6; (first | rw [c6b0] | (simp only [wJ, wK]; rw [c6b0]) | skip)
   have H' := zA.mk H; clear H; obtain ⟨Ao15, co15, eo15⟩ := Kd.vG zJA.out; subst eo15; go_wp2; go_meet
   case rel => exact ⟨_, (true), (by first | rfl | (simp; done) | (simp [*]; done)), H', ⟨by first | omega | exact Nat.le_refl _⟩, ⟨by (with_reducible repeat (first | apply Kd.zT | apply Kd.zS | apply Kd.wD)); exact zJA.out⟩, ⟨by (with_reducible repeat first | apply bN | apply bD | apply bA); exact jC.out⟩, ⟨eG HB.out⟩⟩
 case rest =>
  clear HC3; repeat first | clear c1 | clear p2 | clear q2 | clear hx2 | clear qi2 | clear c6 | clear c6b0 | clear c6b1 | clear c7 | clear c7b0 | clear c7b1 | clear c8 | clear c8b0 | clear c8b1 | clear c9 | clear c9b0 | clear c9b1 | clear c10 | clear c10b0 | clear c10b1 | clear c11 | clear c11b0 | clear c11b1 | clear zEM | clear zJG | clear zSM | clear p201 | clear p202 | clear p203 | clear q201 | clear q202 | clear q203
  obtain ⟨kq, x33_2, rfl, HA, HJ2, zEX, jC, HB⟩ := hcut
  cases kq with
  | zero => exact absurd HA.out (by simp [vO.j0])
  | succ kj2 =>
   have H := HA.out; clear HA; simp only [vO.j0] at H; by_cases c16 : x33_2 = true
   ·
    subst c16; replace H : (some (0, 0, 0, false)) = some (r1, r2, r3, r4) := by rw [if_pos rfl] at H; exact H
    simp only [Option.some.injEq, Prod.mk.injEq] at H; obtain ⟨rfl, rfl, rfl, rfl⟩ := H; have zUM : wc.cell? ⟨zEQ, 0, none⟩ = some (.int .i64 0) := (zC jC.out 0).trans rfl; have zUL : wc.cell? ⟨zEQ, 1, none⟩ = some (.int .i64 0) := (zC jC.out 1).trans rfl; have hcz17_2 : wc.cell? ⟨zEQ, 2, none⟩ = some (.int .i64 0) := (zC jC.out 2).trans rfl; have zTK := zB jC.out 0; have zTJ := zB jC.out 1; have hfz17_2 := zB jC.out 2; go_wp2; refine bodyPost_ret (jE rfl _ _ zEQ 26 #[.int .i64 0, .int .i64 0, .int .i64 0] (0, 0) _ rfl (by (with_reducible repeat first | apply bN | apply bD | apply bA); refine wE (cs := #[.int .i64 0, .int .i64 0, .int .i64 0]) ?_ 2 _ rfl; (with_reducible repeat first | apply bN | apply bD | apply bA); refine wE (cs := #[.int .i64 0, .int .i64 0, .int .i64 0]) ?_ 1 _ rfl; (with_reducible repeat first | apply bN | apply bD | apply bA); refine wE (cs := #[.int .i64 0, .int .i64 0, .int .i64 0]) ?_ 0 _ rfl; (with_reducible repeat first | apply bN | apply bD | apply bA); exact jC.out) Tryz.underlying26 rfl (by kernel_rfl)) rfl ?_; exact ⟨by first | rfl | (simp [zN, zM] <;> rfl) | (simp [*, zN, zM] <;> rfl), eG HB.out⟩
   ·
    replace c16 := Bool.eq_false_iff.mpr c16; subst c16; replace H : (if 1 < (t198.length : Int) then ((vQ.f (rdOf ByteArray.empty t198 1)).bind fun bt205 => (if 3 < (t198.length : Int) then ((vQ.f (rdOf ByteArray.empty t198 3)).bind fun bt208 => (if 5 < (t198.length : Int) then ((vQ.f (rdOf ByteArray.empty t198 5)).bind fun bt211 => (if bt205.2 = true then (if bt208.2 = true then (some (bt205.1, bt208.1, bt211.1, bt211.2)) else (some (bt205.1, bt208.1, bt211.1, false))) else (some (bt205.1, bt208.1, bt211.1, false)))) else (none))) else (none))) else (none)) = some (r1, r2, r3, r4) := by rw [if_neg (show ¬ (false = true) by decide)] at H; exact H
    by_cases c18 : 1 < (t198.length : Int)
    ·
     rw [if_pos c18] at H; have c18b0 : decide (1 < (t198.length : Int)) = true := decide_eq_true c18; have c18b1 : decide (1 < t198.length) = true := decide_eq_true (by omega); clear c18; replace H := Option.bind_eq_some_iff.mp H; obtain ⟨⟨t205, t206⟩, A190, H⟩ := H; replace H : (if 3 < (t198.length : Int) then ((vQ.f (rdOf ByteArray.empty t198 3)).bind fun bt208 => (if 5 < (t198.length : Int) then ((vQ.f (rdOf ByteArray.empty t198 5)).bind fun bt211 => (if t206 = true then (if bt208.2 = true then (some (t205, bt208.1, bt211.1, bt211.2)) else (some (t205, bt208.1, bt211.1, false))) else (some (t205, bt208.1, bt211.1, false)))) else (none))) else (none)) = some (r1, r2, r3, r4) := H; have A19 := zA.mk A190; clear A190; by_cases c20 : 3 < (t198.length : Int)
     ·
      rw [if_pos c20] at H; have c20b0 : decide (3 < (t198.length : Int)) = true := decide_eq_true c20; have c20b1 : decide (3 < t198.length) = true := decide_eq_true (by omega); clear c20; replace H := Option.bind_eq_some_iff.mp H; obtain ⟨⟨t208, t209⟩, A210, H⟩ := H; replace H : (if 5 < (t198.length : Int) then ((vQ.f (rdOf ByteArray.empty t198 5)).bind fun bt211 => (if t206 = true then (if t209 = true then (some (t205, t208, bt211.1, bt211.2)) else (some (t205, t208, bt211.1, false))) else (some (t205, t208, bt211.1, false)))) else (none)) = some (r1, r2, r3, r4) := H; have A21 := zA.mk A210; clear A210; by_cases c22 : 5 < (t198.length : Int)
      ·
       rw [if_pos c22] at H; have c22b0 : decide (5 < (t198.length : Int)) = true := decide_eq_true c22; have c22b1 : decide (5 < t198.length) = true := decide_eq_true (by omega); clear c22; replace H := Option.bind_eq_some_iff.mp H; obtain ⟨⟨t211, t212⟩, A230, H⟩ := H; replace H : (if t206 = true then (if t209 = true then (some (t205, t208, t211, t212)) else (some (t205, t208, t211, false))) else (some (t205, t208, t211, false))) = some (r1, r2, r3, r4) := H; have A23 := zA.mk A230; clear A230; by_cases c24 : t206 = true
       ·
        subst c24; replace H : (if t209 = true then (some (t205, t208, t211, t212)) else (some (t205, t208, t211, false))) = some (r1, r2, r3, r4) := by rw [if_pos rfl] at H; exact H
        by_cases c25 : t209 = true
        ·
         subst c25; replace H : (some (t205, t208, t211, t212)) = some (r1, r2, r3, r4) := by rw [if_pos rfl] at H; exact H
         simp only [Option.some.injEq, Prod.mk.injEq] at H; obtain ⟨rfl, rfl, rfl, rfl⟩ := H; obtain ⟨Ao26, co26, eo26⟩ := Kd.vG zEX.out; subst eo26; have p204 : 0 ≤ (1 : Int) := (by omega); have q204 : 1 < (t198.length : Int) := of_decide_eq_true (by first | (with_reducible assumption) | assumption); obtain ⟨ad204, e204, zFI⟩ := Kd.wH (Kd.zU zEX.out).2.2 1 p204 q204; cases e204; (try simp only [show (1 : Int).toNat = 1 from rfl, Nat.reduceMul, Nat.reduceEqDiff, Go.Addr.add, ↓reduceIte] at zFI)
         have qi204 : (1 < t198.length) = True := eq_true (by omega); (try rw [show ((1 : Int)).toNat = 1 from rfl] at zFI)
         replace p204 := eq_true p204; replace q204 := eq_true q204; go_wp2_with (first | ((with_reducible refine zQ (f := 74) rfl ?_); refine vB (some 39) rfl rfl Tryz.func74 (by kernel_rfl) rfl #[.string (rdOf ByteArray.empty t198 1)] rfl (by (try simp only [List.map_toArray, List.map_cons, List.map_nil]); first | done | rfl | (simp only [List.length_drop, List.length_take]; rfl)) ?_; (with_reducible refine (vQ.calls (rdOf ByteArray.empty t198 1) t205 true _ ?side1 A19.out).mono ?_); (case side1 => exact GI.below HG.out (eG HB.out)); rintro e w27 ⟨rfl, hb⟩; refine ⟨_, rfl, ?_⟩; have n0_ := zA.mk (Kd.wB (by (with_reducible repeat (first | apply Kd.zT | apply Kd.zS | apply Kd.wD)); exact zEX.out) hb); have n1_ := zA.mk (zG (bG jC.out) hb); have n2_ := zA.mk (zF (eG HB.out) hb); clear zEX; clear jC; clear HB; have zEX := n0_; have jC := n1_; have HB := n2_; clear n0_ n1_ n2_; (try clear hb); (try clear hb2); (try clear hk); (try clear hi); have p207 : 0 ≤ (3 : Int) := (by omega); have q207 : 3 < (t198.length : Int) := of_decide_eq_true (by first | (with_reducible assumption) | assumption); obtain ⟨ad207, e207, zFH⟩ := Kd.wH (Kd.zU zEX.out).2.2 3 p207 q207; obtain rfl : ad204 = ad207 := (by injection e207); (try simp only [show (3 : Int).toNat = 3 from rfl, Nat.reduceMul, Nat.reduceEqDiff, Go.Addr.add, ↓reduceIte] at zFH); have qi207 : (3 < t198.length) = True := eq_true (by omega); (try rw [show ((3 : Int)).toNat = 3 from rfl] at zFH); replace p207 := eq_true p207; replace q207 := eq_true q207) | ((with_reducible refine zQ (f := 74) rfl ?_); refine vB (some 46) rfl rfl Tryz.func74 (by kernel_rfl) rfl #[.string (rdOf ByteArray.empty t198 3)] rfl (by (try simp only [List.map_toArray, List.map_cons, List.map_nil]); first | done | rfl | (simp only [List.length_drop, List.length_take]; rfl)) ?_; (with_reducible refine (vQ.calls (rdOf ByteArray.empty t198 3) t208 true _ ?side1 A21.out).mono ?_); (case side1 => exact GI.below HG.out (eG HB.out)); rintro e w28 ⟨rfl, hb⟩; refine ⟨_, rfl, ?_⟩; have n0_ := zA.mk (Kd.wB (by (with_reducible repeat (first | apply Kd.zT | apply Kd.zS | apply Kd.wD)); exact zEX.out) hb); have n1_ := zA.mk (zG (bG jC.out) hb); have n2_ := zA.mk (zF (eG HB.out) hb); clear zEX; clear jC; clear HB; have zEX := n0_; have jC := n1_; have HB := n2_; clear n0_ n1_ n2_; (try clear hb); (try clear hb2); (try clear hk); (try clear hi); have p210 : 0 ≤ (5 : Int) := (by omega); have q210 : 5 < (t198.length : Int) := of_decide_eq_true (by first | (with_reducible assumption) | assumption); obtain ⟨ad210, e210, zFG⟩ := Kd.wH (Kd.zU zEX.out).2.2 5 p210 q210; obtain rfl : ad204 = ad210 := (by injection e210); (try simp only [show (5 : Int).toNat = 5 from rfl, Nat.reduceMul, Nat.reduceEqDiff, Go.Addr.add, ↓reduceIte] at zFG); have qi210 : (5 < t198.length) = True := eq_true (by omega); (try rw [show ((5 : Int)).toNat = 5 from rfl] at zFG); replace p210 := eq_true p210; replace q210 := eq_true q210) | ((with_reducible refine zQ (f := 74) rfl ?_); refine vB (some 53) rfl rfl Tryz.func74 (by kernel_rfl) rfl #[.string (rdOf ByteArray.empty t198 5)] rfl (by (try simp only [List.map_toArray, List.map_cons, List.map_nil]); first | done | rfl | (simp only [List.length_drop, List.length_take]; rfl)) ?_; (with_reducible refine (vQ.calls (rdOf ByteArray.empty t198 5) t211 t212 _ ?side1 A23.out).mono ?_); (case side1 => exact GI.below HG.out (eG HB.out)); rintro e w29 ⟨rfl, hb⟩; refine ⟨_, rfl, ?_⟩; have n0_ := zA.mk (Kd.wB (by (with_reducible repeat (first | apply Kd.zT | apply Kd.zS | apply Kd.wD)); exact zEX.out) hb); have n1_ := zA.mk (zG (bG jC.out) hb); have n2_ := zA.mk (zF (eG HB.out) hb); clear zEX; clear jC; clear HB; have zEX := n0_; have jC := n1_; have HB := n2_; clear n0_ n1_ n2_; (try clear hb); (try clear hb2); (try clear hk); (try clear hi); have hcz30_0 : w29.cell? ⟨zEQ, 0, none⟩ = some (.int .i64 0) := (zC jC.out 0).trans rfl; have hcz30_1 : w29.cell? ⟨zEQ, 1, none⟩ = some (.int .i64 0) := (zC jC.out 1).trans rfl; have hcz30_2 : w29.cell? ⟨zEQ, 2, none⟩ = some (.int .i64 0) := (zC jC.out 2).trans rfl; have hfz30_0 := zB jC.out 0; have hfz30_1 := zB jC.out 1; have hfz30_2 := zB jC.out 2))
         refine bodyPost_ret (jE rfl _ _ zEQ 26 #[.int .i64 t205, .int .i64 t208, .int .i64 t211] (0, 0) _ rfl (by (with_reducible repeat first | apply bN | apply bD | apply bA); refine wE (cs := #[.int .i64 t205, .int .i64 t208, .int .i64 0]) ?_ 2 _ rfl; (with_reducible repeat first | apply bN | apply bD | apply bA); refine wE (cs := #[.int .i64 t205, .int .i64 0, .int .i64 0]) ?_ 1 _ rfl; (with_reducible repeat first | apply bN | apply bD | apply bA); refine wE (cs := #[.int .i64 0, .int .i64 0, .int .i64 0]) ?_ 0 _ rfl; (with_reducible repeat first | apply bN | apply bD | apply bA); exact jC.out) Tryz.underlying26 rfl (by kernel_rfl)) rfl ?_; exact ⟨by first | rfl | (simp [zN, zM] <;> rfl) | (simp [*, zN, zM] <;> rfl), eG HB.out⟩
        ·
         replace c25 := Bool.eq_false_iff.mpr c25; subst c25; replace H : (some (t205, t208, t211, false)) = some (r1, r2, r3, r4) := by rw [if_neg (show ¬ (false = true) by decide)] at H; exact H
         simp only [Option.some.injEq, Prod.mk.injEq] at H; obtain ⟨rfl, rfl, rfl, rfl⟩ := H; obtain ⟨Ao31, co31, eo31⟩ := Kd.vG zEX.out; subst eo31; have p204 : 0 ≤ (1 : Int) := (by omega); have q204 : 1 < (t198.length : Int) := of_decide_eq_true (by first | (with_reducible assumption) | assumption); obtain ⟨ad204, e204, zFI⟩ := Kd.wH (Kd.zU zEX.out).2.2 1 p204 q204; cases e204; (try simp only [show (1 : Int).toNat = 1 from rfl, Nat.reduceMul, Nat.reduceEqDiff, Go.Addr.add, ↓reduceIte] at zFI)
         have qi204 : (1 < t198.length) = True := eq_true (by omega); (try rw [show ((1 : Int)).toNat = 1 from rfl] at zFI)
         replace p204 := eq_true p204; replace q204 := eq_true q204; go_wp2_with (first | ((with_reducible refine zQ (f := 74) rfl ?_); refine vB (some 39) rfl rfl Tryz.func74 (by kernel_rfl) rfl #[.string (rdOf ByteArray.empty t198 1)] rfl (by (try simp only [List.map_toArray, List.map_cons, List.map_nil]); first | done | rfl | (simp only [List.length_drop, List.length_take]; rfl)) ?_; (with_reducible refine (vQ.calls (rdOf ByteArray.empty t198 1) t205 true _ ?side1 A19.out).mono ?_); (case side1 => exact GI.below HG.out (eG HB.out)); rintro e w32 ⟨rfl, hb⟩; refine ⟨_, rfl, ?_⟩; have n0_ := zA.mk (Kd.wB (by (with_reducible repeat (first | apply Kd.zT | apply Kd.zS | apply Kd.wD)); exact zEX.out) hb); have n1_ := zA.mk (zG (bG jC.out) hb); have n2_ := zA.mk (zF (eG HB.out) hb); clear zEX; clear jC; clear HB; have zEX := n0_; have jC := n1_; have HB := n2_; clear n0_ n1_ n2_; (try clear hb); (try clear hb2); (try clear hk); (try clear hi); have p207 : 0 ≤ (3 : Int) := (by omega); have q207 : 3 < (t198.length : Int) := of_decide_eq_true (by first | (with_reducible assumption) | assumption); obtain ⟨ad207, e207, zFH⟩ := Kd.wH (Kd.zU zEX.out).2.2 3 p207 q207; obtain rfl : ad204 = ad207 := (by injection e207); (try simp only [show (3 : Int).toNat = 3 from rfl, Nat.reduceMul, Nat.reduceEqDiff, Go.Addr.add, ↓reduceIte] at zFH); have qi207 : (3 < t198.length) = True := eq_true (by omega); (try rw [show ((3 : Int)).toNat = 3 from rfl] at zFH); replace p207 := eq_true p207; replace q207 := eq_true q207) | ((with_reducible refine zQ (f := 74) rfl ?_); refine vB (some 46) rfl rfl Tryz.func74 (by kernel_rfl) rfl #[.string (rdOf ByteArray.empty t198 3)] rfl (by (try simp only [List.map_toArray, List.map_cons, List.map_nil]); first | done | rfl | (simp only [List.length_drop, List.length_take]; rfl)) ?_; (with_reducible refine (vQ.calls (rdOf ByteArray.empty t198 3) t208 false _ ?side1 A21.out).mono ?_); (case side1 => exact GI.below HG.out (eG HB.out)); rintro e w33 ⟨rfl, hb⟩; refine ⟨_, rfl, ?_⟩; have n0_ := zA.mk (Kd.wB (by (with_reducible repeat (first | apply Kd.zT | apply Kd.zS | apply Kd.wD)); exact zEX.out) hb); have n1_ := zA.mk (zG (bG jC.out) hb); have n2_ := zA.mk (zF (eG HB.out) hb); clear zEX; clear jC; clear HB; have zEX := n0_; have jC := n1_; have HB := n2_; clear n0_ n1_ n2_; (try clear hb); (try clear hb2); (try clear hk); (try clear hi); have p210 : 0 ≤ (5 : Int) := (by omega); have q210 : 5 < (t198.length : Int) := of_decide_eq_true (by first | (with_reducible assumption) | assumption); obtain ⟨ad210, e210, zFG⟩ := Kd.wH (Kd.zU zEX.out).2.2 5 p210 q210; obtain rfl : ad204 = ad210 := (by injection e210); (try simp only [show (5 : Int).toNat = 5 from rfl, Nat.reduceMul, Nat.reduceEqDiff, Go.Addr.add, ↓reduceIte] at zFG); have qi210 : (5 < t198.length) = True := eq_true (by omega); (try rw [show ((5 : Int)).toNat = 5 from rfl] at zFG); replace p210 := eq_true p210; replace q210 := eq_true q210) | ((with_reducible refine zQ (f := 74) rfl ?_); refine vB (some 53) rfl rfl Tryz.func74 (by kernel_rfl) rfl #[.string (rdOf ByteArray.empty t198 5)] rfl (by (try simp only [List.map_toArray, List.map_cons, List.map_nil]); first | done | rfl | (simp only [List.length_drop, List.length_take]; rfl)) ?_; (with_reducible refine (vQ.calls (rdOf ByteArray.empty t198 5) t211 t212 _ ?side1 A23.out).mono ?_); (case side1 => exact GI.below HG.out (eG HB.out)); rintro e w34 ⟨rfl, hb⟩; refine ⟨_, rfl, ?_⟩; have n0_ := zA.mk (Kd.wB (by (with_reducible repeat (first | apply Kd.zT | apply Kd.zS | apply Kd.wD)); exact zEX.out) hb); have n1_ := zA.mk (zG (bG jC.out) hb); have n2_ := zA.mk (zF (eG HB.out) hb); clear zEX; clear jC; clear HB; have zEX := n0_; have jC := n1_; have HB := n2_; clear n0_ n1_ n2_; (try clear hb); (try clear hb2); (try clear hk); (try clear hi); have zUH : w34.cell? ⟨zEQ, 0, none⟩ = some (.int .i64 0) := (zC jC.out 0).trans rfl; have zUG : w34.cell? ⟨zEQ, 1, none⟩ = some (.int .i64 0) := (zC jC.out 1).trans rfl; have zUF : w34.cell? ⟨zEQ, 2, none⟩ = some (.int .i64 0) := (zC jC.out 2).trans rfl; have zTF := zB jC.out 0; have zTE := zB jC.out 1; have zTD := zB jC.out 2))
         refine bodyPost_ret (jE rfl _ _ zEQ 26 #[.int .i64 t205, .int .i64 t208, .int .i64 t211] (0, 0) _ rfl (by (with_reducible repeat first | apply bN | apply bD | apply bA); refine wE (cs := #[.int .i64 t205, .int .i64 t208, .int .i64 0]) ?_ 2 _ rfl; (with_reducible repeat first | apply bN | apply bD | apply bA); refine wE (cs := #[.int .i64 t205, .int .i64 0, .int .i64 0]) ?_ 1 _ rfl; (with_reducible repeat first | apply bN | apply bD | apply bA); refine wE (cs := #[.int .i64 0, .int .i64 0, .int .i64 0]) ?_ 0 _ rfl; (with_reducible repeat first | apply bN | apply bD | apply bA); exact jC.out) Tryz.underlying26 rfl (by kernel_rfl)) rfl ?_; exact ⟨by first | rfl | (simp [zN, zM] <;> rfl) | (simp [*, zN, zM] <;> rfl), eG HB.out⟩
       ·
        replace c24 := Bool.eq_false_iff.mpr c24; subst c24; replace H : (some (t205, t208, t211, false)) = some (r1, r2, r3, r4) := by rw [if_neg (show ¬ (false = true) by decide)] at H; exact H
        simp only [Option.some.injEq, Prod.mk.injEq] at H; obtain ⟨rfl, rfl, rfl, rfl⟩ := H; obtain ⟨Ao36, co36, eo36⟩ := Kd.vG zEX.out; subst eo36; have p204 : 0 ≤ (1 : Int) := (by omega); have q204 : 1 < (t198.length : Int) := of_decide_eq_true (by first | (with_reducible assumption) | assumption); obtain ⟨ad204, e204, zFI⟩ := Kd.wH (Kd.zU zEX.out).2.2 1 p204 q204; cases e204; (try simp only [show (1 : Int).toNat = 1 from rfl, Nat.reduceMul, Nat.reduceEqDiff, Go.Addr.add, ↓reduceIte] at zFI)
        have qi204 : (1 < t198.length) = True := eq_true (by omega); (try rw [show ((1 : Int)).toNat = 1 from rfl] at zFI)
        replace p204 := eq_true p204; replace q204 := eq_true q204; go_wp2_with (first | ((with_reducible refine zQ (f := 74) rfl ?_); refine vB (some 39) rfl rfl Tryz.func74 (by kernel_rfl) rfl #[.string (rdOf ByteArray.empty t198 1)] rfl (by (try simp only [List.map_toArray, List.map_cons, List.map_nil]); first | done | rfl | (simp only [List.length_drop, List.length_take]; rfl)) ?_; (with_reducible refine (vQ.calls (rdOf ByteArray.empty t198 1) t205 false _ ?side1 A19.out).mono ?_); (case side1 => exact GI.below HG.out (eG HB.out)); rintro e w37 ⟨rfl, hb⟩; refine ⟨_, rfl, ?_⟩; have n0_ := zA.mk (Kd.wB (by (with_reducible repeat (first | apply Kd.zT | apply Kd.zS | apply Kd.wD)); exact zEX.out) hb); have n1_ := zA.mk (zG (bG jC.out) hb); have n2_ := zA.mk (zF (eG HB.out) hb); clear zEX; clear jC; clear HB; have zEX := n0_; have jC := n1_; have HB := n2_; clear n0_ n1_ n2_; (try clear hb); (try clear hb2); (try clear hk); (try clear hi); have p207 : 0 ≤ (3 : Int) := (by omega); have q207 : 3 < (t198.length : Int) := of_decide_eq_true (by first | (with_reducible assumption) | assumption); obtain ⟨ad207, e207, zFH⟩ := Kd.wH (Kd.zU zEX.out).2.2 3 p207 q207; obtain rfl : ad204 = ad207 := (by injection e207); (try simp only [show (3 : Int).toNat = 3 from rfl, Nat.reduceMul, Nat.reduceEqDiff, Go.Addr.add, ↓reduceIte] at zFH); have qi207 : (3 < t198.length) = True := eq_true (by omega); (try rw [show ((3 : Int)).toNat = 3 from rfl] at zFH); replace p207 := eq_true p207; replace q207 := eq_true q207) | ((with_reducible refine zQ (f := 74) rfl ?_); refine vB (some 46) rfl rfl Tryz.func74 (by kernel_rfl) rfl #[.string (rdOf ByteArray.empty t198 3)] rfl (by (try simp only [List.map_toArray, List.map_cons, List.map_nil]); first | done | rfl | (simp only [List.length_drop, List.length_take]; rfl)) ?_; (with_reducible refine (vQ.calls (rdOf ByteArray.empty t198 3) t208 t209 _ ?side1 A21.out).mono ?_); (case side1 => exact GI.below HG.out (eG HB.out)); rintro e w38 ⟨rfl, hb⟩; refine ⟨_, rfl, ?_⟩; have n0_ := zA.mk (Kd.wB (by (with_reducible repeat (first | apply Kd.zT | apply Kd.zS | apply Kd.wD)); exact zEX.out) hb); have n1_ := zA.mk (zG (bG jC.out) hb); have n2_ := zA.mk (zF (eG HB.out) hb); clear zEX; clear jC; clear HB; have zEX := n0_; have jC := n1_; have HB := n2_; clear n0_ n1_ n2_; (try clear hb); (try clear hb2); (try clear hk); (try clear hi); have p210 : 0 ≤ (5 : Int) := (by omega); have q210 : 5 < (t198.length : Int) := of_decide_eq_true (by first | (with_reducible assumption) | assumption); obtain ⟨ad210, e210, zFG⟩ := Kd.wH (Kd.zU zEX.out).2.2 5 p210 q210; obtain rfl : ad204 = ad210 := (by injection e210); (try simp only [show (5 : Int).toNat = 5 from rfl, Nat.reduceMul, Nat.reduceEqDiff, Go.Addr.add, ↓reduceIte] at zFG); have qi210 : (5 < t198.length) = True := eq_true (by omega); (try rw [show ((5 : Int)).toNat = 5 from rfl] at zFG); replace p210 := eq_true p210; replace q210 := eq_true q210) | ((with_reducible refine zQ (f := 74) rfl ?_); refine vB (some 53) rfl rfl Tryz.func74 (by kernel_rfl) rfl #[.string (rdOf ByteArray.empty t198 5)] rfl (by (try simp only [List.map_toArray, List.map_cons, List.map_nil]); first | done | rfl | (simp only [List.length_drop, List.length_take]; rfl)) ?_; (with_reducible refine (vQ.calls (rdOf ByteArray.empty t198 5) t211 t212 _ ?side1 A23.out).mono ?_); (case side1 => exact GI.below HG.out (eG HB.out)); rintro e w39 ⟨rfl, hb⟩; refine ⟨_, rfl, ?_⟩; have n0_ := zA.mk (Kd.wB (by (with_reducible repeat (first | apply Kd.zT | apply Kd.zS | apply Kd.wD)); exact zEX.out) hb); have n1_ := zA.mk (zG (bG jC.out) hb); have n2_ := zA.mk (zF (eG HB.out) hb); clear zEX; clear jC; clear HB; have zEX := n0_; have jC := n1_; have HB := n2_; clear n0_ n1_ n2_; (try clear hb); (try clear hb2); (try clear hk); (try clear hi); have hcz40_0 : w39.cell? ⟨zEQ, 0, none⟩ = some (.int .i64 0) := (zC jC.out 0).trans rfl; have hcz40_1 : w39.cell? ⟨zEQ, 1, none⟩ = some (.int .i64 0) := (zC jC.out 1).trans rfl; have hcz40_2 : w39.cell? ⟨zEQ, 2, none⟩ = some (.int .i64 0) := (zC jC.out 2).trans rfl; have hfz40_0 := zB jC.out 0; have hfz40_1 := zB jC.out 1; have hfz40_2 := zB jC.out 2))
        refine bodyPost_ret (jE rfl _ _ zEQ 26 #[.int .i64 t205, .int .i64 t208, .int .i64 t211] (0, 0) _ rfl (by (with_reducible repeat first | apply bN | apply bD | apply bA); refine wE (cs := #[.int .i64 t205, .int .i64 t208, .int .i64 0]) ?_ 2 _ rfl; (with_reducible repeat first | apply bN | apply bD | apply bA); refine wE (cs := #[.int .i64 t205, .int .i64 0, .int .i64 0]) ?_ 1 _ rfl; (with_reducible repeat first | apply bN | apply bD | apply bA); refine wE (cs := #[.int .i64 0, .int .i64 0, .int .i64 0]) ?_ 0 _ rfl; (with_reducible repeat first | apply bN | apply bD | apply bA); exact jC.out) Tryz.underlying26 rfl (by kernel_rfl)) rfl ?_; exact ⟨by first | rfl | (simp [zN, zM] <;> rfl) | (simp [*, zN, zM] <;> rfl), eG HB.out⟩
      · rw [if_neg c22] at H; exact absurd H (by simp)
     · rw [if_neg c20] at H; exact absurd H (by simp)
    · rw [if_neg c18] at H; exact absurd H (by simp)
end Go.Proofs.YtholbmidciapdaaGreatDoor.Pr
namespace Go.Proofs.YtholbmidciapdaaGreatDoor.X
open Go Go.RowKit Go.Lib Go.Proofs Go.Shelf
section
variable {F : Fence} {n : Nat} {P : Program}
/-- What abides the turn of block b, and new blocks. -/
def wBZ {β : Type} (b : Nat) (J : β → World → Prop) : Prop := ∀ s W W', J s W → W.grownBy W' (some b) → J s W'
/-- What abides the turn of block b, and of whatever is no cells and lies at or beyond B. -/
def zWG {β : Type} (B b : Nat) (I : β → World → Prop) : Prop :=
  ∀ s W W' row, I s W → W.grownBy W' row → (∀ r, row = some r → r = b ∨ (B ≤ r ∧ ∃ o : Obj, W.heap[r]? = some o ∧ o.isCells = false)) → I s W'
/-- An iterator's contract: it hands out L, in its order; a round that goes on leaves its box as it was. -/
def SeqBox {α : Type} (F : Fence) (n : Nat) (P : Program) (g : Nat) (lb : Array Value) (encs : α → Array Value) (b : Nat) (G : World → Prop) (L : List α) (w : World) : Prop :=
  ∀ (l : Nat) (J Jx : List α → World → Prop) (W : World), Below w.heap.size w W → (∀ pre W1, J pre W1 → G W1) → wBZ b J → wBZ b Jx →
    (∀ pre x W1, J pre W1 → pre ++ [x] <+: L → YieldAt F (n - 1) P l (encs x) W1 fun e W' =>
      (e = .returned (.bool true) ∧ J (pre ++ [x]) W' ∧ W'.heap[b]? = W1.heap[b]?) ∨ (e = .returned (.bool false) ∧ Jx (pre ++ [x]) W')) →
    J [] W →
    CallsIn F n P g (#[.func (.yield l) #[] #[]] ++ lb) W fun e W' => (∃ v, e = .returned v) ∧ (J L W' ∨ (∃ pre, pre <+: L ∧ Jx pre W'))
/-- A loop's record in its three states. -/
def recAt (fn : FuncId) (tmps : Array Value) (ps : Array Tmp) (assign body : Code) (D : Nat) (st : LoopState) (pe : Option Code) : Loop := { state := st, pending := pe, fn, tmps, params := ps, assign, body, defers := D }
/-- How a round may be left. -/
def boxPost {α : Type} (B b : Nat) (I : List α → World → Prop) (Ix : List α → World → Prop) (xs : List α) (W : World) : Exit → Act → World → Prop
  | .normal, _, W' => KeepsFrom B W W' ∧ W'.heap[b]? = W.heap[b]? ∧ I xs W'
  | .ret, _, W' => KeepsFrom B W W' ∧ Ix xs W'
  | _, _, _ => False
/-- The statement, where a round goes on or returns from the function. -/
theorem zHV {α : Type} {g : Operand} {ps : Array Tmp} {assign body : Code} {Q : Exit → Act → World → Prop} {a : Act} {w : World}
    (hro : F.round = none) (h1 : 1 ≤ n) {gf : Nat} {lb : Array Value} (hg : a.eval g = .func (.func gf) #[] lb) (hFg : F.fn gf) (eg : ∀ args w, (callFunc gf args).run P w = .ok (.enter gf args) w)
    {encs : α → Array Value} {b : Nat} {G : World → Prop} {L : List α} {w0 : World} (hseq : SeqBox F (n - 1) P gf lb encs b G L w0) (hbw : b < w.heap.size)
    (hb0 : Below w0.heap.size w0 w) (hps : ∀ x, (encs x).size = ps.size)
    (I Ix : List α → World → Prop) (hIG : ∀ pre W, I pre W → G W) (hI : zWG w.heap.size b I) (hIx : zWG w.heap.size b Ix) (h0 : I [] w) (a₁ : α → Act)
    (hassign : ∀ (l : Nat) (x : α) (W : World) (K : Act → World → Prop), K (a₁ x) W →
      assign.wpIn (F.inRound l) (n - 1 - 1) P (Exit.then K (fun _ _ _ => False)) { tmps := (ps.zip (encs x)).foldl (fun t (p, v) => t.setIfInBounds p v) a.tmps, defers := [] } W)
    (hbody : ∀ (l : Nat) (pre : List α) (x : α) (W : World), I pre W → pre ++ [x] <+: L → body.wpIn (F.inRound l) (n - 1 - 1) P (boxPost w.heap.size b I Ix (pre ++ [x]) W) (a₁ x) W)
    (hdone : ∀ (W : World), I L W → W.heap[w.heap.size]? = some (.deferred (some [])) → Q .normal { a with defers := { target := .collected w.heap.size, args := #[] } :: a.defers } W)
    (hstop : ∀ (pre : List α) (W : World), pre <+: L → Ix pre W → W.heap[w.heap.size]? = some (.deferred (some [])) → Code.ret.wpIn F n P Q { a with defers := { target := .collected w.heap.size, args := #[] } :: a.defers } W) :
    (Code.rangeFunc g ps assign body).wpIn F n P Q a w := by
  refine wpIn_rangeFunc fun fn hfn => ?_
  rw [hro]
  let D := w.heap.size
  let rc := recAt fn a.tmps ps assign body D
  let W1 := (w.alloc (.deferred (some []))).alloc (.loop (rc .ready none))
  have s1 : (w.alloc (.deferred (some []))).heap.size = D + 1 := World.size_alloc ..
  have dW1 : W1.heap[D]? = some (.deferred (some [])) := (Below.heap_alloc _ _ _ (by rw [s1]; omega)).trans (World.alloc_heap_new w _)
  have lW1 : W1.heap[D + 1]? = some (.loop (rc .ready none)) := by have := World.alloc_heap_new (w.alloc (.deferred (some []))) (.loop (rc .ready none)); rwa [s1] at this
  have gW1 : w.grownBy W1 none := ⟨rfl, rfl, rfl, by show w.heap.size ≤ W1.heap.size; have := (Array.getElem?_eq_some_iff.1 lW1).1; omega, fun k hk _ => ((Below.heap_alloc _ _ _ (by rw [s1]; omega)).trans (Below.heap_alloc _ _ _ hk))⟩
  have bk : ∀ (st : LoopState) (pe : Option Code) {A B : World}, A.heap[D + 1]? = some (.loop (rc st pe)) → A.heap[D]? = some (.deferred (some [])) → A.grownBy B (some b) → B.heap[D + 1]? = some (.loop (rc st pe)) ∧ B.heap[D]? = some (.deferred (some [])) :=
    fun st pe A B h2 h3 hg2 => ⟨(hg2.block _ (Array.getElem?_eq_some_iff.1 h2).1 (fun e => by have := Option.some.inj e; omega)).trans h2, (hg2.block _ (Array.getElem?_eq_some_iff.1 h3).1 (fun e => by have := Option.some.inj e; omega)).trans h3⟩
  have turn : ∀ {J : List α → World → Prop}, zWG D b J → ∀ {s A} (o o' : Obj), A.heap[D + 1]? = some o → o.isCells = false → J s A → J s (A.putObj (D + 1) o') := fun hJ s A o o' h2 h3 hj =>
    hJ s A _ (some (D + 1)) hj (grownBy_putObj' A (D + 1) o') (fun r e => .inr ⟨by have := Option.some.inj e; omega, o, by have := Option.some.inj e; subst this; exact h2, h3⟩)
  have one : ∀ {J : List α → World → Prop}, zWG D b J → wBZ b J := fun hJ s A B hj hg2 => hJ s A B (some b) hj hg2 (fun r e => .inl (Option.some.inj e).symm)
  refine ⟨D + 1, [{ target := .collected D, args := #[] }], W1, { target := .fn (.func gf) lb, args := #[.func (.yield (D + 1)) #[] #[]] }, W1, gf, #[.func (.yield (D + 1)) #[] #[]] ++ lb, W1,
    run_enterLoop_outer _ _ _ _ _, ?_, ?_, ?_, fun _ => h1, ?_⟩
  · simp only [resolve, hg]
    simp [go_sem]
  · intro f' hf'
    simp [Target.leads] at hf'
    exact hf' ▸ hFg
  · simp [invoke, go_sem, eg]
  refine (hseq (D + 1) (fun pre W => I pre W ∧ W.heap[D + 1]? = some (.loop (rc .ready none)) ∧ W.heap[D]? = some (.deferred (some [])))
    (fun pre W => Ix pre W ∧ W.heap[D + 1]? = some (.loop (rc .done (some .ret))) ∧ W.heap[D]? = some (.deferred (some []))) W1 ?_ (fun pre W h => hIG pre W h.1) ?_ ?_ ?_ ⟨hI [] w W1 none h0 gW1 (fun r e => by cases e), lW1, dW1⟩).mono ?_
  · exact hb0.trans ⟨gW1.os, gW1.tape, gW1.output, gW1.size, fun k hk => gW1.block k (Nat.lt_of_lt_of_le hk hb0.size) (by simp)⟩
  · exact fun s A B hs hg2 => ⟨one hI s A B hs.1 hg2, bk _ _ hs.2.1 hs.2.2 hg2⟩
  · exact fun s A B hs hg2 => ⟨one hIx s A B hs.1 hg2, bk _ _ hs.2.1 hs.2.2 hg2⟩
  · rintro pre x W ⟨hi, hl, hd⟩ hlen
    have hlt := (Array.getElem?_eq_some_iff.1 hl).1
    refine ⟨fn, _, assign, body, run_yield (P := P) (args := encs x) hl (hps x), roundIn_of_wpIn hfn (hassign _ x W _ ⟨_, run_beginRound hl rfl, ?_⟩)⟩
    have hl2 : (W.putObj (D + 1) (.loop (rc .busy none))).heap[D + 1]? = some (.loop (rc .busy none)) := World.putObj_heap_same hlt
    have hd2 : (W.putObj (D + 1) (.loop (rc .busy none))).heap[D]? = some (.deferred (some [])) := (World.putObj_heap_other (by omega)).trans hd
    have hb2 : (W.putObj (D + 1) (.loop (rc .busy none))).heap[b]? = W.heap[b]? := World.putObj_heap_other (by omega)
    refine wpIn_mono (hbody _ pre x _ (turn hI _ _ hl rfl hi) hlen) ?_
    rintro e a3 W3 hp
    cases e with
    | normal =>
      obtain ⟨hk, hbx, hi3⟩ := hp
      have hl3 := hk.same _ _ (by omega) hl2 rfl
      have hd3 := hk.same _ _ (Nat.le_refl _) hd2 rfl
      exact ⟨_, _, run_endRound none hl3, .inl ⟨rfl, ⟨turn hI _ _ hl3 rfl hi3, World.putObj_heap_same (Array.getElem?_eq_some_iff.1 hl3).1, (World.putObj_heap_other (by omega)).trans hd3⟩, ((World.putObj_heap_other (by omega)).trans hbx).trans hb2⟩⟩
    | ret =>
      obtain ⟨hk, hi3⟩ := hp
      have hl3 := hk.same _ _ (by omega) hl2 rfl
      have hd3 := hk.same _ _ (Nat.le_refl _) hd2 rfl
      exact ⟨_, _, run_endRound (some .ret) hl3, .inr ⟨rfl, turn hIx _ _ hl3 rfl hi3, World.putObj_heap_same (Array.getElem?_eq_some_iff.1 hl3).1, (World.putObj_heap_other (by omega)).trans hd3⟩⟩
    | exit id => exact hp.elim
    | goto t => exact hp.elim
    | panic ch => exact hp.elim
    | outgrown => exact hp.elim
  · rintro e W2 ⟨⟨v, rfl⟩, (⟨hi, hl, hd⟩ | ⟨pre, hSp, hi, hl, hd⟩)⟩
    · exact ⟨none, _, run_endLoop hl (by simp [rc, recAt]), hdone _ (turn hI _ _ hl rfl hi) ((World.putObj_heap_other (by omega)).trans hd)⟩
    · exact ⟨some .ret, _, run_endLoop hl (by simp [rc, recAt]), hstop pre _ hSp (turn hIx _ _ hl rfl hi) ((World.putObj_heap_other (by omega)).trans hd)⟩
end
end Go.Proofs.YtholbmidciapdaaGreatDoor.X
namespace Go.Proofs.YtholbmidciapdaaGreatDoor.X
open Go Go.RowKit Go.Lib Go.Proofs Go.Shelf Go.Proofs.YtholbmidciapdaaGreatDoor.TX Go.Proofs.YtholbmidciapdaaGreatDoorW.PrintWords Go.Proofs.YtholbmidciapdaaGreatDoorW.PrintLast Go.Proofs.YtholbmidciapdaaGreatDoorW.PrintMore
attribute [local go_sem] Oper.semAt_some
/-- The lines of a text, and whether each has its line feed. -/
def lns (s : ByteArray) : List (ByteArray × Bool) := if h : s.size = 0 then [] else (⟨(cut1 10 s.data.toList).1.toArray⟩, (cut1 10 s.data.toList).2.2) :: lns ⟨(cut1 10 s.data.toList).2.1.toArray⟩
termination_by s.size
decreasing_by
  have h1 : s.data.toList.length = s.size := Array.length_toList
  show ((cut1 10 s.data.toList).2.1.toArray).size < s.size
  rw [List.size_toArray, ← h1]
  cases hb : (cut1 10 s.data.toList).2.2 with
  | true => exact zEV 10 _ hb
  | false => rw [(zHQ 10 _ hb).2]; show 0 < _; omega
theorem zRV {s : ByteArray} (h : s.size = 0) : lns s = [] := by rw [lns, dif_pos h]
theorem zVS {s : ByteArray} (h : ¬ s.size = 0) : lns s = (⟨(cut1 10 s.data.toList).1.toArray⟩, (cut1 10 s.data.toList).2.2) :: lns ⟨(cut1 10 s.data.toList).2.1.toArray⟩ := by rw [lns, dif_neg h]
theorem rest_lt {s : ByteArray} (h : ¬ s.size = 0) : (⟨(cut1 10 s.data.toList).2.1.toArray⟩ : ByteArray).size < s.size := by
  have h1 : s.data.toList.length = s.size := Array.length_toList
  show ((cut1 10 s.data.toList).2.1.toArray).size < s.size
  rw [List.size_toArray, ← h1]
  cases hb : (cut1 10 s.data.toList).2.2 with
  | true => exact zEV 10 _ hb
  | false => rw [(zHQ 10 _ hb).2]; show 0 < _; omega
def lencs (x : ByteArray × Bool) : Array Value := #[.string x.1, .bool x.2]
/-- What is left, read off the world. -/
def zYV (b : Nat) (W : World) : Nat := match W.cell? ⟨b, 0, none⟩ with
  | some (.string s) => s.size
  | _ => 0
set_option maxRecDepth 100000 in
set_option maxHeartbeats 2000000 in
theorem zYU (l b : Nat) (L : List (ByteArray × Bool)) (J Jx : List (ByteArray × Bool) → World → Prop) (text : ByteArray) (hs : text.size < 4294967281) (hL : lns text = L) (W : World) (hGI : ∀ pre W, J pre W → GI W)
    (hJ : wBZ b J) (hJx : wBZ b Jx) (hbx : Boxed W b 9 (.string text))
    (hY : ∀ pre x W1, J pre W1 → pre ++ [x] <+: L → YieldAt Fence.wide (4 - 1) Tryz.prog l (lencs x) W1 fun e W' =>
      (e = .returned (.bool true) ∧ J (pre ++ [x]) W' ∧ W'.heap[b]? = W1.heap[b]?) ∨ (e = .returned (.bool false) ∧ Jx (pre ++ [x]) W'))
    (h0 : J [] W) :
    CallsIn Fence.wide 4 Tryz.prog 70 #[.func (.yield l) #[] #[], .pointer (some ⟨b, 0, none⟩)] W fun e W' => (∃ v, e = .returned v) ∧ (J L W' ∨ (∃ pre, pre <+: L ∧ Jx pre W')) := by
  refine callsIn_of_wp Tryz.func70 rfl trivial ?_ rfl
  simp only [Tryz.ntmps70, List.size_toArray, List.length_cons, List.length_nil, Nat.reduceAdd, Nat.reduceSub, Array.replicate_succ, Array.replicate_zero, List.push_toArray, List.append_toArray, List.nil_append, List.cons_append]
  gi_wp2
  gi_loopw [] (fun wr => ∃ (pre rest : List (ByteArray × Bool)) (s : ByteArray), s.size < 4294967281 ∧ Boxed wr b 9 (.string s) ∧ lns s = rest ∧ L = pre ++ rest ∧ J pre wr)
    (fun wr => zYV b wr)
  case atStart =>
    exact ⟨[], L, text, hs, hbx, hL, rfl, h0⟩
  case round =>
    obtain ⟨pre, rest, s, hsz, hbw, hr, hx, hJs⟩ := hrel
    have hc := hbw.cell
    have hf := hbw.frozen
    have e1 : s.data.toList.length = s.size := Array.length_toList
    by_cases hz : s.size = 0
    · have tE : s.toList.isEmpty = true := by rw [ByteArray.toList_eq, show s.data.toList = [] from List.eq_nil_of_length_eq_zero (by omega)]; rfl
      rw [zRV hz] at hr
      subst hr
      gi_wp2
      go_end0
      exact ⟨⟨_, rfl⟩, .inl (by rw [hx, List.append_nil]; exact hJs)⟩
    · have tE : s.toList.isEmpty = false := by
        rw [ByteArray.toList_eq]
        cases hd : s.data.toList with
        | nil => rw [hd] at e1; exact absurd e1.symm hz
        | cons a t => rfl
      rw [zVS hz] at hr
      have hcut : strings_Cut.f s ⟨#[10]⟩ = some (⟨(cut1 10 s.data.toList).1.toArray⟩, ⟨(cut1 10 s.data.toList).2.1.toArray⟩, (cut1 10 s.data.toList).2.2) := by
        unfold strings_Cut.f
        rw [if_pos hsz]
        have e : Lib.cut s.data.toList (⟨#[10]⟩ : ByteArray).data.toList = cut1 10 s.data.toList := wAR 10 s.data.toList
        rw [e]
      have hrl := rest_lt hz
      generalize (⟨(cut1 10 s.data.toList).1.toArray⟩ : ByteArray) = line at hcut hr
      generalize (⟨(cut1 10 s.data.toList).2.1.toArray⟩ : ByteArray) = left at hcut hr hrl
      generalize (cut1 10 s.data.toList).2.2 = ok at hcut hr
      have HY := hY pre (line, ok)
      have hpre : pre ++ [(line, ok)] <+: L := ⟨lns left, by rw [hx, ← hr]; simp⟩
      gi_wp2_with (refine ⟨trivial, ?_⟩; gi_at_call 71; refine (callsIn_wide.2 (strings_Cut.calls s ⟨#[10]⟩ line left ok wr (hGI pre wr hJs) hcut)).mono ?_; rintro e w1 ⟨rfl, hb1⟩; have hg1 : wr.grownBy w1 (some b) := ⟨hb1.os, hb1.tape, hb1.output, hb1.size, fun k hk _ => hb1.block k hk⟩; have hJ1 := hJ pre wr w1 hJs hg1; have hb1w : Boxed w1 b 9 (.string s) := (hb1.block b hbw.lt).trans hbw; obtain ⟨fn, tmps, assign, body, hy, hR⟩ := HY w1 hJ1 hpre; dsimp only [lencs] at hy)
      refine hR.mono ?_
      rintro e W3 (⟨rfl, hJ3, hk3⟩ | ⟨rfl, hJx3⟩)
      · have hb3 : Boxed W3 b 9 (.string s) := hk3.trans hb1w
        have hc3 := hb3.cell
        have hf3 := hb3.frozen
        gi_wp2
        go_roundw
        case rel => exact ⟨pre ++ [(line, ok)], lns left, left, by omega, hb3.set _, rfl, by rw [hx, ← hr]; simp, hJ _ _ _ hJ3 (grownBy_setCell' W3 b _)⟩
        case measure =>
          have m1 : zYV b (W3.setCell ⟨b, 0, none⟩ (.string left)) = left.size := by unfold zYV; rw [(hb3.set (.string left)).cell]
          have m2 : zYV b wr = s.size := by unfold zYV; rw [hc]
          rw [m1, m2]
          exact hrl
      · gi_wp2
        refine bodyPost_ret (results_none rfl _ _ _) rfl ?_
        exact ⟨⟨_, rfl⟩, .inr ⟨pre ++ [(line, ok)], hpre, hJx3⟩⟩
/-- What 'lines' hands back captures a new box. -/
theorem zRW (text : ByteArray) (w : World) : CallsIn Fence.wide 4 Tryz.prog 57 #[.string text] w fun e w' => e = .returned (.func (.func 70) #[] #[.pointer (some ⟨w.heap.size, 0, none⟩)]) ∧ w' = w.alloc (.cells #[.string text] 9) := by
  refine callsIn_of_wp Tryz.func57 rfl trivial ?_ rfl
  simp only [Tryz.ntmps57, List.size_toArray, List.length_cons, List.length_nil, Nat.reduceAdd, Nat.reduceSub, Array.replicate_succ, Array.replicate_zero, List.push_toArray, List.append_toArray, List.nil_append, List.cons_append]
  gi_wp2
  go_ret
  exact ⟨rfl, rfl⟩
theorem zYT (b : Nat) (text : ByteArray) (hs : text.size < 4294967281) (w : World) (hbx : Boxed w b 9 (.string text)) :
    SeqBox Fence.wide 4 Tryz.prog 70 #[.pointer (some ⟨b, 0, none⟩)] lencs b GI (lns text) w := by
  intro l J Jx W hW hG hJ hJx hY h0
  exact zYU l b (lns text) J Jx text hs rfl W hG hJ hJx ((hW.block b hbx.lt).trans hbx) hY h0
end Go.Proofs.YtholbmidciapdaaGreatDoor.X
