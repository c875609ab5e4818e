/-
The law zHR returns true for every input that can be read as data, and leaves its arguments as they were: the row, and the card that ties the listed variables to the program's text.
No condition of its own beyond those that the given row prints.
-/
import Derived.Shelf.Spec.BitsCarry
import Derived.HandedShaped
import Derived.Handed
import Derived.Test.YtholbmidciapdaaGreatDoorCards
import Derived.Test.YtholbmidciapdaaGreatDoorTie
import Derived.ProofKit
import Derived.OpenShut
import Derived.ShutString
import Derived.ChangeOld
import Derived.SizedLaws
import Derived.LaidMore
import Derived.Lay
import Derived.MakeChecks
import Derived.SevenTiedAt
import Derived.LaidSub
import Derived.LaidOnce
import Derived.Stop.Joined
import Derived.Stop.LaidErr
import Derived.Test.YtholbmidciapdaaGreatDoorTariffTextsF
set_option linter.unusedVariables false
set_option linter.unusedSimpArgs false
namespace Go.Proofs.YtholbmidciapdaaGreatDoor.Pr
open Go.RowKit Go.Proofs.YtholbmidciapdaaGreatDoorW.PrintWords Go.Proofs.YtholbmidciapdaaGreatDoorW.PrintLast Go.Proofs.YtholbmidciapdaaGreatDoorW.PrintMore Go.Proofs.YtholbmidciapdaaGreatDoor.X
attribute [local go_sem] uR uP kP kO jN jM uQ uO   -- for this text's walks alone
set_option linter.unusedVariables false
set_option linter.unusedSimpArgs false
def zY.j0 : Nat → ByteArray → Bool → Int → List (S26) → Option (Bool)
 | 0, _, _, _, _ => none
 | k + 1, x1, x31, zXR, zXQ => if x31 = true then ((qZ.f).bind fun t511 => (some t511)) else ((uV.f zXR zXQ).bind fun bt512 => ((vI.f k bt512.1 bt512.2).bind fun bt516 => ((wN.f k zXR zXQ).bind fun bt518 => ((zL.f k x1).bind fun bt520 => ((zD.f k x1).bind fun bt527 => (if bt516.1.toList = bt518.1.toList then (if bt516.2 = bt518.2 then ((wV.f k bt520.1 bt520.2.1 bt527.1 bt527.2.1).bind fun t534 => (if t534 = true then (if bt520.2.2.1 = bt527.2.2.1 then (some (bt520.2.2.2 == bt527.2.2.2)) else (some false)) else (some false))) else (some false)) else (some false)))))))
def zY.f (k : Nat) (a0_0 : Int) (l0_1 : List (S26)) (a1 : ByteArray) : Option (Bool) := (qZ.f).bind fun t509 => (if t509 = true then ((yZ.f a0_0 l0_1).bind fun t510 => (if t510 = true then (if (a1.size : Int) > 600 then (zY.j0 k a1 ((a1.size : Int) != 4097) a0_0 l0_1) else (zY.j0 k a1 false a0_0 l0_1)) else (zY.j0 k a1 true a0_0 l0_1))) else (zY.j0 k a1 true a0_0 l0_1))
set_option maxHeartbeats 8000000 in
set_option maxRecDepth 100000 in
theorem zY.calls (k : Nat) (a0_0 : Int) (A0_1 : Option Addr) (c0_1 : Nat) (l0_1 : List (S26)) (a1 : ByteArray) (r : Bool) (w : World) (hr0_1 : Kd.C k26 w A0_1 l0_1.length l0_1) (uG : l0_1.length ≤ c0_1) (hG : GI w) (hr_ : r = true) (h : zY.f k a0_0 l0_1 a1 = some r) :
  Calls Tryz.prog 6 #[.agg #[.int .i64 a0_0, .slice A0_1 l0_1.length c0_1], .string a1] w fun e w' => e = .returned (.bool r) ∧ Below w.heap.size w w' := by
 have hu24 := Tryz.underlying24; have HR0_1 := zA.mk hr0_1; have HC0_1 := zA.mk uG; clear hr0_1 uG; have HG := zA.mk hG; clear hG; have HB := zA.mk (Below.refl w.heap.size w); have H : ((qZ.f).bind fun t509 => (if t509 = true then ((yZ.f a0_0 l0_1).bind fun t510 => (if t510 = true then (if (a1.size : Int) > 600 then (zY.j0 k a1 ((a1.size : Int) != 4097) a0_0 l0_1) else (zY.j0 k a1 false a0_0 l0_1)) else (zY.j0 k a1 true a0_0 l0_1))) else (zY.j0 k a1 true a0_0 l0_1))) = some r := h; clear h; have HC3 := zA.mk H; clear H; go_enter Tryz.func6, Tryz.ntmps6
 go_upto_region 1 with (first | ((with_reducible refine wF (N := 2) rfl ?_); (try (refine vA (by rfl) ?_; dsimp only)); refine wA ?hg (N := 2) ?hd (cs := #[.int .i64 a0_0, .slice A0_1 l0_1.length c0_1]) (t := 24) ?hr ?_; (case hd => rfl); (case hg => rfl); (case hr => first | (go_simp; done) | (go_simp; rfl)); intro zEO hg w4 hbox hb; have n0_ := zA.mk (zF (eG HB.out) hb); have n1_ := zA.mk (hbox); have n2_ := zA.mk ((by rw [hg]; exact (zE (eG HB.out)) : w.heap.size ≤ zEO)); have n3_ := zA.mk ((by rw [hg]; exact (zE (eG HB.out)) : w.heap.size ≤ zEO)); clear HB; have HB := n0_; have yG := n1_; have GW508 := n2_; have GE508 := n3_; have ig508_ := geI GE508; clear n0_ n1_ n2_ n3_; clear hb hbox hg))
 (try simp only [Act.put, sIA, sC0, sCS])
 go_cut [31] (fun v31 wc => ∃ (kq : Nat) (x31_2 : Bool), v31 = .bool x31_2 ∧ zA (zY.j0 kq a1 x31_2 a0_0 l0_1 = some r) ∧ zA (kq ≤ k) ∧ zA (wc.heap[zEO]? = some (.cells #[.int .i64 a0_0, (.slice A0_1 l0_1.length c0_1)] 24 (0, 0))) ∧ zA (Below w.heap.size w wc))
 case first =>
  have H := HC3.out; clear HC3; replace H := Option.bind_eq_some_iff.mp H; obtain ⟨t509, A50, H⟩ := H; replace H : (if t509 = true then ((yZ.f a0_0 l0_1).bind fun t510 => (if t510 = true then (if (a1.size : Int) > 600 then (zY.j0 k a1 ((a1.size : Int) != 4097) a0_0 l0_1) else (zY.j0 k a1 false a0_0 l0_1)) else (zY.j0 k a1 true a0_0 l0_1))) else (zY.j0 k a1 true a0_0 l0_1)) = some r := H; have A5 := zA.mk A50; clear A50; by_cases c6 : t509 = true
  ·
   subst c6; replace H : ((yZ.f a0_0 l0_1).bind fun t510 => (if t510 = true then (if (a1.size : Int) > 600 then (zY.j0 k a1 ((a1.size : Int) != 4097) a0_0 l0_1) else (zY.j0 k a1 false a0_0 l0_1)) else (zY.j0 k a1 true a0_0 l0_1))) = some r := by rw [if_pos rfl] at H; exact H
   replace H := Option.bind_eq_some_iff.mp H; obtain ⟨t510, A70, H⟩ := H; replace H : (if t510 = true then (if (a1.size : Int) > 600 then (zY.j0 k a1 ((a1.size : Int) != 4097) a0_0 l0_1) else (zY.j0 k a1 false a0_0 l0_1)) else (zY.j0 k a1 true a0_0 l0_1)) = some r := H; have A7 := zA.mk A70; clear A70; by_cases c8 : t510 = true
   ·
    subst c8; replace H : (if (a1.size : Int) > 600 then (zY.j0 k a1 ((a1.size : Int) != 4097) a0_0 l0_1) else (zY.j0 k a1 false a0_0 l0_1)) = some r := by rw [if_pos rfl] at H; exact H
    by_cases c9 : (a1.size : Int) > 600
    ·
     rw [if_pos c9] at H; have c9b0 : decide (600 < (a1.size : Int)) = true := decide_eq_true c9; have c9b1 : decide (600 < a1.size) = true := decide_eq_true (by omega); clear c9; (first | rw [c9b0] | (simp only [wJ, wK]; rw [c9b0]) | skip)
     have H' := zA.mk H; clear H; go_wp2_with (first | ((with_reducible refine zQ (f := 11) rfl ?_); refine vB (some 15) rfl rfl Tryz.func11 (by kernel_rfl) rfl #[] rfl (by (try simp only [List.map_toArray, List.map_cons, List.map_nil]); first | done | rfl | (simp only [List.length_drop, List.length_take]; rfl)) ?_; (with_reducible refine (qZ.calls  true _ ?side1 A5.out).mono ?_); (case side1 => exact GI.below HG.out (eG HB.out)); rintro e w10 ⟨rfl, hb⟩; refine ⟨_, rfl, ?_⟩; have n0_ := zA.mk (zG (bG yG.out) hb); have n1_ := zA.mk (zF (eG HB.out) hb); clear yG; clear HB; have yG := n0_; have HB := n1_; clear n0_ n1_; (try clear hb); (try clear hb2); (try clear hk); (try clear hi); have zHN : w10.cell? ⟨zEO, 0, none⟩ = some (.int .i64 a0_0) := (zC yG.out 0).trans rfl; have zHM : w10.cell? ⟨zEO, 1, none⟩ = some (.slice A0_1 l0_1.length c0_1) := (zC yG.out 1).trans rfl; have zHH := zB yG.out 0; have zHG := zB yG.out 1) | (go_at_call 12; (with_reducible refine (yZ.calls a0_0 _ _ l0_1 true _ ?side1 ?side2 A7.out).mono ?_); (case side1 => repeat (first | exact (Kd.qW HR0_1.out HB.out) | (with_reducible refine Kd.vZ ?_ _) | (with_reducible refine Kd.vY ?_ _) | (with_reducible refine Kd.qU ?_))); (case side2 => exact HC0_1.out); rintro e w12 ⟨rfl, hb⟩; have n0_ := zA.mk (zG (bG yG.out) hb); have n1_ := zA.mk (zF (eG HB.out) hb); clear yG; clear HB; have yG := n0_; have HB := n1_; clear n0_ n1_; (try clear hb); (try clear hb2); (try clear hk); (try clear hi)))
     go_meet
     case rel => exact ⟨_, (((a1.size : Int) != 4097)), (by first | rfl | (simp; done) | (simp [*]; done)), H', ⟨by first | omega | exact Nat.le_refl _⟩, ⟨by (with_reducible repeat first | apply bN | apply bD | apply bA); exact yG.out⟩, ⟨eG HB.out⟩⟩
    ·
     rw [if_neg c9] at H; have c9b0 : decide (600 < (a1.size : Int)) = false := decide_eq_false c9; have c9b1 : decide (600 < a1.size) = false := decide_eq_false (by omega); clear c9; (first | rw [c9b0] | (simp only [wJ, wK]; rw [c9b0]) | skip)
     have H' := zA.mk H; clear H; go_wp2_with (first | ((with_reducible refine zQ (f := 11) rfl ?_); refine vB (some 15) rfl rfl Tryz.func11 (by kernel_rfl) rfl #[] rfl (by (try simp only [List.map_toArray, List.map_cons, List.map_nil]); first | done | rfl | (simp only [List.length_drop, List.length_take]; rfl)) ?_; (with_reducible refine (qZ.calls  true _ ?side1 A5.out).mono ?_); (case side1 => exact GI.below HG.out (eG HB.out)); rintro e w13 ⟨rfl, hb⟩; refine ⟨_, rfl, ?_⟩; have n0_ := zA.mk (zG (bG yG.out) hb); have n1_ := zA.mk (zF (eG HB.out) hb); clear yG; clear HB; have yG := n0_; have HB := n1_; clear n0_ n1_; (try clear hb); (try clear hb2); (try clear hk); (try clear hi); have zUO : w13.cell? ⟨zEO, 0, none⟩ = some (.int .i64 a0_0) := (zC yG.out 0).trans rfl; have zUN : w13.cell? ⟨zEO, 1, none⟩ = some (.slice A0_1 l0_1.length c0_1) := (zC yG.out 1).trans rfl; have zTM := zB yG.out 0; have zTL := zB yG.out 1) | (go_at_call 12; (with_reducible refine (yZ.calls a0_0 _ _ l0_1 true _ ?side1 ?side2 A7.out).mono ?_); (case side1 => repeat (first | exact (Kd.qW HR0_1.out HB.out) | (with_reducible refine Kd.vZ ?_ _) | (with_reducible refine Kd.vY ?_ _) | (with_reducible refine Kd.qU ?_))); (case side2 => exact HC0_1.out); rintro e w15 ⟨rfl, hb⟩; have n0_ := zA.mk (zG (bG yG.out) hb); have n1_ := zA.mk (zF (eG HB.out) hb); clear yG; clear HB; have yG := n0_; have HB := n1_; clear n0_ n1_; (try clear hb); (try clear hb2); (try clear hk); (try clear hi)))
     go_meet
     case rel => exact ⟨_, (false), (by first | rfl | (simp; done) | (simp [*]; done)), H', ⟨by first | omega | exact Nat.le_refl _⟩, ⟨by (with_reducible repeat first | apply bN | apply bD | apply bA); exact yG.out⟩, ⟨eG HB.out⟩⟩
   ·
    replace c8 := Bool.eq_false_iff.mpr c8; subst c8; replace H : (zY.j0 k a1 true a0_0 l0_1) = some r := by rw [if_neg (show ¬ (false = true) by decide)] at H; exact H
    have H' := zA.mk H; clear H; go_wp2_with (first | ((with_reducible refine zQ (f := 11) rfl ?_); refine vB (some 15) rfl rfl Tryz.func11 (by kernel_rfl) rfl #[] rfl (by (try simp only [List.map_toArray, List.map_cons, List.map_nil]); first | done | rfl | (simp only [List.length_drop, List.length_take]; rfl)) ?_; (with_reducible refine (qZ.calls  true _ ?side1 A5.out).mono ?_); (case side1 => exact GI.below HG.out (eG HB.out)); rintro e w16 ⟨rfl, hb⟩; refine ⟨_, rfl, ?_⟩; have n0_ := zA.mk (zG (bG yG.out) hb); have n1_ := zA.mk (zF (eG HB.out) hb); clear yG; clear HB; have yG := n0_; have HB := n1_; clear n0_ n1_; (try clear hb); (try clear hb2); (try clear hk); (try clear hi); have zUM : w16.cell? ⟨zEO, 0, none⟩ = some (.int .i64 a0_0) := (zC yG.out 0).trans rfl; have zUL : w16.cell? ⟨zEO, 1, none⟩ = some (.slice A0_1 l0_1.length c0_1) := (zC yG.out 1).trans rfl; have zTK := zB yG.out 0; have zTJ := zB yG.out 1) | (go_at_call 12; (with_reducible refine (yZ.calls a0_0 _ _ l0_1 false _ ?side1 ?side2 A7.out).mono ?_); (case side1 => repeat (first | exact (Kd.qW HR0_1.out HB.out) | (with_reducible refine Kd.vZ ?_ _) | (with_reducible refine Kd.vY ?_ _) | (with_reducible refine Kd.qU ?_))); (case side2 => exact HC0_1.out); rintro e w18 ⟨rfl, hb⟩; have n0_ := zA.mk (zG (bG yG.out) hb); have n1_ := zA.mk (zF (eG HB.out) hb); clear yG; clear HB; have yG := n0_; have HB := n1_; clear n0_ n1_; (try clear hb); (try clear hb2); (try clear hk); (try clear hi)))
    go_meet
    case rel => exact ⟨_, (true), (by first | rfl | (simp; done) | (simp [*]; done)), H', ⟨by first | omega | exact Nat.le_refl _⟩, ⟨by (with_reducible repeat first | apply bN | apply bD | apply bA); exact yG.out⟩, ⟨eG HB.out⟩⟩
  ·
   replace c6 := Bool.eq_false_iff.mpr c6; subst c6; replace H : (zY.j0 k a1 true a0_0 l0_1) = some r := by rw [if_neg (show ¬ (false = true) by decide)] at H; exact H
   have H' := zA.mk H; clear H; go_wp2_with (first | ((with_reducible refine zQ (f := 11) rfl ?_); refine vB (some 15) rfl rfl Tryz.func11 (by kernel_rfl) rfl #[] rfl (by (try simp only [List.map_toArray, List.map_cons, List.map_nil]); first | done | rfl | (simp only [List.length_drop, List.length_take]; rfl)) ?_; (with_reducible refine (qZ.calls  false _ ?side1 A5.out).mono ?_); (case side1 => exact GI.below HG.out (eG HB.out)); rintro e w19 ⟨rfl, hb⟩; refine ⟨_, rfl, ?_⟩; have n0_ := zA.mk (zG (bG yG.out) hb); have n1_ := zA.mk (zF (eG HB.out) hb); clear yG; clear HB; have yG := n0_; have HB := n1_; clear n0_ n1_; (try clear hb); (try clear hb2); (try clear hk); (try clear hi)))
   go_meet
   case rel => exact ⟨_, (true), (by first | rfl | (simp; done) | (simp [*]; done)), H', ⟨by first | omega | exact Nat.le_refl _⟩, ⟨by (with_reducible repeat first | apply bN | apply bD | apply bA); exact yG.out⟩, ⟨eG HB.out⟩⟩
 case rest =>
  clear HC3; repeat first | clear c1 | clear p2 | clear c6 | clear c8 | clear c9 | clear c9b0 | clear c9b1 | clear c11 | clear zHN | clear zHM | clear zUO | clear zUN | clear zUM | clear zUL | clear zHH | clear zHG | clear zTM | clear zTL | clear zTK | clear zTJ
  obtain ⟨kq, x31_2, rfl, HA, HJ2, yG, HB⟩ := hcut
  cases kq with
  | zero => exact absurd HA.out (by simp [zY.j0])
  | succ kj2 =>
   have H := HA.out; clear HA; simp only [zY.j0] at H; by_cases c20 : x31_2 = true
   ·
    subst c20; replace H : ((qZ.f).bind fun t511 => (some t511)) = some r := by rw [if_pos rfl] at H; exact H
    replace H := Option.bind_eq_some_iff.mp H; obtain ⟨t511, A210, H⟩ := H; replace H : (some t511) = some r := H; have A21 := zA.mk A210; clear A210; obtain rfl := Option.some.inj H; go_wp2_with (first | ((with_reducible refine zQ (f := 11) rfl ?_); refine vB (some 32) rfl rfl Tryz.func11 (by kernel_rfl) rfl #[] rfl (by (try simp only [List.map_toArray, List.map_cons, List.map_nil]); first | done | rfl | (simp only [List.length_drop, List.length_take]; rfl)) ?_; (with_reducible refine (qZ.calls  t511 _ ?side1 A21.out).mono ?_); (case side1 => exact GI.below HG.out (eG HB.out)); rintro e w22 ⟨rfl, hb⟩; refine ⟨_, rfl, ?_⟩; have n0_ := zA.mk (zG (bG yG.out) hb); have n1_ := zA.mk (zF (eG HB.out) hb); clear yG; clear HB; have yG := n0_; have HB := n1_; clear n0_ n1_; (try clear hb); (try clear hb2); (try clear hk); (try clear hi)))
    go_ret
    exact ⟨by first | rfl | (simp [zN, zM] <;> rfl) | (simp [*, zN, zM] <;> rfl), eG HB.out⟩
   ·
    replace c20 := Bool.eq_false_iff.mpr c20; subst c20; replace H : ((uV.f a0_0 l0_1).bind fun bt512 => ((vI.f kj2 bt512.1 bt512.2).bind fun bt516 => ((wN.f kj2 a0_0 l0_1).bind fun bt518 => ((zL.f kj2 a1).bind fun bt520 => ((zD.f kj2 a1).bind fun bt527 => (if bt516.1.toList = bt518.1.toList then (if bt516.2 = bt518.2 then ((wV.f kj2 bt520.1 bt520.2.1 bt527.1 bt527.2.1).bind fun t534 => (if t534 = true then (if bt520.2.2.1 = bt527.2.2.1 then (some (bt520.2.2.2 == bt527.2.2.2)) else (some false)) else (some false))) else (some false)) else (some false))))))) = some r := by rw [if_neg (show ¬ (false = true) by decide)] at H; exact H
    replace H := Option.bind_eq_some_iff.mp H; obtain ⟨⟨t512, t513⟩, A230, H⟩ := H; replace H : ((vI.f kj2 t512 t513).bind fun bt516 => ((wN.f kj2 a0_0 l0_1).bind fun bt518 => ((zL.f kj2 a1).bind fun bt520 => ((zD.f kj2 a1).bind fun bt527 => (if bt516.1.toList = bt518.1.toList then (if bt516.2 = bt518.2 then ((wV.f kj2 bt520.1 bt520.2.1 bt527.1 bt527.2.1).bind fun t534 => (if t534 = true then (if bt520.2.2.1 = bt527.2.2.1 then (some (bt520.2.2.2 == bt527.2.2.2)) else (some false)) else (some false))) else (some false)) else (some false)))))) = some r := H; have A23 := zA.mk A230; clear A230; replace H := Option.bind_eq_some_iff.mp H; obtain ⟨⟨t516, t517⟩, A240, H⟩ := H; replace H : ((wN.f kj2 a0_0 l0_1).bind fun bt518 => ((zL.f kj2 a1).bind fun bt520 => ((zD.f kj2 a1).bind fun bt527 => (if t516.toList = bt518.1.toList then (if t517 = bt518.2 then ((wV.f kj2 bt520.1 bt520.2.1 bt527.1 bt527.2.1).bind fun t534 => (if t534 = true then (if bt520.2.2.1 = bt527.2.2.1 then (some (bt520.2.2.2 == bt527.2.2.2)) else (some false)) else (some false))) else (some false)) else (some false))))) = some r := H; have A24 := zA.mk A240; clear A240; replace H := Option.bind_eq_some_iff.mp H; obtain ⟨⟨t518, t519⟩, A250, H⟩ := H; replace H : ((zL.f kj2 a1).bind fun bt520 => ((zD.f kj2 a1).bind fun bt527 => (if t516.toList = t518.toList then (if t517 = t519 then ((wV.f kj2 bt520.1 bt520.2.1 bt527.1 bt527.2.1).bind fun t534 => (if t534 = true then (if bt520.2.2.1 = bt527.2.2.1 then (some (bt520.2.2.2 == bt527.2.2.2)) else (some false)) else (some false))) else (some false)) else (some false)))) = some r := H; have A25 := zA.mk A250; clear A250; replace H := Option.bind_eq_some_iff.mp H; obtain ⟨⟨t520, t521, t524, t525⟩, A260, H⟩ := H; replace H : ((zD.f kj2 a1).bind fun bt527 => (if t516.toList = t518.toList then (if t517 = t519 then ((wV.f kj2 t520 t521 bt527.1 bt527.2.1).bind fun t534 => (if t534 = true then (if t524 = bt527.2.2.1 then (some (t525 == bt527.2.2.2)) else (some false)) else (some false))) else (some false)) else (some false))) = some r := H; have A26 := zA.mk A260; clear A260; replace H := Option.bind_eq_some_iff.mp H; obtain ⟨⟨t527, t528, t531, t532⟩, A270, H⟩ := H; replace H : (if t516.toList = t518.toList then (if t517 = t519 then ((wV.f kj2 t520 t521 t527 t528).bind fun t534 => (if t534 = true then (if t524 = t531 then (some (t525 == t532)) else (some false)) else (some false))) else (some false)) else (some false)) = some r := H; have A27 := zA.mk A270; clear A270; by_cases c28 : t516.toList = t518.toList
    ·
     rw [if_pos c28] at H; have c28b0 : (t516.toList == t518.toList) = true := beq_iff_eq.mpr c28; have c28b1 : (t516.toList != t518.toList) = false := bne_eq_false_iff_eq.mpr c28; clear c28; by_cases c29 : t517 = t519
     ·
      rw [if_pos c29] at H; have c29b0 : (t517 == t519) = true := beq_iff_eq.mpr c29; have c29b1 : (t517 != t519) = false := bne_eq_false_iff_eq.mpr c29; clear c29; replace H := Option.bind_eq_some_iff.mp H; obtain ⟨t534, A300, H⟩ := H; replace H : (if t534 = true then (if t524 = t531 then (some (t525 == t532)) else (some false)) else (some false)) = some r := H; have A30 := zA.mk A300; clear A300; by_cases c31 : t534 = true
      ·
       subst c31; replace H : (if t524 = t531 then (some (t525 == t532)) else (some false)) = some r := by rw [if_pos rfl] at H; exact H
       by_cases c32 : t524 = t531
       ·
        rw [if_pos c32] at H; have c32b0 : (t524 == t531) = true := beq_iff_eq.mpr c32; have c32b1 : (t524 != t531) = false := bne_eq_false_iff_eq.mpr c32; clear c32; obtain rfl := Option.some.inj H; have hcz33_0 : wc.cell? ⟨zEO, 0, none⟩ = some (.int .i64 a0_0) := (zC yG.out 0).trans rfl; have hcz33_1 : wc.cell? ⟨zEO, 1, none⟩ = some (.slice A0_1 l0_1.length c0_1) := (zC yG.out 1).trans rfl; have hfz33_0 := zB yG.out 0; have hfz33_1 := zB yG.out 1; go_wp2_with (first | ((with_reducible refine zQ (f := 14) rfl ?_); refine vB (some 35) rfl rfl Tryz.func14 (by kernel_rfl) rfl #[.agg #[.int .i64 a0_0, .slice A0_1 l0_1.length c0_1]] rfl (by (try simp only [List.map_toArray, List.map_cons, List.map_nil]); first | done | rfl | (simp only [List.length_drop, List.length_take]; rfl)) ?_; (with_reducible refine (uV.calls a0_0 _ _ l0_1 t512 t513 _ ?side1 ?side2 A23.out).mono ?_); (case side1 => repeat (first | exact (Kd.qW HR0_1.out HB.out) | (with_reducible refine Kd.vZ ?_ _) | (with_reducible refine Kd.vY ?_ _) | (with_reducible refine Kd.qU ?_))); (case side2 => exact HC0_1.out); rintro e w34 ⟨v514, rfl, ho0, hb⟩; refine ⟨_, rfl, ?_⟩; have n0_ := zA.mk (Kd.yK ho0 (zE (eG HB.out))); have n1_ := zA.mk (zG (bG yG.out) hb); have n2_ := zA.mk (zF (eG HB.out) hb); clear yG; clear HB; have zBV := n0_; have yG := n1_; have HB := n2_; clear n0_ n1_ n2_; (try clear hb); (try clear hb2); (try clear hk); (try clear hi); (try clear ho0); obtain ⟨Ao35, co35, eo35⟩ := Kd.vG zBV.out; subst eo35) | ((with_reducible refine zQ (f := 28) rfl ?_); refine vB (some 36) rfl rfl Tryz.func28 (by kernel_rfl) rfl #[.agg #[.int .i64 t512, .slice Ao35 t513.length co35]] rfl (by (try simp only [List.map_toArray, List.map_cons, List.map_nil]); first | done | rfl | (simp only [List.length_drop, List.length_take]; rfl)) ?_; (with_reducible refine (vI.calls kj2 t512 _ _ t513 t516 t517 _ ?side1 ?side2 ?side3 A24.out).mono ?_); (case side1 => repeat (first | exact (Kd.zU zBV.out).2.2 | (with_reducible refine Kd.vZ ?_ _) | (with_reducible refine Kd.vY ?_ _) | (with_reducible refine Kd.qU ?_))); (case side2 => exact (Kd.zU zBV.out).2.1); (case side3 => exact GI.below HG.out (eG HB.out)); rintro e w36 ⟨rfl, hb⟩; refine ⟨_, rfl, ?_⟩; have n0_ := zA.mk (Kd.wB (rG zBV.out) hb); have n1_ := zA.mk (zG (bG yG.out) hb); have n2_ := zA.mk (zF (eG HB.out) hb); clear zBV; clear yG; clear HB; have zBV := n0_; have yG := n1_; have HB := n2_; clear n0_ n1_ n2_; (try clear hb); (try clear hb2); (try clear hk); (try clear hi); have wAA : w36.cell? ⟨zEO, 0, none⟩ = some (.int .i64 a0_0) := (zC yG.out 0).trans rfl; have zZZ : w36.cell? ⟨zEO, 1, none⟩ = some (.slice A0_1 l0_1.length c0_1) := (zC yG.out 1).trans rfl; have zZG := zB yG.out 0; have zZF := zB yG.out 1) | ((with_reducible refine zQ (f := 29) rfl ?_); refine vB (some 41) rfl rfl Tryz.func29 (by kernel_rfl) rfl #[.agg #[.int .i64 a0_0, .slice A0_1 l0_1.length c0_1]] rfl (by (try simp only [List.map_toArray, List.map_cons, List.map_nil]); first | done | rfl | (simp only [List.length_drop, List.length_take]; rfl)) ?_; (with_reducible refine (wN.calls kj2 a0_0 _ _ l0_1 t518 t519 _ ?side1 ?side2 A25.out).mono ?_); (case side1 => repeat (first | exact (Kd.qW HR0_1.out HB.out) | (with_reducible refine Kd.vZ ?_ _) | (with_reducible refine Kd.vY ?_ _) | (with_reducible refine Kd.qU ?_))); (case side2 => exact HC0_1.out); rintro e w38 ⟨rfl, hb⟩; refine ⟨_, rfl, ?_⟩; have n0_ := zA.mk (Kd.wB (rG zBV.out) hb); have n1_ := zA.mk (zG (bG yG.out) hb); have n2_ := zA.mk (zF (eG HB.out) hb); clear zBV; clear yG; clear HB; have zBV := n0_; have yG := n1_; have HB := n2_; clear n0_ n1_ n2_; (try clear hb); (try clear hb2); (try clear hk); (try clear hi)) | ((with_reducible refine zQ (f := 30) rfl ?_); refine vB (some 46) rfl rfl Tryz.func30 (by kernel_rfl) rfl #[.string a1] rfl (by (try simp only [List.map_toArray, List.map_cons, List.map_nil]); first | done | rfl | (simp only [List.length_drop, List.length_take]; rfl)) ?_; (with_reducible refine (zL.calls kj2 a1 t520 t521 t524 t525 _ ?side1 A26.out).mono ?_); (case side1 => exact GI.below HG.out (eG HB.out)); rintro e w39 ⟨v522, rfl, ho0, hb⟩; refine ⟨_, rfl, ?_⟩; have n0_ := zA.mk (Kd.wX (rG zBV.out) (Kd.qI ho0) hb); have n1_ := zA.mk (Kd.yK (Kd.qH ho0 (Kd.R_lt (rG zBV.out))) (zE (eG HB.out))); have n2_ := zA.mk (zG (bG yG.out) hb); have n3_ := zA.mk (zF (eG HB.out) hb); clear zBV; clear yG; clear HB; have zBV := n0_; have zGO := n1_; have yG := n2_; have HB := n3_; clear n0_ n1_ n2_ n3_; (try clear hb); (try clear hb2); (try clear hk); (try clear hi); (try clear ho0)) | ((with_reducible refine wF (N := 9) rfl ?_); (try (refine vA (by rfl) ?_; dsimp only)); refine wA ?hg (N := 9) ?hd (cs := #[.int .i64 0, .slice none 0 0]) (t := 24) ?hr ?_; (case hd => rfl); (case hg => rfl); (case hr => first | (go_simp; done) | (go_simp; rfl)); intro zDX hg w40 hbox hb; have n0_ := zA.mk (Kd.wB (rG zBV.out) hb); have n1_ := zA.mk (Kd.wB (rG zGO.out) hb); have n2_ := zA.mk (zG (bG yG.out) hb); have n3_ := zA.mk (zF (eG HB.out) hb); have n4_ := zA.mk (hbox); have n5_ := zA.mk ((by rw [hg]; exact (zE (eG HB.out)) : w.heap.size ≤ zDX)); have n6_ := zA.mk ((by rw [hg]; exact (zE (eG HB.out)) : w.heap.size ≤ zDX)); have n7_ := zA.mk ((by rw [hg]; exact Nat.ne_of_lt (wC (bG yG.out)) : zEO ≠ zDX)); have n8_ := zA.mk ((by rw [hg]; exact Nat.ne_of_gt (wC (bG yG.out)) : zDX ≠ zEO)); clear zBV; clear zGO; clear yG; clear HB; have zBV := n0_; have zGO := n1_; have yG := n2_; have HB := n3_; have zDJ := n4_; have GW526 := n5_; have GE526 := n6_; have ig526_ := geI GE526; have zLT := n7_; have wBG := n8_; clear n0_ n1_ n2_ n3_ n4_ n5_ n6_ n7_ n8_; clear hb hbox hg; have hnb41 := wBG.out; have hnc41 := zLT.out; have zZX : w40.cell? ⟨zDX, 0, none⟩ = some (.int .i64 0) := (zC zDJ.out 0).trans rfl; have zZW : w40.cell? ⟨zDX, 1, none⟩ = some (.slice none 0 0) := (zC zDJ.out 1).trans rfl; have zZD := zB zDJ.out 0; have zZC := zB zDJ.out 1; obtain ⟨Ao43, co43, eo43⟩ := Kd.vG zGO.out; subst eo43) | ((with_reducible refine zQ (f := 31) rfl ?_); refine vB (some 52) rfl rfl Tryz.func31 (by kernel_rfl) rfl #[.string a1] rfl (by (try simp only [List.map_toArray, List.map_cons, List.map_nil]); first | done | rfl | (simp only [List.length_drop, List.length_take]; rfl)) ?_; (with_reducible refine (zD.calls kj2 a1 t527 t528 t531 t532 _ A27.out).mono ?_); rintro e w44 ⟨v529, rfl, ho0, hb⟩; refine ⟨_, rfl, ?_⟩; have n0_ := zA.mk (Kd.wX (by (with_reducible repeat (first | apply Kd.zT | apply Kd.zS | apply Kd.wD)); exact (Kd.wQ (Kd.wO (p := ⟨zDX, 1, none⟩) (Kd.wO (p := ⟨zDX, 0, none⟩) (Kd.vL zBV.out zDJ.out (by decide)) (fun _ hk => hk.2) (.int .i64 t520)) (fun _ hk => hk.2) (.slice Ao43 t521.length co43)) (fun _ h_ => h_.1))) (Kd.qI ho0) hb); have n1_ := zA.mk (Kd.wX (by (with_reducible repeat (first | apply Kd.zT | apply Kd.zS | apply Kd.wD)); exact (Kd.wQ (Kd.wO (p := ⟨zDX, 1, none⟩) (Kd.wO (p := ⟨zDX, 0, none⟩) (Kd.vL zGO.out zDJ.out (by decide)) (fun _ hk => hk.2) (.int .i64 t520)) (fun _ hk => hk.2) (.slice Ao43 t521.length co43)) (fun _ h_ => h_.1))) (Kd.qI ho0) hb); have n2_ := zA.mk (Kd.yK (Kd.qH (Kd.qH ho0 (Kd.R_lt (by (with_reducible repeat (first | apply Kd.zT | apply Kd.zS | apply Kd.wD)); exact (Kd.wQ (Kd.wO (p := ⟨zDX, 1, none⟩) (Kd.wO (p := ⟨zDX, 0, none⟩) (Kd.vL zBV.out zDJ.out (by decide)) (fun _ hk => hk.2) (.int .i64 t520)) (fun _ hk => hk.2) (.slice Ao43 t521.length co43)) (fun _ h_ => h_.1))))) (Kd.R_lt (by (with_reducible repeat (first | apply Kd.zT | apply Kd.zS | apply Kd.wD)); exact (Kd.wQ (Kd.wO (p := ⟨zDX, 1, none⟩) (Kd.wO (p := ⟨zDX, 0, none⟩) (Kd.vL zGO.out zDJ.out (by decide)) (fun _ hk => hk.2) (.int .i64 t520)) (fun _ hk => hk.2) (.slice Ao43 t521.length co43)) (fun _ h_ => h_.1))))) (zE (eG HB.out))); have n3_ := zA.mk (zG (g := zEO) (o := .cells #[.int .i64 a0_0, .slice A0_1 l0_1.length c0_1] 24 (0, 0)) (by (with_reducible repeat first | apply bN | apply bD | apply bA); refine zV ?_ zLT.out _; (with_reducible repeat first | apply bN | apply bD | apply bA); refine zV ?_ zLT.out _; (with_reducible repeat first | apply bN | apply bD | apply bA); exact yG.out) hb); have n4_ := zA.mk (zG (g := zDX) (o := .cells #[.int .i64 t520, .slice Ao43 t521.length co43] 24 (0, 0)) (by (with_reducible repeat first | apply bN | apply bD | apply bA); refine wE (cs := #[.int .i64 t520, .slice none 0 0]) ?_ 1 _ rfl; (with_reducible repeat first | apply bN | apply bD | apply bA); refine wE (cs := #[.int .i64 0, .slice none 0 0]) ?_ 0 _ rfl; (with_reducible repeat first | apply bN | apply bD | apply bA); exact zDJ.out) hb); have n5_ := zA.mk (zF (eG HB.out) hb); clear zBV; clear zGO; clear yG; clear zDJ; clear HB; have zBV := n0_; have zGO := n1_; have zPZ := n2_; have yG := n3_; have zDJ := n4_; have HB := n5_; clear n0_ n1_ n2_ n3_ n4_ n5_; (try clear hb); (try clear hb2); (try clear hk); (try clear hi); (try clear ho0)) | ((with_reducible refine wF (N := 12) rfl ?_); (try (refine vA (by rfl) ?_; dsimp only)); refine wA ?hg (N := 12) ?hd (cs := #[.int .i64 0, .slice none 0 0]) (t := 24) ?hr ?_; (case hd => rfl); (case hg => rfl); (case hr => first | (go_simp; done) | (go_simp; rfl)); intro zEN hg w45 hbox hb; have n0_ := zA.mk (Kd.wB (rG zBV.out) hb); have n1_ := zA.mk (Kd.wB (rG zGO.out) hb); have n2_ := zA.mk (Kd.wB (rG zPZ.out) hb); have n3_ := zA.mk (zG (bG yG.out) hb); have n4_ := zA.mk (zG (bG zDJ.out) hb); have n5_ := zA.mk (zF (eG HB.out) hb); have n6_ := zA.mk (hbox); have n7_ := zA.mk ((by rw [hg]; exact (zE (eG HB.out)) : w.heap.size ≤ zEN)); have n8_ := zA.mk ((by rw [hg]; exact (zE (eG HB.out)) : w.heap.size ≤ zEN)); have n9_ := zA.mk ((by rw [hg]; exact Nat.ne_of_lt (wC (bG yG.out)) : zEO ≠ zEN)); have n10_ := zA.mk ((by rw [hg]; exact Nat.ne_of_gt (wC (bG yG.out)) : zEN ≠ zEO)); have n11_ := zA.mk ((by rw [hg]; exact Nat.ne_of_lt (wC (bG zDJ.out)) : zDX ≠ zEN)); have n12_ := zA.mk ((by rw [hg]; exact Nat.ne_of_gt (wC (bG zDJ.out)) : zEN ≠ zDX)); clear zBV; clear zGO; clear zPZ; clear yG; clear zDJ; clear HB; have zBV := n0_; have zGO := n1_; have zPZ := n2_; have yG := n3_; have zDJ := n4_; have HB := n5_; have zJX := n6_; have GW533 := n7_; have GE533 := n8_; have ig533_ := geI GE533; have zLS := n9_; have wBF := n10_; have zLR := n11_; have wBE := n12_; clear n0_ n1_ n2_ n3_ n4_ n5_ n6_ n7_ n8_ n9_ n10_ n11_ n12_; clear hb hbox hg; have hnb46 := wBF.out; have hnc46 := zLS.out; have hnb47 := wBE.out; have hnc47 := zLR.out; have hcz48_0 : w45.cell? ⟨zEN, 0, none⟩ = some (.int .i64 0) := (zC zJX.out 0).trans rfl; have hcz48_1 : w45.cell? ⟨zEN, 1, none⟩ = some (.slice none 0 0) := (zC zJX.out 1).trans rfl; have hfz48_0 := zB zJX.out 0; have hfz48_1 := zB zJX.out 1; obtain ⟨Ao49, co49, eo49⟩ := Kd.vG zPZ.out; subst eo49; have hcz50_0 : w45.cell? ⟨zDX, 0, none⟩ = some (.int .i64 t520) := (zC zDJ.out 0).trans rfl; have hcz50_1 : w45.cell? ⟨zDX, 1, none⟩ = some (.slice Ao43 t521.length co43) := (zC zDJ.out 1).trans rfl; have hfz50_0 := zB zDJ.out 0; have hfz50_1 := zB zDJ.out 1) | (go_at_call 18; (with_reducible refine (wV.calls kj2 t520 _ _ t521 t527 _ _ t528 true _ ?side1 ?side2 ?side3 ?side4 A30.out).mono ?_); (case side1 => refine (Kd.zU (e := 26) (base := w.heap.size) (ok := fun k_ => ((True ∧ some k_ ≠ (.slice Ao35 t513.length co35 : Value).ownBlock) ∧ some k_ ≠ (.slice Ao49 t528.length co49 : Value).ownBlock)) (n := t521.length) (c := co43) ?_).2.2; exact (by (with_reducible repeat (first | apply Kd.zT | apply Kd.zS | apply Kd.wD)); exact (Kd.wQ (Kd.wO (p := ⟨zEN, 1, none⟩) (Kd.wO (p := ⟨zEN, 0, none⟩) (Kd.vL zGO.out zJX.out (by decide)) (fun _ hk => hk.2) (.int .i64 t527)) (fun _ hk => hk.2) (.slice Ao49 t528.length co49)) (fun _ h_ => h_.1)))); (case side2 => exact (Kd.zU zGO.out).2.1); (case side3 => refine (Kd.zU (e := 26) (base := w.heap.size) (ok := fun k_ => ((True ∧ some k_ ≠ (.slice Ao35 t513.length co35 : Value).ownBlock) ∧ some k_ ≠ (.slice Ao43 t521.length co43 : Value).ownBlock)) (n := t528.length) (c := co49) ?_).2.2; exact (by (with_reducible repeat (first | apply Kd.zT | apply Kd.zS | apply Kd.wD)); exact (Kd.wQ (Kd.wO (p := ⟨zEN, 1, none⟩) (Kd.wO (p := ⟨zEN, 0, none⟩) (Kd.vL zPZ.out zJX.out (by decide)) (fun _ hk => hk.2) (.int .i64 t527)) (fun _ hk => hk.2) (.slice Ao49 t528.length co49)) (fun _ h_ => h_.1)))); (case side4 => exact (Kd.zU zPZ.out).2.1); rintro e w51 ⟨rfl, hb⟩; have n0_ := zA.mk (Kd.wB (by (with_reducible repeat (first | apply Kd.zT | apply Kd.zS | apply Kd.wD)); exact (Kd.wQ (Kd.wO (p := ⟨zEN, 1, none⟩) (Kd.wO (p := ⟨zEN, 0, none⟩) (Kd.vL zBV.out zJX.out (by decide)) (fun _ hk => hk.2) (.int .i64 t527)) (fun _ hk => hk.2) (.slice Ao49 t528.length co49)) (fun _ h_ => h_.1))) hb); have n1_ := zA.mk (Kd.wB (by (with_reducible repeat (first | apply Kd.zT | apply Kd.zS | apply Kd.wD)); exact (Kd.wQ (Kd.wO (p := ⟨zEN, 1, none⟩) (Kd.wO (p := ⟨zEN, 0, none⟩) (Kd.vL zGO.out zJX.out (by decide)) (fun _ hk => hk.2) (.int .i64 t527)) (fun _ hk => hk.2) (.slice Ao49 t528.length co49)) (fun _ h_ => h_.1))) hb); have n2_ := zA.mk (Kd.wB (by (with_reducible repeat (first | apply Kd.zT | apply Kd.zS | apply Kd.wD)); exact (Kd.wQ (Kd.wO (p := ⟨zEN, 1, none⟩) (Kd.wO (p := ⟨zEN, 0, none⟩) (Kd.vL zPZ.out zJX.out (by decide)) (fun _ hk => hk.2) (.int .i64 t527)) (fun _ hk => hk.2) (.slice Ao49 t528.length co49)) (fun _ h_ => h_.1))) hb); have n3_ := zA.mk (zG (g := zEO) (o := .cells #[.int .i64 a0_0, .slice A0_1 l0_1.length c0_1] 24 (0, 0)) (by (with_reducible repeat first | apply bN | apply bD | apply bA); refine zV ?_ zLS.out _; (with_reducible repeat first | apply bN | apply bD | apply bA); refine zV ?_ zLS.out _; (with_reducible repeat first | apply bN | apply bD | apply bA); exact yG.out) hb); have n4_ := zA.mk (zG (g := zDX) (o := .cells #[.int .i64 t520, .slice Ao43 t521.length co43] 24 (0, 0)) (by (with_reducible repeat first | apply bN | apply bD | apply bA); refine zV ?_ zLR.out _; (with_reducible repeat first | apply bN | apply bD | apply bA); refine zV ?_ zLR.out _; (with_reducible repeat first | apply bN | apply bD | apply bA); exact zDJ.out) hb); have n5_ := zA.mk (zG (g := zEN) (o := .cells #[.int .i64 t527, .slice Ao49 t528.length co49] 24 (0, 0)) (by (with_reducible repeat first | apply bN | apply bD | apply bA); refine wE (cs := #[.int .i64 t527, .slice none 0 0]) ?_ 1 _ rfl; (with_reducible repeat first | apply bN | apply bD | apply bA); refine wE (cs := #[.int .i64 0, .slice none 0 0]) ?_ 0 _ rfl; (with_reducible repeat first | apply bN | apply bD | apply bA); exact zJX.out) hb); have n6_ := zA.mk (zF (eG HB.out) hb); clear zBV; clear zGO; clear zPZ; clear yG; clear zDJ; clear zJX; clear HB; have zBV := n0_; have zGO := n1_; have zPZ := n2_; have yG := n3_; have zDJ := n4_; have zJX := n5_; have HB := n6_; clear n0_ n1_ n2_ n3_ n4_ n5_ n6_; (try clear hb); (try clear hb2); (try clear hk); (try clear hi)))
        go_ret
        exact ⟨by first | rfl | (simp [zN, zM] <;> rfl) | (simp [*, zN, zM] <;> rfl), eG HB.out⟩
       · rw [if_neg c32] at H; have c32b0 : (t524 == t531) = false := beq_eq_false_iff_ne.mpr c32; have c32b1 : (t524 != t531) = true := bne_iff_ne.mpr c32; subst hr_; exact absurd H (by simp)
      ·
       replace c31 := Bool.eq_false_iff.mpr c31; subst c31; replace H : (some false) = some r := by rw [if_neg (show ¬ (false = true) by decide)] at H; exact H
       subst hr_; exact absurd H (by simp)
     · rw [if_neg c29] at H; have c29b0 : (t517 == t519) = false := beq_eq_false_iff_ne.mpr c29; have c29b1 : (t517 != t519) = true := bne_iff_ne.mpr c29; subst hr_; exact absurd H (by simp)
    · rw [if_neg c28] at H; have c28b0 : (t516.toList == t518.toList) = false := beq_eq_false_iff_ne.mpr c28; have c28b1 : (t516.toList != t518.toList) = true := bne_iff_ne.mpr c28; subst hr_; exact absurd H (by simp)
end Go.Proofs.YtholbmidciapdaaGreatDoor.Pr
namespace Go.Proofs.YtholbmidciapdaaGreatDoor.Pr
open Go.RowKit Go.Proofs.YtholbmidciapdaaGreatDoorW.PrintWords Go.Proofs.YtholbmidciapdaaGreatDoorW.PrintLast Go.Proofs.YtholbmidciapdaaGreatDoorW.PrintMore Go.Proofs.YtholbmidciapdaaGreatDoor.X
attribute [local go_sem] uR uP kP kO jN jM uQ uO   -- for this text's walks alone
set_option linter.unusedVariables false
set_option linter.unusedSimpArgs false
def bits_Mul64.f (a0 : Int) (a1 : Int) : Option (Int × Int) := some (IntKind.u64.wrap ((IntKind.u64.wrap ((IntKind.u64.wrap ((a0 / 4294967296) * (a1 / 4294967296))) + ((IntKind.u64.wrap ((IntKind.u64.wrap ((a0 / 4294967296) * (Go.bits .and .u64 a1 4294967295))) + ((IntKind.u64.wrap ((Go.bits .and .u64 a0 4294967295) * (Go.bits .and .u64 a1 4294967295))) / 4294967296))) / 4294967296))) + ((IntKind.u64.wrap ((Go.bits .and .u64 (IntKind.u64.wrap ((IntKind.u64.wrap ((a0 / 4294967296) * (Go.bits .and .u64 a1 4294967295))) + ((IntKind.u64.wrap ((Go.bits .and .u64 a0 4294967295) * (Go.bits .and .u64 a1 4294967295))) / 4294967296))) 4294967295) + (IntKind.u64.wrap ((Go.bits .and .u64 a0 4294967295) * (a1 / 4294967296))))) / 4294967296)), IntKind.u64.wrap (a0 * a1))
end Go.Proofs.YtholbmidciapdaaGreatDoor.Pr
namespace Go.Proofs.YtholbmidciapdaaGreatDoor.Opn
open Go Go.RowKit Go.Proofs.YtholbmidciapdaaGreatDoorW.PrintWords Go.Proofs.YtholbmidciapdaaGreatDoor.O Go.Proofs.YtholbmidciapdaaGreatDoor.Pr
theorem zVP : zVE Tryz.prog 3 (Kd.int .i64) (fun x => (Lit.int .i64 x).wf = true) := zYP Tryz.underlying3 (by kernel_rfl)
def ok26 (x : S26) : Prop := (Lit.int .i64 x.f0).wf = true ∧ (Lit.int .i64 x.f1).wf = true ∧ (Lit.int .i64 x.f2).wf = true
theorem opens26 : zVE Tryz.prog 26 k26 ok26 :=
  ⟨by kernel_rfl, fun H enc w base sp held fuel cs x h => by
    obtain ⟨xs, n, _, _, hl, hx, hf⟩ := DataW.trod_struct Tryz.underlying26 h
    have hc_ : Tryz.prog.cellsOf 26 = 3 := by kernel_rfl
    rw [hc_] at hl
    obtain ⟨c0, c1, c2, rfl⟩ : ∃ c0 c1 c2, cs = [c0, c1, c2] := by
      clear h hf hx
      rcases cs with _ | ⟨c0, _ | ⟨c1, _ | ⟨c2, _ | ⟨_, _⟩⟩⟩⟩
      all_goals first | exact ⟨_, _, _, rfl⟩ | (simp at hl)
    obtain ⟨y0, hy0⟩ : ∃ y, xs[0]? = some y := ⟨xs[0]'(by rw [hx]; decide), List.getElem?_eq_getElem _⟩
    have e0 : DataW.trod enc Tryz.prog w base sp held n 3 ((List.drop 0 [c0, c1, c2]).take (Tryz.prog.cellsOf 3)) = xs[0]? := hf 0 _ rfl
    rw [hy0, show Tryz.prog.cellsOf 3 = 1 from by kernel_rfl] at e0
    obtain ⟨v0, K0, o0⟩ := zVP.2 H enc w base sp held n _ _ e0
    replace K0 : (Kd.int .i64).K w v0 [c0] := K0
    obtain ⟨y1, hy1⟩ : ∃ y, xs[1]? = some y := ⟨xs[1]'(by rw [hx]; decide), List.getElem?_eq_getElem _⟩
    have e1 : DataW.trod enc Tryz.prog w base sp held n 3 ((List.drop 1 [c0, c1, c2]).take (Tryz.prog.cellsOf 3)) = xs[1]? := hf 1 _ rfl
    rw [hy1, show Tryz.prog.cellsOf 3 = 1 from by kernel_rfl] at e1
    obtain ⟨v1, K1, o1⟩ := zVP.2 H enc w base sp held n _ _ e1
    replace K1 : (Kd.int .i64).K w v1 [c1] := K1
    obtain ⟨y2, hy2⟩ : ∃ y, xs[2]? = some y := ⟨xs[2]'(by rw [hx]; decide), List.getElem?_eq_getElem _⟩
    have e2 : DataW.trod enc Tryz.prog w base sp held n 3 ((List.drop 2 [c0, c1, c2]).take (Tryz.prog.cellsOf 3)) = xs[2]? := hf 2 _ rfl
    rw [hy2, show Tryz.prog.cellsOf 3 = 1 from by kernel_rfl] at e2
    obtain ⟨v2, K2, o2⟩ := zVP.2 H enc w base sp held n _ _ e2
    replace K2 : (Kd.int .i64).K w v2 [c2] := K2
    obtain rfl : c0 = _ := List.singleton_inj.1 K0
    obtain rfl : c1 = _ := List.singleton_inj.1 K1
    obtain rfl : c2 = _ := List.singleton_inj.1 K2
    refine ⟨⟨v0, v1, v2⟩, ?_, o0, o1, o2⟩
    exact k26_mk w ⟨v0, v1, v2⟩ ⟩
theorem opens22 : zVE Tryz.prog 22 (Kd.slice 26 k26) (fun x => (x.length ≤ maxLen ∧ ∀ x0_, x0_ ∈ x → ok26 x0_)) := zRT (P := Tryz.prog) (t := 22) (e := 26) Tryz.underlying22 (by kernel_rfl) opens26
def ok24 (x : S24) : Prop := (Lit.int .i64 x.f0).wf = true ∧ (x.f1.length ≤ maxLen ∧ ∀ x0_, x0_ ∈ x.f1 → ok26 x0_)
theorem opens24 : zVE Tryz.prog 24 k24 ok24 :=
  ⟨by kernel_rfl, fun H enc w base sp held fuel cs x h => by
    obtain ⟨xs, n, _, _, hl, hx, hf⟩ := DataW.trod_struct Tryz.underlying24 h
    have hc_ : Tryz.prog.cellsOf 24 = 2 := by kernel_rfl
    rw [hc_] at hl
    obtain ⟨c0, c1, rfl⟩ : ∃ c0 c1, cs = [c0, c1] := by
      clear h hf hx
      rcases cs with _ | ⟨c0, _ | ⟨c1, _ | ⟨_, _⟩⟩⟩
      all_goals first | exact ⟨_, _, rfl⟩ | (simp at hl)
    obtain ⟨y0, hy0⟩ : ∃ y, xs[0]? = some y := ⟨xs[0]'(by rw [hx]; decide), List.getElem?_eq_getElem _⟩
    have e0 : DataW.trod enc Tryz.prog w base sp held n 3 ((List.drop 0 [c0, c1]).take (Tryz.prog.cellsOf 3)) = xs[0]? := hf 0 _ rfl
    rw [hy0, show Tryz.prog.cellsOf 3 = 1 from by kernel_rfl] at e0
    obtain ⟨v0, K0, o0⟩ := zVP.2 H enc w base sp held n _ _ e0
    replace K0 : (Kd.int .i64).K w v0 [c0] := K0
    obtain ⟨y1, hy1⟩ : ∃ y, xs[1]? = some y := ⟨xs[1]'(by rw [hx]; decide), List.getElem?_eq_getElem _⟩
    have e1 : DataW.trod enc Tryz.prog w base sp held n 22 ((List.drop 1 [c0, c1]).take (Tryz.prog.cellsOf 22)) = xs[1]? := hf 1 _ rfl
    rw [hy1, show Tryz.prog.cellsOf 22 = 1 from by kernel_rfl] at e1
    obtain ⟨v1, K1, o1⟩ := opens22.2 H enc w base sp held n _ _ e1
    replace K1 : (Kd.slice 26 k26).K w v1 [c1] := K1
    obtain rfl : c0 = _ := List.singleton_inj.1 K0
    obtain ⟨A1, q1, w1, m1, g1⟩ := K1
    obtain rfl : c1 = _ := List.singleton_inj.1 w1
    refine ⟨⟨v0, v1⟩, ?_, o0, o1⟩
    exact k24_mk w ⟨v0, v1⟩ m1 g1⟩
end Go.Proofs.YtholbmidciapdaaGreatDoor.Opn
namespace Go.Proofs.YtholbmidciapdaaGreatDoor.Pure
open Go Go.RowKit Go.Proofs.YtholbmidciapdaaGreatDoor.Pr Go.Proofs.YtholbmidciapdaaGreatDoor.Opn
def zKH : Prop := ∀ (a0_0 : Int) (l0_1 : (List S26)) (a1 : ByteArray), (Lit.int .i64 a0_0).wf = true → (l0_1.length ≤ maxLen ∧ ∀ x0_, x0_ ∈ l0_1 → ok26 x0_) → a1.size ≤ maxLen → ∃ k, zY.f k a0_0 l0_1 a1 = some true
end Go.Proofs.YtholbmidciapdaaGreatDoor.Pure
namespace Go.Proofs.YtholbmidciapdaaGreatDoor.PL
open Go Go.RowKit Go.Proofs.YtholbmidciapdaaGreatDoorW.PrintWords Go.Proofs.YtholbmidciapdaaGreatDoorW.PrintLast Go.Proofs.YtholbmidciapdaaGreatDoorW.PrintMore
theorem evp {α : Type} {c : Prop} [Decidable c] {g h : Nat → Option α} {r : α} (hc : c) (k : Ev g r) : Ev (fun n => if c then g n else h n) r :=
  Ev.congr (fun n => if_pos hc) k
theorem evn {α : Type} {c : Prop} [Decidable c] {g h : Nat → Option α} {r : α} (hc : ¬ c) (k : Ev h r) : Ev (fun n => if c then g n else h n) r :=
  Ev.congr (fun n => if_neg hc) k
theorem evb {α β : Type} {g : Nat → Option α} {f : Nat → α → Option β} {a : α} {r : β} (h : Ev g a) (k : Ev (fun n => f n a) r) : Ev (fun n => (g n).bind (f n)) r := Ev.bind h k
theorem evr {α : Type} {a r : α} (h : a = r) : Ev (fun _ => some a) r := by subst h; exact Ev.now _
theorem evc {α : Type} {g : Nat → Option α} {r : α} {o : Option α} (hg : ∀ n, g n = o) (h : o = some r) : Ev g r := by
  subst h
  exact Ev.congr hg (Ev.now _)
/-- A loop that counts upwards to n. -/
theorem zEW (a n : Int) (P : Int → Prop) (hend : P n) (hround : ∀ i, a ≤ i → i < n → P (i + 1) → P i) : ∀ i, a ≤ i → i ≤ n → P i := by
  intro i h0 h1
  obtain ⟨d, hd⟩ : ∃ d : Nat, n - i = d := ⟨(n - i).toNat, by omega⟩
  induction d generalizing i with
  | zero =>
    obtain rfl : i = n := by omega
    exact hend
  | succ d ih => exact hround i h0 (by omega) (ih (i + 1) (by omega) (by omega) (by omega))
theorem w64 {x : Int} (h0 : -9223372036854775808 ≤ x) (h1 : x ≤ 9223372036854775807) : wrap64 x = x := by
  unfold wrap64
  omega
theorem zJY {i n : Int} (h0 : 0 ≤ i) (h : i < n) (hn : n ≤ 9223372036854775807) : wrap64 (i + 1) = i + 1 := w64 (by omega) (by omega)
theorem w64_pred {i n : Int} (h0 : 0 ≤ i) (h : i ≤ n) (hn : n ≤ 9223372036854775807) : wrap64 (i - 1) = i - 1 := w64 (by omega) (by omega)
/-- A test that comes to true where P holds, and else to false. -/
def EvB (g : Nat → Option Bool) (P : Prop) : Prop := (P → Ev g true) ∧ (¬ P → Ev g false)
theorem EvB.map {g : Nat → Option Bool} {f : Nat → Bool → Option Bool} {P Q : Prop} (h : EvB g P) (ht : P → EvB (fun n => f n true) Q) (hf : ¬ P → EvB (fun n => f n false) Q) : EvB (fun n => (g n).bind (f n)) Q := by
  by_cases hp : P
  · exact ⟨fun q => Ev.bind (h.1 hp) ((ht hp).1 q), fun q => Ev.bind (h.1 hp) ((ht hp).2 q)⟩
  · exact ⟨fun q => Ev.bind (h.2 hp) ((hf hp).1 q), fun q => Ev.bind (h.2 hp) ((hf hp).2 q)⟩
end Go.Proofs.YtholbmidciapdaaGreatDoor.PL
namespace Go.Proofs.YtholbmidciapdaaGreatDoor.PL
open Go Go.RowKit Go.Proofs.YtholbmidciapdaaGreatDoorW.PrintWords Go.Proofs.YtholbmidciapdaaGreatDoorW.PrintLast Go.Proofs.YtholbmidciapdaaGreatDoorW.PrintMore Go.Proofs.YtholbmidciapdaaGreatDoor.Pr Go.Proofs.YtholbmidciapdaaGreatDoor.TX Go.Proofs.YtholbmidciapdaaGreatDoor.X
def ba (l : List UInt8) : ByteArray := ⟨l.toArray⟩
theorem zLQ (s : ByteArray) : ba s.data.toList = s := by obtain ⟨⟨l⟩⟩ := s; rfl
theorem zCD (l : List UInt8) : (ba l).data.toList = l := rfl
theorem yP (l : List UInt8) : (ba l).toList = l := by rw [Lib.toList_data]; rfl
theorem uK (l : List UInt8) : (ba l).size = l.length := rfl
theorem size_data (s : ByteArray) : s.data.toList.length = s.size := Array.length_toList
theorem zXF (s : ByteArray) (a b : Nat) : s.extract a b = ba ((s.data.toList.take b).drop a) := by
  rw [← zLQ (s.extract a b), Lib.extract_data, List.drop_take]
theorem zNM (a b : List UInt8) : ba a ++ ba b = ba (a ++ b) := by
  rw [← zLQ (ba a ++ ba b)]
  congr 1
theorem byte_at (s : ByteArray) {i : Int} (h0 : 0 ≤ i) (h1 : i < (s.size : Int)) : ∃ b : UInt8, s.data.toList.drop i.toNat = b :: s.data.toList.drop (i + 1).toNat ∧
    s.data.toList.take (i + 1).toNat = s.data.toList.take i.toNat ++ [b] ∧ bt s i = (b.toNat : Int) := by
  have hl : i.toNat < s.data.toList.length := by rw [size_data]; omega
  refine ⟨s.data.toList[i.toNat], ?_, ?_, ?_⟩
  · rw [show (i + 1).toNat = i.toNat + 1 from by omega, ← List.drop_eq_getElem_cons hl]
  · rw [show (i + 1).toNat = i.toNat + 1 from by omega, List.take_add_one, List.getElem?_eq_getElem hl]; rfl
  · rw [← zGM s i (by omega)]
    obtain ⟨⟨l⟩⟩ := s
    rfl
theorem zWA (s : ByteArray) : s.data.toList.drop ((s.size : Int)).toNat = [] := by
  rw [show ((s.size : Int)).toNat = s.size from by omega, ← size_data, List.drop_length]
def wrd (c : UInt8) : List UInt8 → List UInt8 → List (List UInt8)
  | p, [] => [p]
  | p, b :: r => if b = c then p :: wrd c [] r else wrd c (p ++ [b]) r
theorem zVL (c b : UInt8) (p r : List UInt8) : wrd c p (b :: r) = if b = c then p :: wrd c [] r else wrd c (p ++ [b]) r := rfl
theorem zXV (c : UInt8) : ∀ s p : List UInt8, wrd c p s = match parts c s with
    | [] => [p]
    | q :: t => (p ++ q) :: t
  | [], p => by simp [wrd, parts]
  | b :: r, p => by
    rw [zVL, zDV]
    by_cases h : b = c
    · rw [if_pos h, if_pos h, zXV c r []]
      cases hp : parts c r with
      | nil => exact absurd hp (zGH c r)
      | cons q t => simp
    · rw [if_neg h, if_neg h, zXV c r (p ++ [b])]
      cases hp : parts c r with
      | nil => exact absurd hp (zGH c r)
      | cons q t => simp
theorem zXU (c : UInt8) (s : List UInt8) : wrd c [] s = parts c s := by
  rw [zXV]
  cases hp : parts c s with
  | nil => exact absurd hp (zGH c s)
  | cons q t => simp
theorem toNat_eq (b : UInt8) (n : Nat) (hn : n < 256) : ((b.toNat : Int) = (n : Int)) ↔ b = UInt8.ofNat n := by
  constructor
  · intro h
    refine UInt8.toNat_inj.1 ?_
    rw [UInt8.toNat_ofNat']; omega
  · rintro rfl
    rw [UInt8.toNat_ofNat']; omega
theorem split_ev (s : ByteArray) (hs : s.size < 4294967281) : strings_Split.f s ⟨#[32]⟩ = some ((parts 32 s.data.toList).map ba) := by
  unfold strings_Split.f
  rw [if_pos ⟨hs, rfl⟩]
  refine congrArg some ?_
  have e := Lib.splitB_data ⟨#[32]⟩ 0 (Lib.countB s ⟨#[32]⟩) s
  have e2 : Lib.splitK [32] 0 (Lib.countB s ⟨#[32]⟩) s.data.toList = parts 32 s.data.toList := split_eq 32 s.data.toList
  have e3 : (Lib.splitB ⟨#[32]⟩ 0 (Lib.countB s ⟨#[32]⟩) s).map (·.data.toList) = parts 32 s.data.toList := e.trans e2
  rw [← e3, List.map_map]
  refine (List.map_congr_left (fun x _ => zLQ x) |>.trans (List.map_id _)).symm
def lin : List UInt8 → List UInt8 → List (List UInt8) × Bool
  | p, [] => if p = [] then ([], true) else ([p], false)
  | p, b :: r => if b = 10 then (p :: (lin [] r).1, (lin [] r).2) else lin (p ++ [b]) r
theorem zVT (p : List UInt8) (b : UInt8) (r : List UInt8) : lin p (b :: r) = if b = 10 then (p :: (lin [] r).1, (lin [] r).2) else lin (p ++ [b]) r := rfl
theorem zRX : ∀ (s p : List UInt8), lin p s = if (cut1 10 s).2.2 = true then ((p ++ (cut1 10 s).1) :: (lin [] (cut1 10 s).2.1).1, (lin [] (cut1 10 s).2.1).2) else if p ++ s = [] then ([], true) else ([p ++ s], false)
  | [], p => by simp [lin, cut1]
  | b :: r, p => by
    rw [zVT, zAN]
    by_cases h : b = 10
    · rw [if_pos h, if_pos h]; simp
    · rw [if_neg h, if_neg h, zRX r (p ++ [b])]
      simp
def numR (most : Nat) (l : List UInt8) : Int × Bool := match numP most l with
  | some v => ((v : Int), true)
  | none => (0, false)
theorem zYX {n : Int} (h0 : -9223372036854775808 ≤ n) (h1 : n ≤ 9223372036854775807) : strconv_Itoa.f n = some (ba (Lib.itoa n)) := by
  unfold strconv_Itoa.f
  rw [if_pos h0, if_pos h1]
  rfl
end Go.Proofs.YtholbmidciapdaaGreatDoor.PL
namespace Go.Proofs.YtholbmidciapdaaGreatDoor.PL
open Go Go.RowKit Go.Proofs.YtholbmidciapdaaGreatDoorW.PrintWords Go.Proofs.YtholbmidciapdaaGreatDoorW.PrintLast Go.Proofs.YtholbmidciapdaaGreatDoorW.PrintMore Go.Proofs.YtholbmidciapdaaGreatDoor.Pr Go.Proofs.YtholbmidciapdaaGreatDoor.TX Go.Proofs.YtholbmidciapdaaGreatDoor.X
theorem zKO : ∀ (t p : List UInt8), (lin p t).1.length ≤ t.length + 1
  | [], p => by unfold lin; split <;> simp
  | b :: r, p => by
    rw [zVT]
    by_cases c : b = 10
    · rw [if_pos c]; have := zKO r []; simp; omega
    · rw [if_neg c]; have := zKO r (p ++ [b]); simp; omega
theorem zFE {s : List UInt8} {e : Bool} (h : lin [] s = ([], e)) : s = [] ∧ e = true := by
  rw [zRX] at h
  by_cases c : (cut1 10 s).2.2 = true
  · rw [if_pos c] at h; simp at h
  · rw [if_neg c] at h
    by_cases c2 : ([] : List UInt8) ++ s = []
    · rw [if_pos c2] at h
      exact ⟨by simpa using c2, (congrArg Prod.snd h).symm⟩
    · rw [if_neg c2] at h; simp at h
theorem zKB {s l : List UInt8} {r : List (List UInt8)} {e : Bool} (h : lin [] s = (l :: r, e)) :
    (cut1 10 s).1 = l ∧ (((cut1 10 s).2.2 = true ∧ lin [] (cut1 10 s).2.1 = (r, e)) ∨ ((cut1 10 s).2.2 = false ∧ (cut1 10 s).2.1 = [] ∧ r = [] ∧ e = false)) ∧ s ≠ [] ∧ l.length ≤ s.length := by
  have hne : s ≠ [] := fun e2 => by rw [e2] at h; simp [lin] at h
  rw [zRX] at h
  by_cases c : (cut1 10 s).2.2 = true
  · rw [if_pos c] at h
    simp only [List.nil_append, Prod.mk.injEq, List.cons.injEq] at h
    refine ⟨h.1.1, .inl ⟨c, Prod.ext h.1.2 h.2⟩, hne, ?_⟩
    have := congrArg List.length (zKD 10 s c)
    rw [List.length_append, h.1.1] at this
    omega
  · rw [if_neg c, if_neg (by simpa using hne)] at h
    simp only [List.nil_append, Prod.mk.injEq, List.cons.injEq] at h
    have := zHQ 10 s (Bool.eq_false_iff.2 c)
    exact ⟨by rw [this.1]; exact h.1.1, .inr ⟨Bool.eq_false_iff.2 c, this.2, h.1.2.symm, h.2.symm⟩, hne, by rw [h.1.1]; exact Nat.le_refl _⟩
section
variable {α : Type}
/-- Line by line: the first line that has no such thing, or no line feed, stops it. -/
def run (zCJ : List UInt8 → Option α) (e : Bool) : List (List UInt8) → List α → List α × Option Nat
  | [], out => (out, none)
  | l :: r, out => match zCJ l with
    | none => ([], some out.length)
    | some x => if r = [] ∧ e = false then ([], some out.length) else run zCJ e r (out ++ [x])
theorem zNW (zCJ : List UInt8 → Option α) (e : Bool) (l : List UInt8) (r : List (List UInt8)) (out : List α) : run zCJ e (l :: r) out = match zCJ l with
    | none => ([], some out.length)
    | some x => if r = [] ∧ e = false then ([], some out.length) else run zCJ e r (out ++ [x]) := rfl
def zIE (zIG : α → List UInt8) : List α → List UInt8
  | [] => []
  | x :: r => zIG x ++ 10 :: zIE zIG r
end
theorem zGJ {n : Int} (h0 : 0 ≤ n) : Lib.itoa n = Lib.decDigits n.toNat := by unfold Lib.itoa; rw [if_neg (by omega)]
theorem zSE {n : Int} {m : Nat} (h0 : 0 ≤ n) (h1 : n < 10 ^ m) (hm : 1 ≤ m) : (Lib.itoa n).length ≤ m := by
  rw [zGJ h0]
  refine zFA ?_ hm
  have : ((n.toNat : Nat) : Int) < ((10 ^ m : Nat) : Int) := by rw [Int.natCast_pow]; show ((n.toNat : Nat) : Int) < 10 ^ m; omega
  exact Int.ofNat_lt.1 this
end Go.Proofs.YtholbmidciapdaaGreatDoor.PL
namespace Go.Proofs.YtholbmidciapdaaGreatDoor.PL
open Go Go.RowKit Go.Proofs.YtholbmidciapdaaGreatDoorW.PrintWords Go.Proofs.YtholbmidciapdaaGreatDoorW.PrintLast Go.Proofs.YtholbmidciapdaaGreatDoorW.PrintMore Go.Proofs.YtholbmidciapdaaGreatDoor.Pr
def Lt26 (a b : S26) : Prop := a.f0 < b.f0 ∨ (a.f0 = b.f0 ∧ a.f1 < b.f1)
instance (a b : S26) : Decidable (Lt26 a b) := by unfold Lt26; infer_instance
def Key26 (a b : S26) : Prop := a.f0 = b.f0 ∧ a.f1 = b.f1
instance (a b : S26) : Decidable (Key26 a b) := by unfold Key26; infer_instance
def Hit (c d : Int) (x : S26) : Prop := x.f0 = c ∧ x.f1 ≤ d
instance (c d : Int) (x : S26) : Decidable (Hit c d x) := by unfold Hit; infer_instance
abbrev Srt (l : List S26) : Prop := l.Pairwise Lt26
/-- The greatest one of some days: behind lo, or from lo on. -/
def Mst (strict : Bool) (c lo hi : Int) (s : S26 × Bool) (x : S26) : Prop := x.f0 = c ∧ (if strict = true then lo < x.f1 else lo ≤ x.f1) ∧ x.f1 ≤ hi ∧ (s.2 = false ∨ s.1.f2 < x.f2)
instance (b : Bool) (c lo hi : Int) (s : S26 × Bool) (x : S26) : Decidable (Mst b c lo hi s x) := by unfold Mst; infer_instance
theorem zWM {a b c : S26} (h1 : Lt26 a b) (h2 : Lt26 b c) : Lt26 a c := by unfold Lt26 at *; omega
end Go.Proofs.YtholbmidciapdaaGreatDoor.PL
namespace Go.Proofs.YtholbmidciapdaaGreatDoor.PL
open Go Go.RowKit Go.Proofs.YtholbmidciapdaaGreatDoorW.PrintWords Go.Proofs.YtholbmidciapdaaGreatDoorW.PrintLast Go.Proofs.YtholbmidciapdaaGreatDoorW.PrintMore Go.Proofs.YtholbmidciapdaaGreatDoor.Pr Go.Proofs.YtholbmidciapdaaGreatDoor.X
theorem zQF (a b c : Int) : zR.f a b c = some (decide (b ≤ a ∧ a ≤ c)) := by
  unfold zR.f
  by_cases h : a ≥ b
  · rw [if_pos h]; exact congrArg some (decide_eq_decide.2 ⟨fun q => ⟨h, q⟩, fun q => q.2⟩)
  · rw [if_neg h, decide_eq_false (fun q => h q.1)]
def Rng (x : S26) : Prop := (1 ≤ x.f0 ∧ x.f0 ≤ 9) ∧ (0 ≤ x.f1 ∧ x.f1 ≤ 100000) ∧ 0 ≤ x.f2 ∧ x.f2 ≤ 1000000
instance (x : S26) : Decidable (Rng x) := by unfold Rng; infer_instance
theorem zYJ (a b c : Int) : qP.f a b c = some (decide (Rng ⟨a, b, c⟩)) := by
  unfold qP.f
  simp only [zQF, Option.bind_some]
  by_cases h1 : 1 ≤ a ∧ a ≤ 9
  · rw [if_pos (decide_eq_true h1)]
    by_cases h2 : 0 ≤ b ∧ b ≤ 100000
    · rw [if_pos (decide_eq_true h2)]
      exact congrArg some (decide_eq_decide.2 ⟨fun q => ⟨h1, h2, q⟩, fun q => q.2.2⟩)
    · rw [if_neg (by simpa using h2), decide_eq_false (fun q : Rng ⟨a, b, c⟩ => h2 q.2.1)]
  · rw [if_neg (by simpa using h1), decide_eq_false (fun q : Rng ⟨a, b, c⟩ => h1 q.1)]
theorem zRP (a b c : Int) : jA.f a b c = some (decide (Rng ⟨a, b, c⟩)) := by
  unfold jA.f
  by_cases h1 : a ≥ 1
  case neg => rw [if_neg h1, decide_eq_false (fun q : Rng ⟨a, b, c⟩ => h1 q.1.1)]
  rw [if_pos h1]
  by_cases h2 : a ≤ 9
  case neg => rw [if_neg h2, decide_eq_false (fun q : Rng ⟨a, b, c⟩ => h2 q.1.2)]
  rw [if_pos h2]
  by_cases h3 : b ≥ 0
  case neg => rw [if_neg h3, decide_eq_false (fun q : Rng ⟨a, b, c⟩ => h3 q.2.1.1)]
  rw [if_pos h3]
  by_cases h4 : b ≤ 100000
  case neg => rw [if_neg h4, decide_eq_false (fun q : Rng ⟨a, b, c⟩ => h4 q.2.1.2)]
  rw [if_pos h4]
  by_cases h5 : c ≥ 0
  case neg => rw [if_neg h5, decide_eq_false (fun q : Rng ⟨a, b, c⟩ => h5 q.2.2.1)]
  rw [if_pos h5]
  exact congrArg some (decide_eq_decide.2 ⟨fun q => ⟨⟨h1, h2⟩, ⟨h3, h4⟩, h5, q⟩, fun q => q.2.2.2⟩)
def cmpv (a b : Int) : Int := if a < b then -1 else if a > b then 1 else 0
theorem cmp_eq (a b : Int) : yO.f a b = some (cmpv a b) := by
  unfold yO.f cmp_isNaN_int.f cmpv
  simp only [bne_self_eq_false, Option.bind_some, Bool.false_eq_true, if_false]
  split
  · rfl
  · split <;> rfl
theorem or_ev (x y : Int) : Ev (fun k => yU.f k [x, y]) (if x = 0 then y else x) := by
  refine Ev.step (fun k => yU.l0.eq_2 ..) (evp (by simp) (evp (by omega) (evp (by simp) ?_)))
  rw [show rd [x, y] 0 = x from rfl, show wrap64 (0 + 1) = 1 from by unfold wrap64; omega]
  by_cases c : x = 0
  · rw [if_pos c]
    refine evp c (Ev.step (fun k => yU.l0.eq_2 ..) (evp (by simp) (evp (by omega) (evp (by simp) ?_))))
    rw [show rd [x, y] 1 = y from rfl, show wrap64 (1 + 1) = 2 from by unfold wrap64; omega]
    by_cases d : y = 0
    · refine evp d (Ev.step (fun k => yU.l0.eq_2 ..) (evn (by simp) (evr d.symm)))
    · exact evn d (Ev.now _)
  · rw [if_neg c]; exact evn c (Ev.now _)
theorem zXA (a b : S26) : ∃ v, Ev (fun k => vM.f k a.f0 a.f1 a.f2 b.f0 b.f1 b.f2) v ∧ (v < 0 ↔ Lt26 a b) ∧ (v = 0 ↔ Key26 a b) := by
  refine ⟨_, evb (evc (fun _ => rfl) (cmp_eq _ _)) (evb (evc (fun _ => rfl) (cmp_eq _ _)) (evb (or_ev _ _) (Ev.now _))), ?_, ?_⟩
  · unfold cmpv Lt26; split <;> (try split) <;> (try split) <;> omega
  · unfold cmpv Key26; split <;> (try split) <;> (try split) <;> omega
theorem wAZ (a b : S26) : yI.f a.f0 a.f1 a.f2 b.f0 b.f1 b.f2 = some (decide (Lt26 a b)) := by
  unfold yI.f
  by_cases h : a.f0 < b.f0
  · rw [if_pos h]; exact congrArg some (decide_eq_true (show Lt26 a b from .inl h)).symm
  · rw [if_neg h]
    by_cases h2 : a.f0 = b.f0
    · rw [if_pos h2]; exact congrArg some (decide_eq_decide.2 ⟨fun q => (show Lt26 a b from .inr ⟨h2, q⟩), fun q => by unfold Lt26 at q; omega⟩)
    · rw [if_neg h2]; exact congrArg some (decide_eq_false (show ¬ Lt26 a b from fun q => by unfold Lt26 at q; omega)).symm
theorem zEJ {l : List S26} {i : Nat} (h : i < l.length) : zH l (i : Int) = l[i] := by
  unfold zH
  rw [Int.toNat_natCast, List.getD_eq_getElem?_getD, List.getElem?_eq_getElem h]
  rfl
theorem zNY {l : List S26} {i : Int} (h0 : 0 ≤ i) (h : i < (l.length : Int)) : zH l i ∈ l := by
  obtain ⟨n, rfl⟩ : ∃ n : Nat, i = (n : Int) := ⟨i.toNat, by omega⟩
  rw [zEJ (by omega)]
  exact List.getElem_mem _
theorem zRR {l : List S26} {x : S26} (h : x ∈ l) : ∃ i : Int, 0 ≤ i ∧ i < (l.length : Int) ∧ zH l i = x := by
  obtain ⟨i, hi, rfl⟩ := List.mem_iff_getElem.1 h
  exact ⟨(i : Int), by omega, by omega, zEJ hi⟩
theorem drop26 {l : List S26} {i : Int} (h0 : 0 ≤ i) (h1 : i < (l.length : Int)) : l.drop i.toNat = zH l i :: l.drop (i + 1).toNat := by
  obtain ⟨n, rfl⟩ : ∃ n : Nat, i = (n : Int) := ⟨i.toNat, by omega⟩
  rw [zEJ (by omega), Int.toNat_natCast, show ((n : Int) + 1).toNat = n + 1 from by omega]
  exact List.drop_eq_getElem_cons (by omega)
def OKT (r : Int) (l : List S26) : Prop := (1 ≤ r ∧ r ≤ 4) ∧ (l.length : Int) ≤ 64 ∧ (∀ x, x ∈ l → Rng x) ∧ Srt l
instance (R : Int) (l : List S26) : Decidable (OKT R l) := by unfold OKT; infer_instance
theorem zWC {l : List S26} (h : ∀ j, 0 < j → j < (l.length : Int) → Lt26 (zH l (j - 1)) (zH l j)) : ∀ (d : Nat) (a : Int), 0 ≤ a → a + d + 1 < (l.length : Int) → Lt26 (zH l a) (zH l (a + d + 1))
  | 0, a, h0, h1 => by
    have := h (a + 1) (by omega) (by omega)
    rw [show a + 1 - 1 = a from by omega] at this
    rwa [show a + ((0 : Nat) : Int) + 1 = a + 1 from by omega]
  | d + 1, a, h0, h1 => by
    have ih := zWC h d a h0 (by omega)
    have := h (a + d + 1 + 1) (by omega) (by omega)
    rw [show a + (d : Int) + 1 + 1 - 1 = a + d + 1 from by omega] at this
    rw [show a + ((d + 1 : Nat) : Int) + 1 = a + d + 1 + 1 from by omega]
    exact zWM ih this
theorem zYB (l : List S26) : (∀ j, 0 < j → j < (l.length : Int) → Lt26 (zH l (j - 1)) (zH l j)) ↔ Srt l := by
  constructor
  · intro h
    refine List.pairwise_iff_getElem.2 (fun i j hi hj hij => ?_)
    have := zWC h (j - i - 1) (i : Int) (by omega) (by omega)
    rwa [show (i : Int) + ((j - i - 1 : Nat) : Int) + 1 = (j : Int) from by omega, zEJ hi, zEJ hj] at this
  · intro h j h0 h1
    obtain ⟨n, rfl⟩ : ∃ n : Nat, j = (n : Int) := ⟨j.toNat, by omega⟩
    have := List.pairwise_iff_getElem.1 h (n - 1) n (by omega) (by omega) (by omega)
    rwa [show (n : Int) - 1 = ((n - 1 : Nat) : Int) from by omega, zEJ (by omega), zEJ (by omega)]
theorem zXB (r : Int) (l : List S26) (hl : (l.length : Int) ≤ 64) : ∀ i, 0 ≤ i → i ≤ (l.length : Int) →
    ∃ e : Int × Int, Ev (fun k => wU.l0 k l (l.length : Int) i r l) e ∧ Ev (fun k => zW.l0 k i r l) e ∧
      (e.2 = 0 ↔ ∀ j, i ≤ j → j < (l.length : Int) → Rng (zH l j) ∧ (0 < j → Lt26 (zH l (j - 1)) (zH l j))) ∧ (e.2 = 0 → e.1 = -1) := by
  refine zEW 0 (l.length : Int) _ ?_ ?_
  · exact ⟨(-1, 0), Ev.step (fun k => wU.l0.eq_2 ..) (evn (by omega) (Ev.now _)), Ev.step (fun k => zW.l0.eq_2 ..) (evn (by omega) (Ev.now _)), ⟨fun _ j a b => by omega, fun _ => rfl⟩, fun _ => rfl⟩
  · intro i h0 h1 ih
    have hw := zJY h0 h1 (by omega)
    have re := zYJ (zH l i).f0 (zH l i).f1 (zH l i).f2
    have rr := zRP (zH l i).f0 (zH l i).f1 (zH l i).f2
    have e26 : (⟨(zH l i).f0, (zH l i).f1, (zH l i).f2⟩ : S26) = zH l i := rfl
    rw [e26] at re rr
    by_cases c1 : Rng (zH l i)
    case neg =>
      rw [decide_eq_false c1] at re rr
      exact ⟨(i, 2), Ev.step (fun k => wU.l0.eq_2 ..) (evp h1 (evp h0 (evp h1 (evb (evc (fun _ => rfl) re) (evn (by simp) (Ev.now _)))))), Ev.step (fun k => zW.l0.eq_2 ..) (evp h1 (evp h0 (evb (evc (fun _ => rfl) rr) (evn (by simp) (Ev.now _))))),
        ⟨fun q => by simp at q, fun q => absurd (q i (by omega) h1).1 c1⟩, fun q => by simp at q⟩
    rw [decide_eq_true c1] at re rr
    obtain ⟨e, e1, e2, e3, e4⟩ := ih
    have ext : (0 < i → Lt26 (zH l (i - 1)) (zH l i)) → ((∀ j, i + 1 ≤ j → j < (l.length : Int) → Rng (zH l j) ∧ (0 < j → Lt26 (zH l (j - 1)) (zH l j))) ↔ ∀ j, i ≤ j → j < (l.length : Int) → Rng (zH l j) ∧ (0 < j → Lt26 (zH l (j - 1)) (zH l j))) := fun hh =>
      ⟨fun q j a b => by
        by_cases e : j = i
        · rw [e]; exact ⟨c1, hh⟩
        · exact q j (by omega) b, fun q j a b => q j (by omega) b⟩
    by_cases c2 : i > 0
    · have hp := w64_pred (i := i) (n := (l.length : Int)) h0 (by omega) (by omega)
      obtain ⟨v, v1, v2, v3⟩ := zXA (zH l (i - 1)) (zH l i)
      have hb := wAZ (zH l (i - 1)) (zH l i)
      by_cases c3 : Lt26 (zH l (i - 1)) (zH l i)
      · rw [decide_eq_true c3] at hb
        have v4 := v2.2 c3
        refine ⟨e, Ev.step (fun k => wU.l0.eq_2 ..) (evp h1 (evp h0 (evp h1 (evb (evc (fun _ => rfl) re) (evp rfl (evp c2 ?_)))))), Ev.step (fun k => zW.l0.eq_2 ..) (evp h1 (evp h0 (evb (evc (fun _ => rfl) rr) (evp rfl (evp c2 ?_))))), e3.trans (ext (fun _ => c3)), e4⟩
        · rw [hp, hw]; exact evp (by omega) (evp (by omega) (evb v1 (evn (by omega) e1)))
        · rw [hp, hw]; exact evp (by omega) (evp (by omega) (evb (evc (fun _ => rfl) hb) (evp rfl e2)))
      · rw [decide_eq_false c3] at hb
        have v4 : v ≥ 0 := by
          by_cases q : v < 0
          · exact absurd (v2.1 q) c3
          · omega
        refine ⟨(i, 5), Ev.step (fun k => wU.l0.eq_2 ..) (evp h1 (evp h0 (evp h1 (evb (evc (fun _ => rfl) re) (evp rfl (evp c2 ?_)))))), Ev.step (fun k => zW.l0.eq_2 ..) (evp h1 (evp h0 (evb (evc (fun _ => rfl) rr) (evp rfl (evp c2 ?_))))), ⟨fun q => by simp at q, fun q => absurd ((q i (by omega) h1).2 c2) c3⟩, fun q => by simp at q⟩
        · rw [hp]; exact evp (by omega) (evp (by omega) (evb v1 (evp v4 (Ev.now _))))
        · rw [hp]; exact evp (by omega) (evp (by omega) (evb (evc (fun _ => rfl) hb) (evn (by simp) (Ev.now _))))
    · refine ⟨e, Ev.step (fun k => wU.l0.eq_2 ..) (evp h1 (evp h0 (evp h1 (evb (evc (fun _ => rfl) re) (evp rfl (evn c2 ?_)))))), Ev.step (fun k => zW.l0.eq_2 ..) (evp h1 (evp h0 (evb (evc (fun _ => rfl) rr) (evp rfl (evn c2 ?_))))), e3.trans (ext (fun q => absurd q c2)), e4⟩
      · rw [hw]; exact e1
      · rw [hw]; exact e2
theorem zNK (r : Int) (l : List S26) : ∃ e : Int × Int, Ev (fun k => wU.f k r l) e ∧ Ev (fun k => zW.f k r l) e ∧ (e.2 = 0 ↔ OKT r l) ∧ (e.2 = 0 → e.1 = -1) := by
  have two : ∀ b : Bool, b = true → Ev (fun k => zW.j0 k b r l) (-1, 2) := fun b hb => Ev.step (fun k => zW.j0.eq_2 ..) (evp hb (Ev.now _))
  have w := zQF r 1 4
  by_cases c0 : 1 ≤ r ∧ r ≤ 4
  case neg =>
    rw [decide_eq_false c0] at w
    refine ⟨(-1, 2), evb (evc (fun _ => rfl) w) (evn (by simp) (Ev.now _)), ?_, ⟨fun q => by simp at q, fun q => absurd q.1 c0⟩, fun _ => rfl⟩
    by_cases c1 : r < 1
    · exact evp c1 (two _ rfl)
    · exact evn c1 (two _ (decide_eq_true (by omega)))
  rw [decide_eq_true c0] at w
  have pre : ∀ e, Ev (fun k => if (l.length : Int) > 64 then (some ((-1), 8)) else (zW.l0 k 0 r l)) e → Ev (fun k => zW.f k r l) e := fun e he => by
    refine evn (by omega) ?_
    rw [decide_eq_false (show ¬ r > 4 by omega)]
    exact Ev.step (fun k => zW.j0.eq_2 ..) (evn (by simp) he)
  by_cases c2 : (l.length : Int) > 64
  · exact ⟨(-1, 8), evb (evc (fun _ => rfl) w) (evp rfl (evp c2 (Ev.now _))), pre _ (evp c2 (Ev.now _)), ⟨fun q => by simp at q, fun q => absurd q.2.1 (by omega)⟩, fun _ => rfl⟩
  · obtain ⟨e, e1, e2, e3, e4⟩ := zXB r l (by omega) 0 (by omega) (by omega)
    refine ⟨e, evb (evc (fun _ => rfl) w) (evp rfl (evn c2 e1)), pre _ (evn c2 e2), e3.trans ⟨fun q => ⟨c0, by omega, fun x hx => ?_, (zYB l).1 (fun j a b => (q j (by omega) b).2 a)⟩, fun q j a b => ⟨q.2.2.1 _ (zNY a b), fun p => (zYB l).2 q.2.2.2 j p b⟩⟩, e4⟩
    obtain ⟨i, i0, i1, rfl⟩ := zRR hx
    exact (q i i0 i1).1
theorem zYF (r : Int) (l : List S26) : EvB (fun k => vJ.f k r l) (OKT r l) := by
  obtain ⟨e, e1, _, e3, _⟩ := zNK r l
  refine ⟨fun h => evb e1 (evr (beq_iff_eq.2 (e3.2 h))), fun h => evb e1 (evr ?_)⟩
  rw [beq_eq_false_iff_ne]
  exact fun q => h (e3.1 q)
theorem wBB (r : Int) (l : List S26) : EvB (fun k => qE.f k r l) (OKT r l) := by
  obtain ⟨e, _, e1, e3, _⟩ := zNK r l
  refine ⟨fun h => evb e1 (evr (beq_iff_eq.2 (e3.2 h))), fun h => evb e1 (evr ?_)⟩
  rw [beq_eq_false_iff_ne]
  exact fun q => h (e3.1 q)
theorem zYD (r : Int) (l : List S26) (hl : (l.length : Int) ≤ 9223372036854775807) : Ev (fun k => wV.f k r l r l) true := by
  refine evp rfl ?_
  rw [show ((l.length : Int) != (l.length : Int)) = false from bne_self_eq_false _]
  refine Ev.step (fun k => wV.j0.eq_2 ..) (evn (by simp) ?_)
  refine zEW 0 (l.length : Int) (fun i => Ev (fun k => wV.l0 k i r l r l) true) ?_ ?_ 0 (Int.le_refl _) (by omega)
  · exact Ev.step (fun k => wV.l0.eq_2 ..) (evn (by omega) (Ev.now _))
  · intro i h0 h1 ih
    refine Ev.step (fun k => wV.l0.eq_2 ..) (evp h1 (evp h0 (evp h1 (evn (by simp) ?_))))
    rw [zJY h0 h1 hl]
    exact ih
theorem clone_eq {l : List S26} (h : (l.length : Int) ≤ 65) : qC.f l = some l := by
  unfold qC.f
  rw [if_pos (by omega)]
theorem cp_eq {r : Int} {l : List S26} (h : (l.length : Int) ≤ 65) : uV.f r l = some (r, l) := by
  unfold uV.f
  rw [clone_eq h]
  rfl
theorem few_eq (r : Int) (l : List S26) : ∃ b, yZ.f r l = some b ∧ (b = true → (l.length : Int) ≤ 65) := by
  unfold yZ.f
  by_cases c : (l.length : Int) ≤ 20
  · exact ⟨true, if_pos c, fun _ => by omega⟩
  · refine ⟨(l.length : Int) == 65, if_neg c, fun q => ?_⟩
    have := beq_iff_eq.1 q
    omega
end Go.Proofs.YtholbmidciapdaaGreatDoor.PL
namespace Go.Proofs.YtholbmidciapdaaGreatDoor.PL
open Go Go.RowKit Go.Proofs.YtholbmidciapdaaGreatDoorW.PrintWords Go.Proofs.YtholbmidciapdaaGreatDoorW.PrintLast Go.Proofs.YtholbmidciapdaaGreatDoorW.PrintMore Go.Proofs.YtholbmidciapdaaGreatDoor.Pr Go.Proofs.YtholbmidciapdaaGreatDoor.TX Go.Proofs.YtholbmidciapdaaGreatDoor.X
theorem zDP {b : List UInt8} (h : ¬ (Canon b ∧ b.length ≤ 9)) : numR 9 b = (0, false) := by unfold numR numP; rw [if_neg h]
theorem zYR {b : List UInt8} (h : Canon b ∧ b.length ≤ 9) : numR 9 b = (((zBD 0 b : Nat) : Int), true) := by unfold numR numP; rw [if_pos h]
theorem zCI {b : List UInt8} (h : numP 9 b = none) : numR 9 b = (0, false) := by unfold numR; rw [h]
theorem zDW {b : List UInt8} {v : Nat} (h : numP 9 b = some v) : numR 9 b = ((v : Int), true) := by unfold numR; rw [h]
def digs : List UInt8 := [48, 49, 50, 51, 52, 53, 54, 55, 56, 57]
theorem zWW (b : UInt8) : digs.contains b = zBY b := by
  rw [Bool.eq_iff_iff]
  constructor
  · intro h
    simp [digs] at h
    rcases h with rfl | rfl | rfl | rfl | rfl | rfl | rfl | rfl | rfl | rfl <;> rfl
  · intro h
    have hb := (kZ b).1 h
    have e : b = UInt8.ofNat b.toNat := by simp
    rw [e]
    have q : b.toNat = 48 ∨ b.toNat = 49 ∨ b.toNat = 50 ∨ b.toNat = 51 ∨ b.toNat = 52 ∨ b.toNat = 53 ∨ b.toNat = 54 ∨ b.toNat = 55 ∨ b.toNat = 56 ∨ b.toNat = 57 := by omega
    rcases q with q | q | q | q | q | q | q | q | q | q <;> rw [q] <;> rfl
theorem zQU {α : Type} (p : α → Bool) : ∀ l : List α, (l.dropWhile p).dropWhile p = l.dropWhile p
  | [] => rfl
  | x :: r => by
    by_cases h : p x = true
    · simp only [List.dropWhile_cons, h, if_true]; exact zQU p r
    · simp only [List.dropWhile_cons, h]; simp [List.dropWhile_cons, h]
theorem zIR {α : Type} (p : α → Bool) : ∀ l : List α, l.dropWhile p = [] ↔ l.all p = true
  | [] => by simp
  | x :: r => by
    by_cases h : p x = true
    · simp only [List.dropWhile_cons, h, if_true, List.all_cons, Bool.true_and]; exact zIR p r
    · simp [List.dropWhile_cons, h]
theorem trim_all (b : List UInt8) : Lib.trimS b digs = [] ↔ b.all zBY = true := by
  have e : (fun x => digs.contains x) = zBY := funext zWW
  unfold Lib.trimS Lib.trimLeftS Lib.trimRightS
  rw [e]
  constructor
  · intro h
    have h1 := (zIR zBY _).1 h
    rw [List.all_reverse] at h1
    have h2 := (zIR zBY _).2 h1
    rw [zQU] at h2
    have := (zIR zBY _).1 h2
    rwa [List.all_reverse] at this
  · intro h
    have h1 : b.reverse.dropWhile zBY = [] := (zIR zBY _).2 (by rw [List.all_reverse]; exact h)
    rw [h1]
    rfl
theorem trim_eq {b : List UInt8} (h : b.length ≤ 9) : ∃ t, vP.f (ba b) (⟨#[48, 49, 50, 51, 52, 53, 54, 55, 56, 57]⟩ : ByteArray) = some t ∧ (t.toList = ([] : List UInt8) ↔ b.all zBY = true) := by
  refine ⟨ba (Lib.trimS b digs), ?_, ?_⟩
  · unfold vP.f
    rw [if_pos ⟨by rw [uK]; omega, by decide, by decide⟩]
    rfl
  · rw [yP]; exact trim_all b
theorem zXG {b : List UInt8} (h : Canon b) (hl : b.length ≤ 9) : strconv_Atoi.f (ba b) = some (((zBD 0 b : Nat) : Int), none) := by
  have ha := zPV h (by omega)
  unfold strconv_Atoi.f
  rw [if_pos (by rw [uK]; omega), zCD, ha]
theorem zKM (b : List UInt8) : vQ.f (ba b) = some (numR 9 b) := by
  unfold vQ.f
  rw [yP, uK]
  by_cases c0 : b = []
  · rw [if_pos c0, zDP (fun h => by have := h.1.1; rw [c0] at this; simp at this)]
  rw [if_neg c0]
  by_cases c1 : (b.length : Int) > 9
  · rw [if_pos c1, zDP (fun h => by omega)]
  rw [if_neg c1]
  have h1 : 1 ≤ b.length := by
    cases b with
    | nil => exact absurd rfl c0
    | cons x r => simp
  obtain ⟨t, t1, t2⟩ := trim_eq (b := b) (by omega)
  have tail : ¬ (1 < b.length ∧ b.head? = some 48) → ((vP.f (ba b) (⟨#[48, 49, 50, 51, 52, 53, 54, 55, 56, 57]⟩ : ByteArray)).bind fun t189 => (if t189.toList = ([] : List UInt8) then ((strconv_Atoi.f (ba b)).bind fun bt190 => (if bt190.2.isNone = true then (some (bt190.1, true)) else (some (bt190.1, false)))) else (some (0, false)))) = some (numR 9 b) := by
    intro hh
    rw [t1]
    show (if t.toList = ([] : List UInt8) then _ else _) = _
    by_cases d : b.all zBY = true
    · have hc : Canon b := ⟨h1, hh, d⟩
      rw [if_pos (t2.2 d), zXG hc (by omega), zYR ⟨hc, by omega⟩]
      rfl
    · rw [if_neg (fun q => d (t2.1 q)), zDP (fun h => d h.1.2.2)]
  by_cases c2 : (b.length : Int) > 1
  · obtain ⟨c, e1, _, e3⟩ := byte_at (ba b) (i := 0) (by omega) (by rw [uK]; omega)
    rw [show (0 : Int).toNat = 0 from rfl, List.drop_zero, zCD] at e1
    rw [if_pos c2, if_pos (by omega), e3]
    by_cases c3 : c = 48
    · rw [if_pos (show (c.toNat : Int) = 48 from (toNat_eq c 48 (by decide)).2 c3), zDP (fun h => h.1.2.1 ⟨by omega, by rw [e1]; simp [c3]⟩)]
    · rw [if_neg (show ¬ (c.toNat : Int) = 48 from fun q => c3 ((toNat_eq c 48 (by decide)).1 q))]
      exact tail (fun h => c3 (by have := h.2; rw [e1] at this; simpa using this))
  · rw [if_neg c2]
    exact tail (fun h => by omega)
theorem step_val (n : Nat) (b : UInt8) (hd : zBY b = true) (hn : n ≤ 10000000000) : wrap64 ((wrap64 (10 * (n : Int))) + (((b.toNat : Int) - 48) % 256)) = ((10 * n + (b.toNat - 48) : Nat) : Int) := by
  have h := (kZ b).1 hd
  rw [w64 (x := 10 * (n : Int)) (by omega) (by omega), w64 (by omega) (by omega)]
  omega
theorem zYH (s : ByteArray) (hs : (s.size : Int) ≤ 9) : ∀ i, 0 ≤ i → i ≤ (s.size : Int) → ∀ n : Nat, n + 1 ≤ 10 ^ i.toNat →
    Ev (fun k => zJ.l0 k s (n : Int) i) (if (s.data.toList.drop i.toNat).all zBY = true then (((zBD n (s.data.toList.drop i.toNat) : Nat) : Int), true) else (0, false)) := by
  refine zEW 0 (s.size : Int) _ ?_ ?_
  · intro n hn
    rw [zWA]
    exact Ev.step (fun k => zJ.l0.eq_2 ..) (evn (by omega) (evr (by rw [if_pos (show ([] : List UInt8).all zBY = true from rfl)]; rfl)))
  · intro i h0 h1 ih n hn
    obtain ⟨b, e1, _, e3⟩ := byte_at s h0 h1
    have hw : wrap64 (i + 1) = i + 1 := w64 (by omega) (by omega)
    have hp : 10 ^ i.toNat ≤ 10 ^ 9 := Nat.pow_le_pow_right (by decide) (by omega)
    refine Ev.step (fun k => zJ.l0.eq_2 ..) (evp h1 (evp h0 ?_))
    rw [e3, e1, hw]
    by_cases d1 : (b.toNat : Int) < 48
    · have hd : ¬ zBY b = true := fun h => by have := (kZ b).1 h; omega
      rw [if_neg (by rw [List.all_cons, Bool.and_eq_true]; exact fun h => hd h.1)]
      exact evp d1 (Ev.now _)
    by_cases d2 : (b.toNat : Int) > 57
    · have hd : ¬ zBY b = true := fun h => by have := (kZ b).1 h; omega
      rw [if_neg (by rw [List.all_cons, Bool.and_eq_true]; exact fun h => hd h.1)]
      exact evn d1 (evp d2 (Ev.now _))
    have hd : zBY b = true := (kZ b).2 (by omega)
    rw [step_val n b hd (by omega)]
    have q := ih (10 * n + (b.toNat - 48)) (by
      rw [show (i + 1).toNat = i.toNat + 1 from by omega, Nat.pow_succ]; omega)
    have ea : ((b :: s.data.toList.drop (i + 1).toNat).all zBY = true) = ((s.data.toList.drop (i + 1).toNat).all zBY = true) := by
      rw [List.all_cons, hd, Bool.true_and]
    simp only [ea]
    exact evn d1 (evn d2 q)
theorem zRQ (b : List UInt8) : Ev (fun k => zJ.f k (ba b)) (numR 9 b) := by
  have hsz : (ba b).size = b.length := rfl
  have bad : ∀ t, t = true → Ev (fun k => zJ.j0 k (ba b) t) (0, false) := fun t ht => Ev.step (fun k => zJ.j0.eq_2 ..) (evp ht (Ev.now _))
  by_cases c1 : ((ba b).size : Int) = 0
  · rw [zDP (fun h => by have := h.1.1; omega)]
    exact evp c1 (bad _ rfl)
  by_cases c2 : ((ba b).size : Int) > 9
  · rw [zDP (fun h => by have := h.2; omega)]
    exact evn c1 (evp c2 (bad _ rfl))
  have go : ¬ (1 < b.length ∧ b.head? = some 48) → Ev (fun k => zJ.j0 k (ba b) false) (numR 9 b) := by
    intro hh
    have q := zYH (ba b) (by omega) 0 (by omega) (by omega) 0 (by decide)
    rw [show (0 : Int).toNat = 0 from rfl, List.drop_zero, zCD] at q
    refine Ev.step (fun k => zJ.j0.eq_2 ..) (evn (by simp) ?_)
    by_cases hd : b.all zBY = true
    · rw [if_pos hd] at q
      rw [zYR ⟨⟨by omega, hh, hd⟩, by omega⟩]
      exact q
    · rw [if_neg hd] at q
      rw [zDP (fun h => hd h.1.2.2)]
      exact q
  by_cases c3 : ((ba b).size : Int) > 1
  · obtain ⟨c, e1, _, e3⟩ := byte_at (ba b) (i := 0) (by omega) (by omega)
    rw [show (0 : Int).toNat = 0 from rfl, List.drop_zero, zCD] at e1
    refine evn c1 (evn c2 (evp c3 (evp (by omega) ?_)))
    rw [e3]
    by_cases c4 : c = 48
    · have e4 : ((c.toNat : Int) == 48) = true := by rw [beq_iff_eq]; exact (toNat_eq c 48 (by decide)).2 c4
      rw [e4, zDP (fun h => h.1.2.1 ⟨by omega, by rw [e1]; simp [c4]⟩)]
      exact bad _ rfl
    · have e4 : ((c.toNat : Int) == 48) = false := by rw [beq_eq_false_iff_ne]; exact fun h => c4 ((toNat_eq c 48 (by decide)).1 h)
      rw [e4]
      exact go (fun h => c4 (by have := h.2; rw [e1] at this; simpa using this))
  · exact evn c1 (evn c2 (evn c3 (go (fun h => by omega))))
def cls : List UInt8 := [99, 108, 97, 115, 115]
def frm : List UInt8 := [102, 114, 111, 109]
def atw : List UInt8 := [97, 116]
def numW (a b c : List UInt8) : Option S26 := match numP 9 a with
  | none => none
  | some x => match numP 9 b with
    | none => none
    | some y => match numP 9 c with
      | none => none
      | some z => some ⟨(x : Int), (y : Int), (z : Int)⟩
def lineW : List (List UInt8) → Option S26
  | [w0, w1, w2, w3, w4, w5] => if w0 = cls ∧ w2 = frm ∧ w4 = atw then numW w1 w3 w5 else none
  | _ => none
def zCJ (l : List UInt8) : Option S26 := lineW (parts 32 l)
theorem six {α : Type} {l : List α} (h : l.length = 6) : ∃ a b c d e f, l = [a, b, c, d, e, f] := by
  match l, h with
  | [a, b, c, d, e, f], _ => exact ⟨a, b, c, d, e, f, rfl⟩
theorem zQM {w : List (List UInt8)} (h : ¬ w.length = 6) : lineW w = none := by
  unfold lineW
  split
  · exact absurd rfl h
  · rfl
def rateR (p : Int × Int × Int × Bool) : Option S26 → Prop
  | some x => p = (x.f0, x.f1, x.f2, true)
  | none => p.2.2.2 = false
theorem rate_ev (l : List UInt8) (hl : l.length ≤ 100000) : ∃ p, Ev (fun k => vO.f k (ba l)) p ∧ rateR p (zCJ l) := by
  have hsp := split_ev (ba l) (by rw [uK]; omega)
  rw [zCD] at hsp
  unfold zCJ
  have pre : ∀ p, Ev (fun k => (if (((parts 32 l).map ba).length : Int) = 6 then (if 0 < (((parts 32 l).map ba).length : Int) then (if (rdOf ByteArray.empty ((parts 32 l).map ba) 0).toList = ([99, 108, 97, 115, 115] : List UInt8) then (if 2 < (((parts 32 l).map ba).length : Int) then (if (rdOf ByteArray.empty ((parts 32 l).map ba) 2).toList = ([102, 114, 111, 109] : List UInt8) then (if 4 < (((parts 32 l).map ba).length : Int) then (vO.j0 k ((parts 32 l).map ba) ((rdOf ByteArray.empty ((parts 32 l).map ba) 4).toList != ([97, 116] : List UInt8))) else (none)) else (vO.j0 k ((parts 32 l).map ba) true)) else (none)) else (vO.j0 k ((parts 32 l).map ba) true)) else (none)) else (vO.j0 k ((parts 32 l).map ba) true))) p → Ev (fun k => vO.f k (ba l)) p := fun p hp => evb (evc (fun _ => rfl) hsp) hp
  have bad : ∀ (w : List ByteArray) (t : Bool), t = true → Ev (fun k => vO.j0 k w t) (0, 0, 0, false) := fun w t ht => Ev.step (fun k => vO.j0.eq_2 ..) (evp ht (Ev.now _))
  by_cases h6 : (parts 32 l).length = 6
  case neg =>
    rw [zQM h6]
    exact ⟨_, pre _ (evn (by rw [List.length_map]; omega) (bad _ _ rfl)), rfl⟩
  obtain ⟨w0, w1, w2, w3, w4, w5, hw⟩ := six h6
  rw [hw] at pre ⊢
  have e0 : (rdOf ByteArray.empty ([w0, w1, w2, w3, w4, w5].map ba) 0).toList = w0 := yP w0
  have e2 : (rdOf ByteArray.empty ([w0, w1, w2, w3, w4, w5].map ba) 2).toList = w2 := yP w2
  have e4 : (rdOf ByteArray.empty ([w0, w1, w2, w3, w4, w5].map ba) 4).toList = w4 := yP w4
  rw [e0, e2, e4] at pre
  show ∃ p, _ ∧ rateR p (if w0 = cls ∧ w2 = frm ∧ w4 = atw then numW w1 w3 w5 else none)
  by_cases c0 : w0 = cls
  case neg =>
    rw [if_neg (fun h => c0 h.1)]
    exact ⟨_, pre _ (evp rfl (evp (by simp) (evn c0 (bad _ _ rfl)))), rfl⟩
  by_cases c2 : w2 = frm
  case neg =>
    rw [if_neg (fun h => c2 h.2.1)]
    exact ⟨_, pre _ (evp rfl (evp (by simp) (evp c0 (evp (by simp) (evn c2 (bad _ _ rfl)))))), rfl⟩
  by_cases c4 : w4 = atw
  case neg =>
    rw [if_neg (fun h => c4 h.2.2)]
    exact ⟨_, pre _ (evp rfl (evp (by simp) (evp c0 (evp (by simp) (evp c2 (evp (by simp) (bad _ _ (bne_iff_ne.2 c4)))))))), rfl⟩
  rw [if_pos ⟨c0, c2, c4⟩]
  have n1 : vQ.f (rdOf ByteArray.empty ([w0, w1, w2, w3, w4, w5].map ba) 1) = some (numR 9 w1) := zKM w1
  have n3 : vQ.f (rdOf ByteArray.empty ([w0, w1, w2, w3, w4, w5].map ba) 3) = some (numR 9 w3) := zKM w3
  have n5 : vQ.f (rdOf ByteArray.empty ([w0, w1, w2, w3, w4, w5].map ba) 5) = some (numR 9 w5) := zKM w5
  have ef : (w4 != ([97, 116] : List UInt8)) = false := by rw [bne_eq_false_iff_eq]; exact c4
  rw [ef] at pre
  have go : ∀ p, Ev (fun k => if (numR 9 w1).2 = true then (if (numR 9 w3).2 = true then (some ((numR 9 w1).1, (numR 9 w3).1, (numR 9 w5).1, (numR 9 w5).2)) else (some ((numR 9 w1).1, (numR 9 w3).1, (numR 9 w5).1, false))) else (some ((numR 9 w1).1, (numR 9 w3).1, (numR 9 w5).1, false))) p → Ev (fun k => vO.f k (ba l)) p := fun p hp =>
    pre _ (evp rfl (evp (by simp) (evp c0 (evp (by simp) (evp c2 (evp (by simp) (Ev.step (fun k => vO.j0.eq_2 ..) (evn (by simp) (evp (by simp) (evb (evc (fun _ => rfl) n1) (evp (by simp) (evb (evc (fun _ => rfl) n3) (evp (by simp) (evb (evc (fun _ => rfl) n5) hp))))))))))))))
  unfold numW
  cases h1 : numP 9 w1 with
  | none => rw [zCI h1] at go; exact ⟨_, go _ (evn (by simp) (Ev.now _)), rfl⟩
  | some x =>
    rw [zDW h1] at go
    cases h3 : numP 9 w3 with
    | none => rw [zCI h3] at go; exact ⟨_, go _ (evp rfl (evn (by simp) (Ev.now _))), rfl⟩
    | some y =>
      rw [zDW h3] at go
      cases h5 : numP 9 w5 with
      | none => rw [zCI h5] at go; exact ⟨_, go _ (evp rfl (evp rfl (Ev.now _))), rfl⟩
      | some z => rw [zDW h5] at go; exact ⟨_, go _ (evp rfl (evp rfl (Ev.now _))), rfl⟩
theorem zYI (l : List UInt8) (f : Bool) (hl : l.length ≤ 100000) : Ev (fun k => zL.rate k (ba l, f)) (if f = true then zCJ l else none) := by
  obtain ⟨p, p1, p2⟩ := rate_ev l hl
  refine evb p1 ?_
  cases f with
  | false => exact evn (by simp) (evr rfl)
  | true =>
    rw [if_pos rfl]
    cases hx : zCJ l with
    | none => rw [hx] at p2; exact evn (fun h => by rw [show p.2.2.2 = false from p2] at h; cases h.1) (Ev.now _)
    | some x =>
      rw [hx] at p2
      obtain rfl : p = (x.f0, x.f1, x.f2, true) := p2
      exact evp (by simp) (Ev.now _)
def hdw : List UInt8 := [114, 111, 117, 110, 100, 105, 110, 103]
def wrdL (n : Nat) : List UInt8 := if n = 1 then [100, 111, 119, 110] else if n = 2 then [117, 112] else if n = 3 then [104, 97, 108, 102, 45, 117, 112] else [104, 97, 108, 102, 45, 101, 118, 101, 110]
def hd (n : Nat) : List UInt8 := hdw ++ 32 :: wrdL n
def wIdx (w : List UInt8) : Option Int := if w = wrdL 1 then some 1 else if w = wrdL 2 then some 2 else if w = wrdL 3 then some 3 else if w = wrdL 4 then some 4 else none
def zWS : List (List UInt8) → Option Int
  | [w0, w1] => if w0 = hdw then wIdx w1 else none
  | _ => none
def zGL (l : List UInt8) : Option Int := zWS (parts 32 l)
theorem two {α : Type} {l : List α} (h : l.length = 2) : ∃ a b, l = [a, b] := by
  match l, h with
  | [a, b], _ => exact ⟨a, b, rfl⟩
theorem zLE {w : List (List UInt8)} (h : ¬ w.length = 2) : zWS w = none := by
  unfold zWS
  split
  · exact absurd rfl h
  · rfl
theorem wIdx_no {w : List UInt8} {R : Int} (h : wIdx w = some R) : (32 : UInt8) ∉ w ∧ (10 : UInt8) ∉ w := by
  unfold wIdx at h
  split at h
  · rename_i e; rw [e]; decide
  split at h
  · rename_i e; rw [e]; decide
  split at h
  · rename_i e; rw [e]; decide
  split at h
  · rename_i e; rw [e]; decide
  · cases h
theorem zNV {w : List UInt8} {R : Int} (h : wIdx w = some R) : 1 ≤ R ∧ R ≤ 4 ∧ w = wrdL R.toNat := by
  unfold wIdx at h
  split at h
  · obtain rfl := Option.some.inj h; exact ⟨by omega, by omega, by assumption⟩
  split at h
  · obtain rfl := Option.some.inj h; exact ⟨by omega, by omega, by assumption⟩
  split at h
  · obtain rfl := Option.some.inj h; exact ⟨by omega, by omega, by assumption⟩
  split at h
  · obtain rfl := Option.some.inj h; exact ⟨by omega, by omega, by assumption⟩
  · cases h
theorem zZT (r : List UInt8) : zGL (hdw ++ 32 :: r) = wIdx r := by
  unfold zGL
  rw [zYL 32 hdw r (by decide)]
  by_cases h : (32 : UInt8) ∈ r
  · have hn : wIdx r = none := by
      cases e : wIdx r with
      | none => rfl
      | some R => exact absurd h (wIdx_no e).1
    rw [hn]
    refine zLE (fun e => ?_)
    have e1 : (parts 32 r).length = 1 := by simpa using e
    rw [zIF] at e1
    have hc : (cut1 32 r).2.2 = true := by
      cases hc : (cut1 32 r).2.2 with
      | true => rfl
      | false =>
        have h1 := (zHQ 32 r hc).1
        have h2 := zWB 32 r
        rw [h1] at h2
        exact absurd h h2
    rw [if_pos hc] at e1
    have := zGH 32 (cut1 32 r).2.1
    simp at e1
    exact this e1
  · rw [zVN 32 r h]
    show (if hdw = hdw then wIdx r else none) = _
    rw [if_pos rfl]
theorem zWT {l : List UInt8} {R : Int} (h : zGL l = some R) : 1 ≤ R ∧ R ≤ 4 ∧ l = hd R.toNat := by
  unfold zGL at h
  by_cases h2 : (parts 32 l).length = 2
  case neg => rw [zLE h2] at h; cases h
  obtain ⟨a, b, e⟩ := two h2
  have hg := zNE 32 l
  rw [e] at h hg
  simp only [zWS] at h
  by_cases c : a = hdw
  · rw [if_pos c] at h
    obtain ⟨r1, r2, r3⟩ := zNV h
    refine ⟨r1, r2, ?_⟩
    rw [← hg, c, r3]
    rfl
  · rw [if_neg c] at h; cases h
theorem zKS (w : List UInt8) : Ev (fun k => wI.f k zL.zCF (ba w)) (if w = [] then 0 else match wIdx w with | none => -1 | some R => R) := by
  have hlen : (zL.zCF.length : Int) = 5 := rfl
  have r0 : (rdOf ByteArray.empty zL.zCF 0).toList = [] := yP []
  have r1 : (rdOf ByteArray.empty zL.zCF 1).toList = wrdL 1 := yP (wrdL 1)
  have r2 : (rdOf ByteArray.empty zL.zCF 2).toList = wrdL 2 := yP (wrdL 2)
  have r3 : (rdOf ByteArray.empty zL.zCF 3).toList = wrdL 3 := yP (wrdL 3)
  have r4 : (rdOf ByteArray.empty zL.zCF 4).toList = wrdL 4 := yP (wrdL 4)
  have w1 : wrap64 (0 + 1) = 1 := by unfold wrap64; omega
  have w2 : wrap64 (1 + 1) = 2 := by unfold wrap64; omega
  have w3 : wrap64 (2 + 1) = 3 := by unfold wrap64; omega
  have w4 : wrap64 (3 + 1) = 4 := by unfold wrap64; omega
  have w5 : wrap64 (4 + 1) = 5 := by unfold wrap64; omega
  show Ev (fun k => wI.l0 k zL.zCF (ba w) 5 0) _
  refine Ev.step (fun k => wI.l0.eq_2 ..) (evp (by omega) (evp (by omega) (evp (by omega) ?_)))
  rw [yP, r0, w1]
  by_cases c0 : w = []
  · rw [if_pos c0]; exact evp c0 (Ev.now _)
  rw [if_neg c0]
  refine evn c0 (Ev.step (fun k => wI.l0.eq_2 ..) (evp (by omega) (evp (by omega) (evp (by omega) ?_))))
  rw [yP, r1, w2]
  unfold wIdx
  by_cases c1 : w = wrdL 1
  · rw [if_pos c1]; exact evp c1 (Ev.now _)
  rw [if_neg c1]
  refine evn c1 (Ev.step (fun k => wI.l0.eq_2 ..) (evp (by omega) (evp (by omega) (evp (by omega) ?_))))
  rw [yP, r2, w3]
  by_cases c2 : w = wrdL 2
  · rw [if_pos c2]; exact evp c2 (Ev.now _)
  rw [if_neg c2]
  refine evn c2 (Ev.step (fun k => wI.l0.eq_2 ..) (evp (by omega) (evp (by omega) (evp (by omega) ?_))))
  rw [yP, r3, w4]
  by_cases c3 : w = wrdL 3
  · rw [if_pos c3]; exact evp c3 (Ev.now _)
  rw [if_neg c3]
  refine evn c3 (Ev.step (fun k => wI.l0.eq_2 ..) (evp (by omega) (evp (by omega) (evp (by omega) ?_))))
  rw [yP, r4, w5]
  by_cases c4 : w = wrdL 4
  · rw [if_pos c4]; exact evp c4 (Ev.now _)
  rw [if_neg c4]
  exact evn c4 (Ev.step (fun k => wI.l0.eq_2 ..) (evn (by omega) (Ev.now _)))
def pfx : List UInt8 := [114, 111, 117, 110, 100, 105, 110, 103, 32]
theorem zYK (l : List UInt8) : yT.f (ba l) ⟨#[114, 111, 117, 110, 100, 105, 110, 103, 32]⟩ = some (if l.take 9 = pfx then (ba (l.drop 9), true) else (ba l, false)) := by
  have hp : (⟨#[114, 111, 117, 110, 100, 105, 110, 103, 32]⟩ : ByteArray) = ba pfx := rfl
  have h9 : (ba pfx).size = 9 := rfl
  rw [hp]
  unfold yT.f jD.f stringslite_HasPrefix.f
  rw [h9]
  by_cases c : ((ba l).size : Int) ≥ ((9 : Nat) : Int)
  · rw [if_pos c, if_pos (by omega), if_pos (by omega)]
    have e1 : ((ba l).extract 0 ((9 : Nat) : Int).toNat).toList = l.take 9 := by
      rw [zXF, zCD, yP, List.drop_zero]; rfl
    have e2 : (ba l).extract ((9 : Nat) : Int).toNat (ba l).size = ba (l.drop 9) := by
      rw [zXF, zCD, uK, List.take_length]; rfl
    rw [e1, e2, yP]
    simp only [Option.bind_some]
    by_cases d : l.take 9 = pfx
    · rw [if_pos (beq_iff_eq.2 d), if_pos d, if_pos (by omega), if_pos (by omega)]; rfl
    · rw [if_neg (fun h => d (beq_iff_eq.1 h)), if_neg d]; rfl
  · rw [if_neg c]
    have hs : (ba l).size = l.length := rfl
    have d : ¬ l.take 9 = pfx := fun e => by
      have := congrArg List.length e
      rw [List.length_take] at this
      have h9' : pfx.length = 9 := rfl
      omega
    rw [if_neg d]
    rfl
theorem zXW (l : List UInt8) (f : Bool) : Ev (fun k => zL.word k (ba l, f)) (if f = true then zGL l else none) := by
  refine evb (evc (fun _ => rfl) (zYK l)) ?_
  by_cases d : l.take 9 = pfx
  · rw [if_pos d]
    have e : l = hdw ++ 32 :: l.drop 9 := by
      have h := List.take_append_drop 9 l
      rw [d] at h
      exact h.symm
    have eh : zGL l = wIdx (l.drop 9) := by
      have := zZT (l.drop 9)
      rwa [← e] at this
    rw [eh]
    refine evb (zKS (l.drop 9)) ?_
    by_cases c0 : l.drop 9 = []
    · rw [if_pos c0]
      have hn : wIdx (l.drop 9) = none := by rw [c0]; rfl
      rw [hn, ite_self]
      exact evn (fun h => by have := h.2.1; omega) (Ev.now _)
    rw [if_neg c0]
    cases hx : wIdx (l.drop 9) with
    | none => rw [ite_self]; exact evn (fun h => by have := h.2.1; simp at this) (Ev.now _)
    | some R =>
      have hr := zNV hx
      cases f with
      | false => exact evn (by simp) (evr rfl)
      | true => exact evp ⟨rfl, hr.1, rfl⟩ (evr rfl)
  · rw [if_neg d]
    have hn : zGL l = none := by
      cases hx : zGL l with
      | none => rfl
      | some R =>
        have e := (zWT hx).2.2
        exact absurd (by rw [e]; rfl) d
    rw [hn, ite_self]
    exact evb (zKS l) (evn (by simp) (Ev.now _))
def valR (R : Int) (x : List S26 × Option Nat) : Int × List S26 × Int × Int := match x.2 with
  | none => if OKT R x.1 then (R, x.1, -1, 0) else (0, [], -1, 1)
  | some i => (0, [], (i : Int) + 1, 3)
def zMY (ls : List (List UInt8)) (e : Bool) : Int × List S26 × Int × Int := match ls with
  | [] => (0, [], 0, 3)
  | l :: r => match zGL l with
    | none => (0, [], 0, 3)
    | some R => if r = [] ∧ e = false then (0, [], 0, 3) else valR R (run zCJ e r [])
theorem zVR {s : List UInt8} (h : s ≠ []) : lns (ba s) = (ba (cut1 10 s).1, (cut1 10 s).2.2) :: lns (ba (cut1 10 s).2.1) := by
  have hs : ¬ (ba s).size = 0 := fun e => h (List.eq_nil_of_length_eq_zero e)
  rw [zVS hs]; rfl
theorem fin_ev (R : Int) (o : List S26) : Ev (fun k => (vJ.f k R o).bind fun c => if c = true then some (R, o, (-1 : Int), (0 : Int)) else some (0, [], -1, 1)) (valR R (o, none)) := by
  have hb := zYF R o
  show Ev _ (if OKT R o then (R, o, -1, 0) else (0, [], -1, 1))
  by_cases ok : OKT R o
  · rw [if_pos ok]; exact evb (hb.1 ok) (evp rfl (Ev.now _))
  · rw [if_neg ok]; exact evb (hb.2 ok) (evn (by simp) (Ev.now _))
theorem zRJ (R : Int) (e : Bool) : ∀ (ls : List (List UInt8)) (s : List UInt8) (out : List S26), lin [] s = (ls, e) → s.length ≤ 5000 → out.length + ls.length ≤ 100000 →
    Ev (fun k => zL.go k (lns (ba s)) (out.length + 1) R out) (valR R (run zCJ e ls out)) := by
  intro ls
  induction ls with
  | nil =>
    intro s out h1 h2 h3
    obtain ⟨rfl, rfl⟩ := zFE h1
    have e0 : lns (ba ([] : List UInt8)) = [] := zRV rfl
    rw [e0]
    show Ev (fun k => if out.length + 1 = 0 then some (0, [], 0, 3) else (vJ.f k R out).bind fun c => if c = true then some (R, out, -1, 0) else some (0, [], -1, 1)) _
    exact evn (by omega) (fin_ev R out)
  | cons l r ih =>
    intro s out h1 h2 h3
    obtain ⟨e1, e2, hne, hll⟩ := zKB h1
    have hd := zYI (cut1 10 s).1 (cut1 10 s).2.2 (by rw [e1]; omega)
    rw [e1] at hd
    rw [zVR hne, e1]
    have step : ∀ y, Ev (fun k => match (if (cut1 10 s).2.2 = true then zCJ l else none) with
        | none => some (0, [], ((out.length + 1 : Nat) : Int), 3)
        | some g => zL.go k (lns (ba (cut1 10 s).2.1)) (out.length + 1 + 1) R (out ++ [g])) y → Ev (fun k => zL.go k ((ba l, (cut1 10 s).2.2) :: lns (ba (cut1 10 s).2.1)) (out.length + 1) R out) y := by
      intro y hy
      show Ev (fun k => if out.length + 1 < 4294967296 ∧ out.length < 4294967296 then (if out.length + 1 = 0 then (zL.word k (ba l, (cut1 10 s).2.2)).bind fun y => match y with
          | none => some (0, [], 0, 3)
          | some R' => zL.go k (lns (ba (cut1 10 s).2.1)) 1 R' out
        else (zL.rate k (ba l, (cut1 10 s).2.2)).bind fun y => match y with
          | none => some (0, [], ((out.length + 1 : Nat) : Int), 3)
          | some g => zL.go k (lns (ba (cut1 10 s).2.1)) (out.length + 1 + 1) R (out ++ [g])) else none) y
      exact evp (by simp at h3; omega) (evn (by omega) (evb hd hy))
    rw [zNW]
    cases hx : zCJ l with
    | none =>
      refine step _ ?_
      rw [hx, ite_self]
      exact evr (by simp [valR])
    | some x =>
      rw [hx] at step
      simp only []
      rcases e2 with ⟨c, hrest⟩ | ⟨c, _, rfl, rfl⟩
      · have hno : ¬ (r = [] ∧ e = false) := fun h => by
          have := (zFE (s := (cut1 10 s).2.1) (e := e) (by rw [hrest, h.1])).2
          rw [h.2] at this; cases this
        rw [if_neg hno]
        have hl2 := zEV 10 s c
        have q := ih (cut1 10 s).2.1 (out ++ [x]) hrest (by omega) (by rw [List.length_append]; simp at h3 ⊢; omega)
        rw [List.length_append] at q
        rw [if_pos c] at step
        exact step _ q
      · rw [if_pos ⟨rfl, rfl⟩]
        rw [if_neg (by simp [c])] at step
        exact step _ (evr (by simp [valR]))
theorem zQH (s : ByteArray) (hs : s.size ≤ 4096) : Ev (fun k => zL.f k s) (zMY (lin [] s.data.toList).1 (lin [] s.data.toList).2) := by
  have hz := size_data s
  refine evn (by omega) ?_
  have hba := zLQ s
  generalize s.data.toList = t at *
  rw [← hba]
  cases hlin : lin [] t with
  | mk ls e =>
    cases ls with
    | nil =>
      obtain ⟨rfl, rfl⟩ := zFE hlin
      have e0 : lns (ba ([] : List UInt8)) = [] := zRV rfl
      rw [e0]
      show Ev (fun k => if (0 : Nat) = 0 then some (0, [], 0, 3) else (vJ.f k 0 []).bind fun c => if c = true then some (0, [], -1, 0) else some (0, [], -1, 1)) _
      exact evp rfl (Ev.now _)
    | cons l r =>
      obtain ⟨e1, e2, hne, hll⟩ := zKB hlin
      have hlen := zKO t []
      rw [hlin] at hlen
      have hd := zXW (cut1 10 t).1 (cut1 10 t).2.2
      rw [e1] at hd
      rw [zVR hne, e1]
      have step : ∀ y, Ev (fun k => match (if (cut1 10 t).2.2 = true then zGL l else none) with
          | none => some (0, [], 0, 3)
          | some R' => zL.go k (lns (ba (cut1 10 t).2.1)) 1 R' []) y → Ev (fun k => zL.go k ((ba l, (cut1 10 t).2.2) :: lns (ba (cut1 10 t).2.1)) 0 0 []) y := by
        intro y hy
        show Ev (fun k => if 0 < 4294967296 ∧ ([] : List S26).length < 4294967296 then (if (0 : Nat) = 0 then (zL.word k (ba l, (cut1 10 t).2.2)).bind fun y => match y with
            | none => some (0, [], 0, 3)
            | some R' => zL.go k (lns (ba (cut1 10 t).2.1)) 1 R' []
          else (zL.rate k (ba l, (cut1 10 t).2.2)).bind fun y => match y with
            | none => some (0, [], ((0 : Nat) : Int), 3)
            | some g => zL.go k (lns (ba (cut1 10 t).2.1)) (0 + 1) 0 ([] ++ [g])) else none) y
        exact evp (by simp) (evp rfl (evb hd hy))
      show Ev _ (match zGL l with
        | none => (0, [], 0, 3)
        | some R => if r = [] ∧ e = false then (0, [], 0, 3) else valR R (run zCJ e r []))
      cases hx : zGL l with
      | none =>
        refine step _ ?_
        rw [hx, ite_self]
        exact Ev.now _
      | some R =>
        rw [hx] at step
        simp only []
        rcases e2 with ⟨c, hrest⟩ | ⟨c, _, rfl, rfl⟩
        · have hno : ¬ (r = [] ∧ e = false) := fun h => by
            have := (zFE (s := (cut1 10 t).2.1) (e := e) (by rw [hrest, h.1])).2
            rw [h.2] at this; cases this
          rw [if_neg hno]
          have hl2 := zEV 10 t c
          rw [if_pos c] at step
          exact step _ (zRJ R e r (cut1 10 t).2.1 [] hrest (by omega) (by simp at hlen ⊢; omega))
        · rw [if_pos ⟨rfl, rfl⟩]
          rw [if_neg (by simp [c])] at step
          exact step _ (Ev.now _)
end Go.Proofs.YtholbmidciapdaaGreatDoor.PL
namespace Go.Proofs.YtholbmidciapdaaGreatDoor.PL
open Go Go.RowKit Go.Proofs.YtholbmidciapdaaGreatDoorW.PrintWords Go.Proofs.YtholbmidciapdaaGreatDoorW.PrintLast Go.Proofs.YtholbmidciapdaaGreatDoorW.PrintMore Go.Proofs.YtholbmidciapdaaGreatDoor.Pr Go.Proofs.YtholbmidciapdaaGreatDoor.TX Go.Proofs.YtholbmidciapdaaGreatDoor.X
theorem zNI (c : UInt8) : ∀ (p s : List UInt8), c ∉ p → cut1 c (p ++ s) = (p ++ (cut1 c s).1, (cut1 c s).2.1, (cut1 c s).2.2)
  | [], s, _ => rfl
  | b :: p, s, h => by
    have h1 : ¬ b = c := fun e => h (by simp [e])
    have ih := zNI c p s (fun e => h (by simp [e]))
    show cut1 c (b :: (p ++ s)) = _
    rw [zAN, if_neg h1, ih]
    rfl
theorem wBQ (s : List UInt8) (hs : s.length ≤ 100000) : Ev (fun k => vV.f k (ba s)) (ba (cut1 10 s).1, ba (cut1 10 s).2.1, (cut1 10 s).2.2) := by
  have hsz : (ba s).size = s.length := rfl
  have key : ∀ i, 0 ≤ i → i ≤ (s.length : Int) → (10 : UInt8) ∉ s.take i.toNat → Ev (fun k => vV.l0 k (ba s) i) (ba (cut1 10 s).1, ba (cut1 10 s).2.1, (cut1 10 s).2.2) := by
    refine zEW 0 (s.length : Int) (fun i => (10 : UInt8) ∉ s.take i.toNat → Ev (fun k => vV.l0 k (ba s) i) (ba (cut1 10 s).1, ba (cut1 10 s).2.1, (cut1 10 s).2.2)) ?_ ?_
    · intro hno
      rw [show ((s.length : Int)).toNat = s.length from by omega, List.take_length] at hno
      have e := zNI 10 s [] hno
      rw [List.append_nil] at e
      rw [e]
      exact Ev.step (fun k => vV.l0.eq_2 ..) (evn (by omega) (evr (by simp [cut1]; rfl)))
    · intro i h0 h1 ih hno
      obtain ⟨c, e1, e2, e3⟩ := byte_at (ba s) h0 (by rw [uK]; exact h1)
      rw [zCD] at e1 e2
      have hw : wrap64 (i + 1) = i + 1 := w64 (by omega) (by omega)
      by_cases d : c = 10
      · subst d
        have es : s = s.take i.toNat ++ 10 :: s.drop (i + 1).toNat := by rw [← e1, List.take_append_drop]
        have ec : cut1 10 s = (s.take i.toNat, s.drop (i + 1).toNat, true) := by
          have := zJL 10 (s.take i.toNat) (s.drop (i + 1).toNat) hno
          rwa [← es] at this
        have x1 : (ba s).extract 0 i.toNat = ba (s.take i.toNat) := by rw [zXF, zCD, List.drop_zero]
        have x2 : (ba s).extract (i + 1).toNat (ba s).size = ba (s.drop (i + 1).toNat) := by rw [zXF, zCD, hsz, List.take_length]
        rw [ec]
        refine Ev.step (fun k => vV.l0.eq_2 ..) (evp (by omega) (evp h0 ?_))
        rw [e3, hw, x1, x2]
        exact evp rfl (evp (by omega) (evp (by omega) (evp (by omega) (Ev.now _))))
      · refine Ev.step (fun k => vV.l0.eq_2 ..) (evp (by omega) (evp h0 ?_))
        rw [e3, hw]
        refine evn (fun h => d ((toNat_eq c 10 (by decide)).1 h)) (ih ?_)
        rw [e2, List.mem_append, not_or]
        exact ⟨hno, by simp; exact fun e => d e.symm⟩
  exact key 0 (by omega) (by omega) (by simp)
theorem zWE (s : ByteArray) (hs : (s.size : Int) ≤ 4611686018427) : Ev (fun k => vC.f k s) ((parts 32 s.data.toList).map ba) := by
  have key : ∀ i, 0 ≤ i → i ≤ (s.size : Int) → ∀ (out : List ByteArray) (fr : Int), 0 ≤ fr → fr ≤ i → (out.length : Int) ≤ i →
      Ev (fun k => vC.l0 k s out fr i) (out ++ (wrd 32 ((s.data.toList.take i.toNat).drop fr.toNat) (s.data.toList.drop i.toNat)).map ba) := by
    refine zEW 0 (s.size : Int) _ ?_ ?_
    · intro out fr h0 h1 h2
      rw [zWA]
      refine Ev.step (fun k => vC.l0.eq_2 ..) (evp (by omega) (evp rfl (evp h0 (evp h1 (evp (by omega) (Ev.step (fun k => vC.l0.eq_2 ..) (evn ?_ (evr ?_))))))))
      · rw [w64 (by omega) (by omega)]; omega
      · rw [zXF]; rfl
    · intro i h0 h1 ih out fr g0 g1 g2
      obtain ⟨b, e1, e2, e3⟩ := byte_at s h0 h1
      have hw : wrap64 (i + 1) = i + 1 := w64 (by omega) (by omega)
      have hlen : fr.toNat ≤ (s.data.toList.take i.toNat).length := by rw [List.length_take, size_data]; omega
      refine Ev.step (fun k => vC.l0.eq_2 ..) (evp (by omega) (evn (by omega) (evp h0 (evp h1 ?_))))
      rw [e1, zVL, hw, e3]
      by_cases c : b = 32
      · have q := ih (out ++ [s.extract fr.toNat i.toNat]) (i + 1) (by omega) (by omega) (by rw [List.length_append]; simp; omega)
        have z : (s.data.toList.take (i + 1).toNat).drop (i + 1).toNat = [] := List.drop_eq_nil_of_le (by rw [List.length_take]; omega)
        rw [z, List.append_assoc] at q
        rw [if_pos c]
        refine evp ((toNat_eq b 32 (by decide)).2 c) (evp g0 (evp g1 (evp (by omega) ?_)))
        rw [zXF] at q ⊢
        exact q
      · have q := ih out fr g0 (by omega) (by omega)
        rw [e2, List.drop_append_of_le_length hlen] at q
        rw [if_neg c]
        exact evn (fun h => c ((toNat_eq b 32 (by decide)).1 h)) q
  have := key 0 (by omega) (by omega) [] 0 (by omega) (by omega) (by simp)
  rw [show (0 : Int).toNat = 0 from rfl, List.take_zero, List.drop_zero, List.drop_zero, zXU, List.nil_append] at this
  exact this
theorem zXX {i : Nat} (h1 : 1 ≤ i) (h4 : i ≤ 4) : qK.f (i : Int) = some (ba (wrdL i)) := by
  have : i = 1 ∨ i = 2 ∨ i = 3 ∨ i = 4 := by omega
  rcases this with rfl | rfl | rfl | rfl <;> rfl
theorem zOC {rest : ByteArray} {n R : Int} {a b : List UInt8} {f : Bool} {acc : List S26} {y : Int × List S26 × Int × Int} (i : Nat) (h1 : 1 ≤ i) (h4 : i ≤ 4)
    (h : Ev (fun k => zD.l1 k rest n ([a, b].map ba) f ((i : Int) + 1) (if b = wrdL i then (i : Int) else R) acc) y) : Ev (fun k => zD.l1 k rest n ([a, b].map ba) f (i : Int) R acc) y := by
  have hw : wrap64 ((i : Int) + 1) = (i : Int) + 1 := w64 (by omega) (by omega)
  have e1 : (rdOf ByteArray.empty ([a, b].map ba) 1).toList = b := yP b
  refine Ev.step (fun k => zD.l1.eq_2 ..) (evp (by omega) (evp rfl (evp (by simp) (evb (evc (fun _ => rfl) (zXX h1 h4)) ?_))))
  rw [e1, yP, hw]
  by_cases c : b = wrdL i
  · rw [if_pos c] at h; exact evp c h
  · rw [if_neg c] at h; exact evn c h
theorem zKC {rest : ByteArray} {n R : Int} {w : List ByteArray} {f : Bool} {acc : List S26} {y : Int × List S26 × Int × Int} (hw2 : ¬ (w.length : Int) = 2) (i : Nat) (h4 : i ≤ 4)
    (h : Ev (fun k => zD.l1 k rest n w f ((i : Int) + 1) R acc) y) : Ev (fun k => zD.l1 k rest n w f (i : Int) R acc) y := by
  have hw : wrap64 ((i : Int) + 1) = (i : Int) + 1 := w64 (by omega) (by omega)
  refine Ev.step (fun k => zD.l1.eq_2 ..) (evp (by omega) (evn hw2 ?_))
  rw [hw]
  exact h
theorem zYW (b : List UInt8) : (if b = wrdL 4 then ((4 : Nat) : Int) else if b = wrdL 3 then ((3 : Nat) : Int) else if b = wrdL 2 then ((2 : Nat) : Int) else if b = wrdL 1 then ((1 : Nat) : Int) else 0) = match wIdx b with | none => 0 | some R => R := by
  unfold wIdx
  by_cases c1 : b = wrdL 1
  · subst c1; rfl
  by_cases c2 : b = wrdL 2
  · subst c2; rfl
  by_cases c3 : b = wrdL 3
  · subst c3; rfl
  by_cases c4 : b = wrdL 4
  · subst c4; rfl
  rw [if_neg c4, if_neg c3, if_neg c2, if_neg c1, if_neg c1, if_neg c2, if_neg c3, if_neg c4]
theorem zJD {rest : ByteArray} {n R : Int} {acc : List S26} {y : Int × List S26 × Int × Int} (h : Ev (fun _ => some (0, [], n, 3)) y) : Ev (fun k => zD.j3 k rest n false R acc) y := Ev.step (fun k => zD.j3.eq_2 ..) (evn (by simp) h)
theorem j3_yes {rest : ByteArray} {n R : Int} {acc : List S26} {y : Int × List S26 × Int × Int} (hn : wrap64 (n + 1) = n + 1) (h : Ev (fun k => zD.l0 k rest (n + 1) R acc) y) : Ev (fun k => zD.j3 k rest n true R acc) y := Ev.step (fun k => zD.j3.eq_2 ..) (evp rfl (by rw [hn]; exact h))
theorem head_ref (rest : ByteArray) (P : List (List UInt8)) (f : Bool) (y : Int × List S26 × Int × Int)
    (h : Ev (fun k => match (if f = true then zWS P else none) with
      | none => some (0, [], 0, 3)
      | some R => zD.l0 k rest 1 R []) y) : Ev (fun k => zD.l1 k rest 0 (P.map ba) f 1 0 []) y := by
  have w01 : wrap64 (0 + 1) = 0 + 1 := by unfold wrap64; omega
  by_cases h2 : P.length = 2
  case neg =>
    have hm : ¬ ((P.map ba).length : Int) = 2 := by rw [List.length_map]; omega
    rw [zLE h2, ite_self] at h
    refine zKC hm 1 (by omega) (zKC hm 2 (by omega) (zKC hm 3 (by omega) (zKC hm 4 (by omega) (Ev.step (fun k => zD.l1.eq_2 ..) (evn (by omega) ?_)))))
    by_cases c : f = true
    · exact evp c (evn hm (zJD h))
    · exact evn c (zJD h)
  obtain ⟨a, b, rfl⟩ := two h2
  have e0 : (rdOf ByteArray.empty ([a, b].map ba) 0).toList = a := yP a
  refine zOC 1 (by omega) (by omega) (zOC 2 (by omega) (by omega) (zOC 3 (by omega) (by omega) (zOC 4 (by omega) (by omega) ?_)))
  rw [zYW b]
  refine Ev.step (fun k => zD.l1.eq_2 ..) (evn (by omega) ?_)
  rw [e0]
  cases f with
  | false => exact evn (by simp) (zJD h)
  | true =>
    rw [if_pos rfl] at h
    refine evp rfl (evp rfl (evp (by simp) ?_))
    simp only [zWS] at h
    by_cases c : a = hdw
    · rw [if_pos c] at h
      refine evp c ?_
      cases hx : wIdx b with
      | none => rw [hx] at h; exact zJD h
      | some R =>
        rw [hx] at h
        have := zNV hx
        show Ev (fun k => zD.j3 k rest 0 (decide (R > 0)) R []) y
        rw [decide_eq_true (show R > 0 by omega)]
        exact j3_yes w01 h
    · rw [if_neg c] at h
      exact evn c (zJD h)
theorem ref_step (s : List UInt8) (hs : s ≠ []) (hl : s.length ≤ 5000) (R : Int) (out : List S26) (ho : out.length ≤ 100000) (y : Int × List S26 × Int × Int)
    (h : Ev (fun k => match (if (cut1 10 s).2.2 = true then zCJ (cut1 10 s).1 else none) with
      | none => some (0, [], (out.length : Int) + 1, 3)
      | some g => zD.l0 k (ba (cut1 10 s).2.1) ((out.length : Int) + 1 + 1) R (out ++ [g])) y) : Ev (fun k => zD.l0 k (ba s) ((out.length : Int) + 1) R out) y := by
  have hsz : (ba s).size = s.length := rfl
  have hpos : ((ba s).size : Int) > 0 := by
    cases s with
    | nil => exact absurd rfl hs
    | cons x r => rw [uK]; simp
  have hlen : (cut1 10 s).1.length ≤ 5000 := by
    cases hc : (cut1 10 s).2.2 with
    | true =>
      have := congrArg List.length (zKD 10 s hc)
      simp at this
      omega
    | false => rw [(zHQ 10 s hc).1]; exact hl
  have hw : wrap64 ((out.length : Int) + 1 + 1) = (out.length : Int) + 1 + 1 := w64 (by omega) (by omega)
  have hW := zWE (ba (cut1 10 s).1) (by rw [uK]; omega)
  rw [zCD] at hW
  refine Ev.step (fun k => zD.l0.eq_2 ..) (evn (by omega) ?_)
  rw [decide_eq_true hpos]
  refine Ev.step (fun k => zD.j1.eq_2 ..) (evp rfl (evb (wBQ s (by omega)) (evb hW (evn (by omega) ?_))))
  unfold zCJ at h
  by_cases h6 : (parts 32 (cut1 10 s).1).length = 6
  case neg =>
    rw [zQM h6, ite_self] at h
    exact evn (by rw [List.length_map]; omega) (zJD h)
  obtain ⟨w0, w1, w2, w3, w4, w5, hP⟩ := six h6
  rw [hP] at h ⊢
  have e0 : (rdOf ByteArray.empty ([w0, w1, w2, w3, w4, w5].map ba) 0).toList = w0 := yP w0
  have e2 : (rdOf ByteArray.empty ([w0, w1, w2, w3, w4, w5].map ba) 2).toList = w2 := yP w2
  have e4 : (rdOf ByteArray.empty ([w0, w1, w2, w3, w4, w5].map ba) 4).toList = w4 := yP w4
  have n1 : Ev (fun k => zJ.f k (rdOf ByteArray.empty ([w0, w1, w2, w3, w4, w5].map ba) 1)) (numR 9 w1) := zRQ w1
  have n3 : Ev (fun k => zJ.f k (rdOf ByteArray.empty ([w0, w1, w2, w3, w4, w5].map ba) 3)) (numR 9 w3) := zRQ w3
  have n5 : Ev (fun k => zJ.f k (rdOf ByteArray.empty ([w0, w1, w2, w3, w4, w5].map ba) 5)) (numR 9 w5) := zRQ w5
  refine evp rfl (evp (by simp) (evb n1 (evp (by simp) (evb n3 (evp (by simp) (evb n5 ?_))))))
  rw [e0, e2, e4]
  have hob : out.length < 5864062014805 := by omega
  simp only [lineW] at h
  by_cases cf : (cut1 10 s).2.2 = true
  case neg => rw [if_neg cf] at h; exact evn cf (evp hob (zJD h))
  rw [if_pos cf] at h
  refine evp cf ?_
  have bad : ((if w0 = cls ∧ w2 = frm ∧ w4 = atw then numW w1 w3 w5 else none) = none) → Ev (fun k => some (0, [], (out.length : Int) + 1, 3)) y := fun e => by rw [e] at h; exact h
  have nw : ∀ w, numP 9 w = none → numR 9 w = (0, false) := fun w hw => zCI hw
  cases h1 : numP 9 w1 with
  | none =>
    rw [zCI h1]
    exact evn (by simp) (evp hob (zJD (bad (by unfold numW; rw [h1]; exact ite_self _))))
  | some x =>
    rw [zDW h1]
    cases h3 : numP 9 w3 with
    | none =>
      rw [zCI h3]
      exact evp rfl (evn (by simp) (evp hob (zJD (bad (by unfold numW; rw [h1, h3]; exact ite_self _)))))
    | some z =>
      rw [zDW h3]
      cases h5 : numP 9 w5 with
      | none =>
        rw [zCI h5]
        exact evp rfl (evp rfl (evn (by simp) (evp hob (zJD (bad (by unfold numW; rw [h1, h3, h5]; exact ite_self _))))))
      | some v =>
        rw [zDW h5]
        refine evp rfl (evp rfl (evp rfl (evp (by simp) ?_)))
        by_cases c0 : w0 = cls
        case neg => exact evn c0 (evp hob (zJD (bad (if_neg (fun q => c0 q.1)))))
        refine evp c0 (evp (by simp) ?_)
        by_cases c2 : w2 = frm
        case neg => exact evn c2 (evp hob (zJD (bad (if_neg (fun q => c2 q.2.1)))))
        refine evp c2 (evp (by simp) (evp hob ?_))
        by_cases c4 : w4 = atw
        case neg =>
          rw [show (w4 == ([97, 116] : List UInt8)) = false from beq_eq_false_iff_ne.2 c4]
          exact zJD (bad (if_neg (fun q => c4 q.2.2)))
        rw [if_pos ⟨c0, c2, c4⟩] at h
        unfold numW at h
        rw [h1, h3, h5] at h
        rw [show (w4 == ([97, 116] : List UInt8)) = true from beq_iff_eq.2 c4]
        exact j3_yes hw h
theorem Fin_ev (R : Int) (o : List S26) : Ev (fun k => (qE.f k R o).bind fun t465 => (if t465 = true then (some (R, o, (-1 : Int), (0 : Int))) else (some (0, ([] : List S26), (-1), 1)))) (valR R (o, none)) := by
  have hb := wBB R o
  show Ev _ (if OKT R o then (R, o, -1, 0) else (0, [], -1, 1))
  by_cases ok : OKT R o
  · rw [if_pos ok]; exact evb (hb.1 ok) (evp rfl (Ev.now _))
  · rw [if_neg ok]; exact evb (hb.2 ok) (evn (by simp) (Ev.now _))
theorem ref_rows (R : Int) (e : Bool) : ∀ (ls : List (List UInt8)) (s : List UInt8) (out : List S26), lin [] s = (ls, e) → s.length ≤ 5000 → out.length + ls.length ≤ 100000 →
    Ev (fun k => zD.l0 k (ba s) ((out.length : Int) + 1) R out) (valR R (run zCJ e ls out)) := by
  intro ls
  induction ls with
  | nil =>
    intro s out h1 h2 h3
    obtain ⟨rfl, rfl⟩ := zFE h1
    refine Ev.step (fun k => zD.l0.eq_2 ..) (evn (by omega) ?_)
    rw [decide_eq_false (show ¬ ((ba ([] : List UInt8)).size : Int) > 0 by rw [uK]; simp)]
    exact Ev.step (fun k => zD.j1.eq_2 ..) (evn (by simp) (Fin_ev R out))
  | cons l r ih =>
    intro s out h1 h2 h3
    obtain ⟨e1, e2, hne, hll⟩ := zKB h1
    refine ref_step s hne h2 R out (by simp at h3; omega) _ ?_
    rw [e1, zNW]
    cases hx : zCJ l with
    | none =>
      rw [ite_self]
      exact evr (by simp [valR])
    | some x =>
      simp only []
      rcases e2 with ⟨c, hrest⟩ | ⟨c, _, rfl, rfl⟩
      · have hno : ¬ (r = [] ∧ e = false) := fun h => by
          have := (zFE (s := (cut1 10 s).2.1) (e := e) (by rw [hrest, h.1])).2
          rw [h.2] at this; cases this
        rw [if_neg hno, if_pos c]
        have hl2 := zEV 10 s c
        have q := ih (cut1 10 s).2.1 (out ++ [x]) hrest (by omega) (by rw [List.length_append]; simp at h3 ⊢; omega)
        rw [show (((out ++ [x]).length : Nat) : Int) = (out.length : Int) + 1 from by simp] at q
        exact q
      · rw [if_neg (show ¬ (cut1 10 s).2.2 = true by simp [c]), if_pos ⟨rfl, rfl⟩]
        exact evr (by simp [valR])
theorem zYG (s : ByteArray) (hs : s.size ≤ 4096) : Ev (fun k => zD.f k s) (zMY (lin [] s.data.toList).1 (lin [] s.data.toList).2) := by
  have hz := size_data s
  refine evn (by omega) ?_
  have hba := zLQ s
  generalize s.data.toList = t at *
  rw [← hba]
  have hlen1 : (cut1 10 t).1.length ≤ 5000 := by
    cases hc : (cut1 10 t).2.2 with
    | true =>
      have := congrArg List.length (zKD 10 t hc)
      simp at this
      omega
    | false => rw [(zHQ 10 t hc).1]; omega
  have hW := zWE (ba (cut1 10 t).1) (by rw [uK]; omega)
  rw [zCD] at hW
  have pre : ∀ y, Ev (fun k => match (if (cut1 10 t).2.2 = true then zGL (cut1 10 t).1 else none) with
      | none => some (0, [], 0, 3)
      | some R => zD.l0 k (ba (cut1 10 t).2.1) 1 R []) y → Ev (fun k => zD.l0 k (ba t) 0 0 []) y := fun y hy =>
    Ev.step (fun k => zD.l0.eq_2 ..) (evp rfl (Ev.step (fun k => zD.j1.eq_2 ..) (evp rfl (evb (wBQ t (by omega)) (evb hW (evp rfl (head_ref _ _ _ y hy)))))))
  refine pre _ ?_
  cases hlin : lin [] t with
  | mk ls e =>
    cases ls with
    | nil =>
      obtain ⟨rfl, rfl⟩ := zFE hlin
      exact evr rfl
    | cons l r =>
      obtain ⟨e1, e2, hne, hll⟩ := zKB hlin
      have hlen := zKO t []
      rw [hlin] at hlen
      rw [e1]
      show Ev _ (match zGL l with
        | none => (0, [], 0, 3)
        | some R => if r = [] ∧ e = false then (0, [], 0, 3) else valR R (run zCJ e r []))
      cases hx : zGL l with
      | none => rw [ite_self]; exact Ev.now _
      | some R =>
        simp only []
        rcases e2 with ⟨c, hrest⟩ | ⟨c, _, rfl, rfl⟩
        · have hno : ¬ (r = [] ∧ e = false) := fun h => by
            have := (zFE (s := (cut1 10 t).2.1) (e := e) (by rw [hrest, h.1])).2
            rw [h.2] at this; cases this
          rw [if_neg hno, if_pos c]
          have hl2 := zEV 10 t c
          exact ref_rows R e r (cut1 10 t).2.1 [] hrest (by omega) (by simp at hlen ⊢; omega)
        · rw [if_neg (show ¬ (cut1 10 t).2.2 = true by simp [c]), if_pos ⟨rfl, rfl⟩]
          exact Ev.now _
end Go.Proofs.YtholbmidciapdaaGreatDoor.PL
namespace Go.Proofs.YtholbmidciapdaaGreatDoor.PL
open Go Go.RowKit Go.Proofs.YtholbmidciapdaaGreatDoorW.PrintWords Go.Proofs.YtholbmidciapdaaGreatDoorW.PrintLast Go.Proofs.YtholbmidciapdaaGreatDoorW.PrintMore Go.Proofs.YtholbmidciapdaaGreatDoor.Pr Go.Proofs.YtholbmidciapdaaGreatDoor.TX Go.Proofs.YtholbmidciapdaaGreatDoor.X
def zIG (x : S26) : List UInt8 := cls ++ 32 :: (Lib.itoa x.f0 ++ 32 :: (frm ++ 32 :: (Lib.itoa x.f1 ++ 32 :: (atw ++ 32 :: Lib.itoa x.f2))))
def textT (R : Int) (l : List S26) : List UInt8 := hd R.toNat ++ 10 :: zIE zIG l
theorem zNX {x : S26} (h : Rng x) : (Lib.itoa x.f0).length ≤ 1 ∧ (Lib.itoa x.f1).length ≤ 6 ∧ (Lib.itoa x.f2).length ≤ 7 := by
  obtain ⟨⟨a, b⟩, ⟨c, d⟩, e, f⟩ := h
  exact ⟨zSE (n := x.f0) (m := 1) (by omega) (by omega) (by omega), zSE (n := x.f1) (m := 6) (by omega) (by omega) (by omega), zSE (n := x.f2) (m := 7) (by omega) (by omega) (by omega)⟩
theorem zQN {x : S26} (h : Rng x) : (zIG x).length ≤ 30 := by
  have := zNX h
  have c1 : cls.length = 5 := rfl
  have c2 : frm.length = 4 := rfl
  have c3 : atw.length = 2 := rfl
  simp only [zIG, List.length_append, List.length_cons]
  omega
theorem part_eq {x : S26} (h : Rng x) : vI.part x = some (ba (zIG x ++ [10])) := by
  have hl := zNX h
  obtain ⟨⟨a, b⟩, ⟨c, d⟩, e, f⟩ := h
  have e1 : (⟨#[99, 108, 97, 115, 115, 32]⟩ : ByteArray) = ba (cls ++ [32]) := rfl
  have e2 : (⟨#[32, 102, 114, 111, 109, 32]⟩ : ByteArray) = ba (32 :: (frm ++ [32])) := rfl
  have e3 : (⟨#[32, 97, 116, 32]⟩ : ByteArray) = ba (32 :: (atw ++ [32])) := rfl
  have e4 : (⟨#[10]⟩ : ByteArray) = ba [10] := rfl
  unfold vI.part
  rw [zYX (by omega) (by omega), zYX (by omega) (by omega), zYX (by omega) (by omega), e1, e2, e3, e4]
  simp only [Option.bind_some]
  rw [if_pos (by simp only [uK]; omega)]
  simp only [zNM]
  simp [zIG]
theorem app_eq (acc s : List UInt8) (h : acc.length + s.length ≤ 140737488355328) : vI.app acc (ba s) = some (acc ++ s) := by
  unfold vI.app
  rw [uK, if_pos h]
  rfl
theorem zWI (l : List S26) (hn : (l.length : Int) ≤ 65) (h : ∀ x, x ∈ l → Rng x) : ∀ i, 0 ≤ i → i ≤ (l.length : Int) → ∀ acc : List UInt8, (acc.length : Int) ≤ 50 + 31 * i →
    Ev (fun k => vI.l0 k l acc i) (ba (acc ++ zIE zIG (l.drop i.toNat)), 0) := by
  refine zEW 0 (l.length : Int) _ ?_ ?_
  · intro acc ha
    rw [List.drop_eq_nil_of_le (by omega)]
    exact Ev.step (fun k => vI.l0.eq_2 ..) (evn (by omega) (evr (by simp [zIE, ba])))
  · intro i h0 h1 ih acc ha
    have hx := h _ (zNY h0 h1)
    have hl := zQN hx
    have q := ih (acc ++ (zIG (zH l i) ++ [10])) (by simp only [List.length_append, List.length_cons, List.length_nil]; omega)
    rw [drop26 h0 h1]
    refine Ev.step (fun k => vI.l0.eq_2 ..) (evp h1 (evp h0 ?_))
    rw [part_eq hx, zJY h0 h1 (by omega)]
    simp only [Option.bind_some]
    rw [app_eq _ _ (by simp only [List.length_append, List.length_cons, List.length_nil]; omega)]
    simp only [Option.bind_some]
    simp only [zIE, List.append_assoc, List.cons_append, List.nil_append] at q ⊢
    exact q
theorem zPS {d : Int} (h0 : 0 ≤ d) (h1 : d < 10) : strOfNums (([(wrap64 (48 + d)) % 256] : List Int)) = ba [UInt8.ofNat (48 + d.toNat)] := by
  rw [w64 (by omega) (by omega)]
  show (⟨#[UInt8.ofNat ((48 + d) % 256).toNat]⟩ : ByteArray) = ⟨#[UInt8.ofNat (48 + d.toNat)]⟩
  rw [show ((48 + d) % 256).toNat = 48 + d.toNat from by omega]
theorem wBD : ∀ (m : Nat) (n : Int), 0 ≤ n → n ≤ 9223372036854775807 → n.toNat ≤ m → Ev (fun k => wP.f k n) (ba (Lib.itoa n)) := by
  intro m
  induction m with
  | zero =>
    intro n h0 h1 hm
    obtain rfl : n = 0 := by omega
    refine Ev.step (fun k => wP.f.eq_2 ..) (evp (by omega) (evr ?_))
    rw [zPS (d := 0) (by omega) (by omega), zGJ (by omega), zAC (by decide)]
  | succ m ih =>
    intro n h0 h1 hm
    by_cases c : n < 10
    · refine Ev.step (fun k => wP.f.eq_2 ..) (evp c (evr ?_))
      rw [zPS h0 c, zGJ h0, zAC (by omega)]
    · have e1 : Int.tdiv n 10 = n / 10 := Int.tdiv_eq_ediv_of_nonneg h0
      have e2 : Int.tmod n 10 = n % 10 := Int.tmod_eq_emod_of_nonneg h0
      have q := ih (n / 10) (by omega) (by omega) (by omega)
      have g0 : 0 ≤ n % 10 := by omega
      have g1 : n % 10 < 10 := by omega
      refine Ev.step (fun k => wP.f.eq_2 ..) (evn c ?_)
      rw [e1, e2, w64 (x := n / 10) (by omega) (by omega)]
      have hl : (Lib.itoa (n / 10)).length ≤ 19 := by
        rw [zGJ (by omega)]
        exact zFA (by omega) (by decide)
      refine evb q (evb (Ev.now _) ?_)
      rw [zPS g0 g1, zNM]
      refine evp (by rw [uK, uK]; simp; omega) (evr ?_)
      rw [zGJ (n := n / 10) (by omega), zGJ (n := n) h0, zDY (u := n.toNat) (by omega)]
      rw [show (n / 10).toNat = n.toNat / 10 from by omega, show (n % 10).toNat = n.toNat % 10 from by omega]
theorem zYQ {n : Int} (h0 : 0 ≤ n) (h1 : n ≤ 9223372036854775807) : Ev (fun k => wP.f k n) (ba (Lib.itoa n)) := wBD n.toNat n h0 h1 (by omega)
theorem zMG (R : Int) (l : List S26) (hn : (l.length : Int) ≤ 65) (h : ∀ x, x ∈ l → Rng x) : ∀ i, 0 ≤ i → i ≤ (l.length : Int) → ∀ acc : List UInt8, (acc.length : Int) ≤ 50 + 31 * i →
    Ev (fun k => wN.l0 k (ba acc) i R l) (ba (acc ++ zIE zIG (l.drop i.toNat)), 0) := by
  refine zEW 0 (l.length : Int) _ ?_ ?_
  · intro acc ha
    rw [List.drop_eq_nil_of_le (by omega)]
    exact Ev.step (fun k => wN.l0.eq_2 ..) (evn (by omega) (evr (by simp [zIE])))
  · intro i h0 h1 ih acc ha
    have hx := h _ (zNY h0 h1)
    have hl := zQN hx
    have hd3 := zNX hx
    obtain ⟨⟨a, b⟩, ⟨c, d⟩, e, f⟩ := hx
    have q := ih (acc ++ (zIG (zH l i) ++ [10])) (by simp only [List.length_append, List.length_cons, List.length_nil]; omega)
    rw [drop26 h0 h1]
    have e1 : (⟨#[99, 108, 97, 115, 115, 32]⟩ : ByteArray) = ba (cls ++ [32]) := rfl
    have e2 : (⟨#[32, 102, 114, 111, 109, 32]⟩ : ByteArray) = ba (32 :: (frm ++ [32])) := rfl
    have e3 : (⟨#[32, 97, 116, 32]⟩ : ByteArray) = ba (32 :: (atw ++ [32])) := rfl
    have e4 : (⟨#[10]⟩ : ByteArray) = ba [10] := rfl
    have c1 : cls.length = 5 := rfl
    have c2 : frm.length = 4 := rfl
    have c3 : atw.length = 2 := rfl
    refine Ev.step (fun k => wN.l0.eq_2 ..) (evp h1 (evp h0 (evb (zYQ (by omega) (by omega)) ?_)))
    rw [e1, e2, e3, e4, zJY h0 h1 (by omega)]
    simp only [zNM]
    refine evp (by rw [uK]; omega) (evp (by simp only [uK, List.length_append, List.length_cons, List.length_nil]; omega) (evb (zYQ (by omega) (by omega)) ?_))
    simp only [zNM]
    refine evp (by simp only [uK, List.length_append, List.length_cons, List.length_nil]; omega) (evp (by simp only [uK, List.length_append, List.length_cons, List.length_nil]; omega) (evb (zYQ (by omega) (by omega)) ?_))
    simp only [zNM]
    refine evp (by simp only [uK, List.length_append, List.length_cons, List.length_nil]; omega) (evp (by simp only [uK, List.length_append, List.length_cons, List.length_nil]; omega) (evp (by simp only [uK, List.length_append, List.length_cons, List.length_nil]; omega) ?_))
    simp only [zIE, zIG, List.append_assoc, List.cons_append, List.nil_append] at q ⊢
    exact q
theorem hd_len (n : Nat) : (hd n).length ≤ 18 := by
  have e : (hd n).length = 9 + (wrdL n).length := by simp [hd, hdw]; omega
  rw [e]
  unfold wrdL
  split
  · simp
  · split
    · simp
    · split
      · simp
      · simp
theorem zWJ (R : Int) (l : List S26) (hl : (l.length : Int) ≤ 65) : ∃ r, Ev (fun k => vI.f k R l) r ∧ Ev (fun k => wN.f k R l) r ∧ (OKT R l → r = (ba (textT R l), 0)) ∧ (¬ OKT R l → r = (ba [], 1)) := by
  have hb := zYF R l
  have hB := wBB R l
  by_cases ok : OKT R l
  case neg => exact ⟨(ba [], 1), evb (hb.2 ok) (evn (by simp) (Ev.now _)), evb (hB.2 ok) (evn (by simp) (Ev.now _)), fun h => absurd h ok, fun _ => rfl⟩
  have hlen := hd_len R.toNat
  have p1 := zWI l hl ok.2.2.1 0 (by omega) (by omega) (hd R.toNat ++ [10]) (by simp; omega)
  have p2 := zMG R l hl ok.2.2.1 0 (by omega) (by omega) (hd R.toNat ++ [10]) (by simp; omega)
  rw [show (0 : Int).toNat = 0 from rfl, List.drop_zero] at p1 p2
  have et : (hd R.toNat ++ [10]) ++ zIE zIG l = textT R l := by simp [textT]
  rw [et] at p1 p2
  have hR : R.toNat = 1 ∨ R.toNat = 2 ∨ R.toNat = 3 ∨ R.toNat = 4 := by have := ok.1; omega
  have h1 : vI.head R = some (ba (hd R.toNat ++ [10])) := by
    unfold vI.head
    rw [if_pos (by have := ok.1; omega)]
    rcases hR with h | h | h | h <;> rw [h] <;> rfl
  have h2 : qK.f R = some (ba (wrdL R.toNat)) := by
    have := zXX (i := R.toNat) (by omega) (by omega)
    rwa [show ((R.toNat : Nat) : Int) = R from by have := ok.1; omega] at this
  have e9 : (⟨#[114, 111, 117, 110, 100, 105, 110, 103, 32]⟩ : ByteArray) = ba (hdw ++ [32]) := rfl
  have e10 : (⟨#[10]⟩ : ByteArray) = ba [10] := rfl
  have eh : (hdw ++ [32]) ++ wrdL R.toNat ++ [10] = hd R.toNat ++ [10] := by simp [hd]
  have ew : (wrdL R.toNat).length ≤ 9 := by
    have : (hd R.toNat).length = 9 + (wrdL R.toNat).length := by simp [hd, hdw]; omega
    omega
  have h8 : hdw.length = 8 := rfl
  refine ⟨_, evb (hb.1 ok) (evp rfl (evb (evc (fun _ => rfl) h1) p1)), evb (hB.1 ok) (evp rfl (evb (evc (fun _ => rfl) h2) ?_)), fun _ => rfl, fun h => absurd ok h⟩
  rw [e9, e10]
  simp only [zNM]
  rw [eh]
  exact evp (by rw [uK]; omega) (evp (by simp only [uK, List.length_append, List.length_cons, List.length_nil]; omega) p2)
theorem zWK (s : ByteArray) (hs : s.size ≤ 4096) : ∃ r, Ev (fun k => zL.f k s) r ∧ Ev (fun k => zD.f k s) r ∧ r = zMY (lin [] s.data.toList).1 (lin [] s.data.toList).2 := ⟨_, zQH s hs, zYG s hs, rfl⟩
theorem zYE {α : Type} {f : List UInt8 → Option α} (e : Bool) : ∀ (ls : List (List UInt8)) (out : List α), (run f e ls out).1.length ≤ out.length + ls.length
  | [], out => by simp [run]
  | l :: r, out => by
    rw [zNW]
    cases f l with
    | none => simp
    | some x =>
      simp only []
      by_cases c : r = [] ∧ e = false
      · rw [if_pos c]; simp
      · rw [if_neg c]
        have := zYE (f := f) e r (out ++ [x])
        simp at this ⊢
        omega
theorem valR_len (R : Int) (x : List S26 × Option Nat) : (valR R x).2.1.length ≤ x.1.length := by
  unfold valR
  split
  · split <;> simp
  · simp
theorem zWL (ls : List (List UInt8)) (e : Bool) : (zMY ls e).2.1.length ≤ ls.length := by
  cases ls with
  | nil => simp [zMY]
  | cons l r =>
    simp only [zMY]
    cases zGL l with
    | none => simp
    | some R =>
      simp only []
      by_cases c : r = [] ∧ e = false
      · rw [if_pos c]; simp
      · rw [if_neg c]
        have h1 := valR_len R (run zCJ e r [])
        have h2 := zYE (f := zCJ) e r []
        simp at h2 ⊢
        omega
end Go.Proofs.YtholbmidciapdaaGreatDoor.PL
namespace Go.Proofs.YtholbmidciapdaaGreatDoor.Pure
open Go Go.RowKit Go.Proofs.YtholbmidciapdaaGreatDoorW.PrintWords Go.Proofs.YtholbmidciapdaaGreatDoorW.PrintLast Go.Proofs.YtholbmidciapdaaGreatDoorW.PrintMore Go.Proofs.YtholbmidciapdaaGreatDoor.Pr Go.Proofs.YtholbmidciapdaaGreatDoor.Opn Go.Proofs.YtholbmidciapdaaGreatDoor.X Go.Proofs.YtholbmidciapdaaGreatDoor.PL Go.Proofs.YtholbmidciapdaaGreatDoor.TX
theorem zYM (s : ByteArray) : ∃ r : Int × List S26 × Int × Int, Ev (fun k => zL.f k s) r ∧ Ev (fun k => zD.f k s) r ∧ (r.2.1.length : Int) ≤ 5000 := by
  by_cases h : (s.size : Int) > 4096
  · exact ⟨(0, [], -1, 8), evp h (Ev.now _), evp h (Ev.now _), by simp⟩
  · obtain ⟨r, r1, r2, r3⟩ := zWK s (by omega)
    refine ⟨r, r1, r2, ?_⟩
    have h1 := zWL (lin [] s.data.toList).1 (lin [] s.data.toList).2
    have h2 := zKO s.data.toList []
    have h3 := size_data s
    rw [r3]
    omega
theorem zHR : zKH := by
  intro R l s hR hl hs
  refine Ev.rounds ?_
  obtain ⟨q, hq, hq2⟩ := few_eq R l
  have haw : Ev (fun _ : Nat => qZ.f) true := Ev.now _
  have yes : ∀ t, t = true → Ev (fun k => zY.j0 k s t R l) true := fun t ht => Ev.step (fun k => zY.j0.eq_2 ..) (evp ht (evb haw (Ev.now _)))
  refine evb haw (evp rfl (evb (evc (fun _ => rfl) hq) ?_))
  cases q with
  | false => exact evn (by simp) (yes _ rfl)
  | true =>
    have hn := hq2 rfl
    have hcp : Ev (fun _ : Nat => uV.f R l) (R, l) := evc (fun _ => rfl) (cp_eq hn)
    refine evp rfl ?_
    have go : Ev (fun k => zY.j0 k s false R l) true := by
      obtain ⟨p, p1, p2, _⟩ := zWJ R l hn
      obtain ⟨r, r1, r2, r3⟩ := zYM s
      exact Ev.step (fun k => zY.j0.eq_2 ..) (evn (by simp) (evb hcp (evb p1 (evb p2 (evb r1 (evb r2 (evp rfl (evp rfl (evb (zYD r.1 r.2.1 (by omega)) (evp rfl (evp rfl (evr (by simp)))))))))))))
    by_cases c : (s.size : Int) > 600
    · refine evp c ?_
      by_cases d : (s.size : Int) = 4097
      · rw [show ((s.size : Int) != 4097) = false from by rw [bne_eq_false_iff_eq]; exact d]; exact go
      · exact yes _ (bne_iff_ne.2 d)
    · exact evn c go
end Go.Proofs.YtholbmidciapdaaGreatDoor.Pure
namespace Go.Proofs.YtholbmidciapdaaGreatDoor.X
open Go
variable {H : Type} {enc : TypeId × Value → H}
theorem zRH {a : Assume} {C : Checked} {os : Os} {f : FuncId} {fn : Func} {s : ChangeSpec} {conds : List PathCond} {apart fresh handsOn again : Bool} {X : World → Array Value → Prop}
    (hX : ∀ (w w' : World) (args : Array Value), w.heap = w'.heap → X w args → X w' args)
    (own : ownKnob C.prog.godebug = none) (started : os.Started) (noInit : C.prog.inits.idxOf? f = none) (hfn : C.prog.funcs[f]? = some fn)
    (witness : ∃ (w : World) (tape : Tape) (i : Input), w.os = os ∧ (w.forCall tape i).Shaped C.prog ∧ i.vars = [] ∧ Input.okWide C.prog (w.forCall tape i) .any w.heap.size f i ∧
      ((s.pre enc C.prog fn conds apart (w.forCall tape i).memory i.args ∧ X (w.forCall tape i).memory i.args) ∧ sizedMet enc C.prog fn (OpenSpec.ofChange s) apart (w.forCall tape i).memory i.args) ∧ a.holds C.prog (lone (Frame.enter C.prog f i.args .normal) [] (w.forCall tape i)))
    (walk : ∀ (W : World) (base : Nat) (args : Array Value) (ds gs : List (DataW H)) (before : List MemPlace),
      (∀ (j : Nat) t v, fn.params[j]? = some t → args[j]? = some v → Value.okWide C.prog W .any base t v) →
      DataW.Whole enc C.prog fn.params.toList s.vars apart W args.toList ds gs before → X W args → W.ShapedOpen C.prog →
      Calls C.prog f args W fun e W' => ∃ v, e = .returned v ∧ s.post enc C.prog fn apart fresh handsOn again W args v W') :
    ReturnsInHanded a C os f .any (fun w args => (s.pre enc C.prog fn conds apart w args ∧ X w args) ∧ sizedMet enc C.prog fn (OpenSpec.ofChange s) apart w args) (s.post enc C.prog fn apart fresh handsOn again) := by
  refine returnsInHanded_of_calls own started noInit witness ?_
  intro w tape i _ hsh _ hok hpre _
  obtain ⟨_, _, _, fn', hfn', _, _, _, _, hval⟩ := hok
  obtain rfl : fn' = fn := Option.some.inj (hfn'.symm.trans hfn)
  obtain ⟨⟨⟨ds, gs, before, hw, _⟩, hx⟩, _⟩ := hpre
  refine (walk (w.forCall tape i) w.heap.size i.args ds gs before hval (DataW.Whole.of_heap (w' := w.forCall tape i) (by rfl) hw) (hX _ _ _ (by rfl) hx) hsh).mono fun e W' ⟨v, he, hp⟩ => ?_
  subst he
  exact ChangeSpec.post_blind hp
end Go.Proofs.YtholbmidciapdaaGreatDoor.X
namespace Go.Proofs.YtholbmidciapdaaGreatDoor.tariffTexts
open Go Go.ChangeShapes Go.WideShapes Go.ChangeAt Go.RowKit
open Go.ChangeMaps (open_string shut_string)
open Go.Proofs.YtholbmidciapdaaGreatDoorW.PrintWords Go.Proofs.YtholbmidciapdaaGreatDoor.O Go.Proofs.YtholbmidciapdaaGreatDoor.Opn Go.Proofs.YtholbmidciapdaaGreatDoor.Pr Go.Proofs.YtholbmidciapdaaGreatDoor.X
theorem own : ownKnob Tryz.prog.godebug = none := by kernel_rfl
theorem laidOut : laidOutB Tryz.prog = true := by kernel_rfl
abbrev zOB : List (String × DataW Unit) := [("math/bits.deBruijn32tab", Rows.laid_math_bits_deBruijn32tab), ("math/bits.deBruijn64tab", Rows.laid_math_bits_deBruijn64tab), ("internal/strconv.uint64pow10", Rows.laid_internal_strconv_uint64pow10), ("unicode/utf8.acceptRanges", Rows.laid_unicode_utf8_acceptRanges), ("strconv.ErrRange", Rows.laid_strconv_ErrRange), ("strconv.ErrSyntax", Rows.laid_strconv_ErrSyntax), ("spile/tariff.words", Rows.laid_spile_tariff_words), ("unicode/utf8.first", Rows.laid_unicode_utf8_first)]
set_option maxRecDepth 100000 in
theorem lifted (os : Os) (started : os.Started) (H : Type) (enc : TypeId × Value → H) :
    ReturnsInHanded {} Tryz.checked os 6 .any (fun w args => (Rows.tariffTextsSpec.pre enc Tryz.prog Tryz.f6 [] false w args ∧ laidMetH Tryz.prog zOB w) ∧ sizedMet enc Tryz.prog Tryz.f6 (OpenSpec.ofChange Rows.tariffTextsSpec) false w args)
      (Rows.tariffTextsSpec.post enc Tryz.prog Tryz.f6 false true false false) := by
  refine zRH (C := Tryz.checked) (X := (fun w _ => laidMetH Tryz.prog zOB w)) (fun _ _ _ hh h => h.of_heap hh) own started (by kernel_rfl) Tryz.func6
    (ChangeSpec.witness_shaped (enc := enc) (C := Tryz.checked) (os := os) (X := (fun w _ => laidMetH Tryz.prog zOB w)) false (World.laidAll Tryz.prog os zOB) #[.agg #[.int .i64 0, .slice none 0 0], .string ByteArray.empty] 8 (World.laidAll_os _ _ _) (World.shaped_of_ZipB (by kernel_rfl) (by kernel_rfl)) (by kernel_rfl) (by kernel_rfl) (by kernel_rfl) (by rw [MakeChecks.laidMetH_plain _ _ _ (by kernel_rfl)]; exact laidMet_laidAll _ (by kernel_rfl) (by kernel_rfl))) ?_
  intro W base args ds gs before hval0 hW hL hsh
  have hval : ∀ (j : Nat) t v, Tryz.f6.params[j]? = some t → args[j]? = some v → Value.okWide Tryz.prog W .any base t v := hval0
  have hW' := hW
  obtain ⟨p, q, hA0, hV, rfl, hfz, hnd⟩ := hW
  have hA : DataW.TrodAll enc Tryz.prog W 0 (fun _ => true) true Tryz.f6.params.toList args.toList ds p := hA0
  rw [Tryz.params6] at hA hval
  obtain ⟨v0, vs0, d0, ds0, p0, q0, hargs, rfl, rfl, h0, r0⟩ := trodAll_cons hA
  obtain ⟨v1, vs1, d1, ds1, p1, q1, rfl, rfl, rfl, h1, r1⟩ := trodAll_cons r0
  obtain ⟨rfl, rfl, rfl⟩ := trodAll_nil r1
  obtain rfl : args = #[v0, v1] := by cases args; simp_all
  obtain ⟨rfl, rfl⟩ := trodVars_none hV
  obtain ⟨cs0, rfl, _⟩ := okWide_struct Tryz.underlying24 (hval 0 24 v0 rfl rfl)
  have k0 := h0
  have lt0 : ∀ x ∈ p0, x.block < W.heap.size := by obtain ⟨m, hm⟩ := k0; exact DataW.trod_lt m _ _ _ hm
  obtain ⟨x0, K0, ok0⟩ : ∃ x, k24.K W x cs0.toList ∧ ok24 x := by
    obtain ⟨fuel, hf⟩ := h0
    exact opens24.2 _ _ _ _ _ _ _ _ _ hf
  obtain ⟨A0_1, c0_1, e0, g0_1, hr0_1⟩ := k24_open K0
  obtain rfl : cs0 = #[.int .i64 (x0.f0), .slice A0_1 (x0.f1).length c0_1] := by cases cs0; simpa using e0
  obtain ⟨a1, rfl, rfl, rfl, y1⟩ := open_string Tryz.underlying9 (hval 1 9 v1 rfl rfl) h1
  clear hA0 hval0
  obtain ⟨k, hp⟩ := Pure.zHR (x0.f0) (x0.f1) a1 ok0.1 ok0.2 y1
  have hG : GI W := GI.zRU zOB (by simp [zOB]) (by simp [zOB]) (by simp [zOB]) (by simp [zOB]) hL hsh
  refine (zY.calls k (x0.f0) _ _ (x0.f1) a1 true W hr0_1 g0_1 hG rfl hp).mono fun e W' ⟨he, bel⟩ => ?_
  subst he
  exact ⟨_, rfl, _, _, _, [], _, [], hW', trodAll_mk1 (shut_bool Tryz.underlying4 _), (trodAll_cons_mk (Below.trod laidOut (by kernel_rfl) (of_decide_eq_true (by kernel_rfl)) k0 bel lt0) (trodAll_cons_mk (shut_string Tryz.underlying9 y1) trodAll_mk0)), rfl, bel.frame _, fun h => by cases h⟩
theorem holds : Rows.TariffTextsSaid :=
  OpenClaim.holds_of_wide 6 Tryz.f6 rfl rfl rfl rfl rfl rfl rfl ⟨rfl, rfl, rfl, rfl, rfl⟩ rfl rfl rfl rfl rfl (by kernel_rfl) Tryz.func6 (by kernel_rfl)
    (of_decide_eq_true (by kernel_rfl)) (by unfold Func.isWrapper; first | (rw [if_pos (by decide +kernel)]; kernel_rfl) | (rw [if_neg (by decide +kernel)]; exact ⟨rfl, rfl⟩))
    (fun os started H enc _ => lifted os started H enc)
theorem card : Rows.TariffTextsCardSaid :=
  Claim7.holds_tied_plain_at .later [] [.data, .data, .data, .data, .sentinel, .sentinel, .widerDeep, .pinned] true (true, "e915a9bdfe9e1389aaf186e88c341004cfdabf0ce269b5d3aa2c8944f7f7b486") true
    holds (fun _ h => by cases h) (by kernel_rfl) (fun _ h => by cases h) tariffTexts_row_tie rfl ⟨rfl, rfl⟩ (by kernel_rfl) rfl
    (fun f fn hf hfn => by
      obtain rfl : f = 6 := Option.some.inj ((show Tryz.prog.funcNamed "spile/spilelaw46.TariffTexts" = some 6 by kernel_rfl).symm.trans hf) |>.symm
      obtain rfl : fn = Tryz.f6 := (Option.some.inj (Tryz.func6.symm.trans hfn)).symm
      exact ⟨by kernel_rfl, fun j t ht => by
        rw [Tryz.params6] at ht
        have hm : t ∈ [24, 9] := by simpa using Array.mem_of_getElem? ht
        have hall : ([24, 9].all fun u => !Tryz.prog.wantsStandIn u) = true := by kernel_rfl
        exact (show Tryz.prog.wantsStandIn t = false by simpa using List.all_eq_true.1 hall t hm)⟩)
    (by kernel_rfl)
end Go.Proofs.YtholbmidciapdaaGreatDoor.tariffTexts
namespace Go.Proofs.YtholbmidciapdaaGreatDoor
/-- The card, under a short name, for the claim. -/
theorem tariffTexts_holds : Rows.TariffTextsCardSaid := tariffTexts.card
#print axioms tariffTexts_holds
end Go.Proofs.YtholbmidciapdaaGreatDoor
