/-
A part of what these laws rest on: contracts of the functions that they reach, and plain lemmas.
-/
import Derived.Shelf.Spec.SlicesInsertGrow
import Derived.Lib.AppendZerosOnto
import Derived.Shelf.SlSortFuncK.RowK2
import Derived.Deep.Upon
import Derived.Test.YtholbmidciapdaaGreatDoorTariffTextsB
set_option linter.unusedVariables false
set_option linter.unusedSimpArgs false
namespace Go.Proofs.YtholbmidciapdaaGreatDoor.Pr
open Go.RowKit Go.Proofs.YtholbmidciapdaaGreatDoorW.PrintWords Go.Proofs.YtholbmidciapdaaGreatDoorW.PrintLast Go.Proofs.YtholbmidciapdaaGreatDoorW.PrintMore Go.Proofs.YtholbmidciapdaaGreatDoor.X
attribute [local go_sem] uR uP kP kO jN jM uQ uO   -- for this text's walks alone
set_option linter.unusedVariables false
set_option linter.unusedSimpArgs false
def kN.f (a0 : Int) (a1 : Int) : Option (Int) := if a1 = 2 then (if (Int.tmod a0 10000000) > 0 then (some (wrap64 (IntKind.u64.wrap ((IntKind.u64.wrap (Int.tdiv a0 10000000)) + 1)))) else (some (wrap64 (IntKind.u64.wrap (Int.tdiv a0 10000000))))) else (if a1 = 3 then (if (IntKind.u64.wrap (2 * (Int.tmod a0 10000000))) ≥ 10000000 then (some (wrap64 (IntKind.u64.wrap ((IntKind.u64.wrap (Int.tdiv a0 10000000)) + 1)))) else (some (wrap64 (IntKind.u64.wrap (Int.tdiv a0 10000000))))) else (if a1 = 4 then (if (IntKind.u64.wrap (2 * (Int.tmod a0 10000000))) > 10000000 then (some (wrap64 (IntKind.u64.wrap ((IntKind.u64.wrap (Int.tdiv a0 10000000)) + 1)))) else (if (IntKind.u64.wrap (2 * (Int.tmod a0 10000000))) = 10000000 then (if (Int.tmod (IntKind.u64.wrap (Int.tdiv a0 10000000)) 2) = 1 then (some (wrap64 (IntKind.u64.wrap ((IntKind.u64.wrap (Int.tdiv a0 10000000)) + 1)))) else (some (wrap64 (IntKind.u64.wrap (Int.tdiv a0 10000000))))) else (some (wrap64 (IntKind.u64.wrap (Int.tdiv a0 10000000)))))) else (some (wrap64 (IntKind.u64.wrap (Int.tdiv a0 10000000))))))
set_option maxHeartbeats 8000000 in
set_option maxRecDepth 100000 in
theorem kN.calls (a0 : Int) (a1 : Int) (r : Int) (w : World) (h : kN.f a0 a1 = some r) :
  Calls Tryz.prog 50 #[.int .u64 a0, .int .i64 a1] w fun e w' => e = .returned (.int .i64 r) ∧ wR w w' := by
 have H : (if a1 = 2 then (if (Int.tmod a0 10000000) > 0 then (some (wrap64 (IntKind.u64.wrap ((IntKind.u64.wrap (Int.tdiv a0 10000000)) + 1)))) else (some (wrap64 (IntKind.u64.wrap (Int.tdiv a0 10000000))))) else (if a1 = 3 then (if (IntKind.u64.wrap (2 * (Int.tmod a0 10000000))) ≥ 10000000 then (some (wrap64 (IntKind.u64.wrap ((IntKind.u64.wrap (Int.tdiv a0 10000000)) + 1)))) else (some (wrap64 (IntKind.u64.wrap (Int.tdiv a0 10000000))))) else (if a1 = 4 then (if (IntKind.u64.wrap (2 * (Int.tmod a0 10000000))) > 10000000 then (some (wrap64 (IntKind.u64.wrap ((IntKind.u64.wrap (Int.tdiv a0 10000000)) + 1)))) else (if (IntKind.u64.wrap (2 * (Int.tmod a0 10000000))) = 10000000 then (if (Int.tmod (IntKind.u64.wrap (Int.tdiv a0 10000000)) 2) = 1 then (some (wrap64 (IntKind.u64.wrap ((IntKind.u64.wrap (Int.tdiv a0 10000000)) + 1)))) else (some (wrap64 (IntKind.u64.wrap (Int.tdiv a0 10000000))))) else (some (wrap64 (IntKind.u64.wrap (Int.tdiv a0 10000000)))))) else (some (wrap64 (IntKind.u64.wrap (Int.tdiv a0 10000000))))))) = some r := h; clear h; by_cases c3 : a1 = 2
 ·
  rw [if_pos c3] at H; have c3b0 : (a1 == 2) = true := beq_iff_eq.mpr c3; have c3b1 : (a1 != 2) = false := bne_eq_false_iff_eq.mpr c3; clear c3; by_cases c4 : (Int.tmod a0 10000000) > 0
  ·
   rw [if_pos c4] at H; have c4b0 : decide (0 < (Int.tmod a0 10000000)) = true := decide_eq_true c4; clear c4; obtain rfl := Option.some.inj H; go_enter Tryz.func50, Tryz.ntmps50
   go_wp2; go_ret
   exact ⟨by first | rfl | (simp; done) | (simp [*]; done), by repeat (first | exact wR.refl _ | apply wR.step)⟩
  ·
   rw [if_neg c4] at H; have c4b0 : decide (0 < (Int.tmod a0 10000000)) = false := decide_eq_false c4; clear c4; obtain rfl := Option.some.inj H; go_enter Tryz.func50, Tryz.ntmps50
   go_wp2; go_ret
   exact ⟨by first | rfl | (simp; done) | (simp [*]; done), by repeat (first | exact wR.refl _ | apply wR.step)⟩
 ·
  rw [if_neg c3] at H; have c3b0 : (a1 == 2) = false := beq_eq_false_iff_ne.mpr c3; have c3b1 : (a1 != 2) = true := bne_iff_ne.mpr c3; by_cases c5 : a1 = 3
  ·
   rw [if_pos c5] at H; have c5b0 : (a1 == 3) = true := beq_iff_eq.mpr c5; have c5b1 : (a1 != 3) = false := bne_eq_false_iff_eq.mpr c5; clear c5; by_cases c6 : (IntKind.u64.wrap (2 * (Int.tmod a0 10000000))) ≥ 10000000
   ·
    rw [if_pos c6] at H; have c6b0 : decide (10000000 ≤ (IntKind.u64.wrap (2 * (Int.tmod a0 10000000)))) = true := decide_eq_true c6; clear c6; obtain rfl := Option.some.inj H; go_enter Tryz.func50, Tryz.ntmps50
    go_wp2; go_ret
    exact ⟨by first | rfl | (simp; done) | (simp [*]; done), by repeat (first | exact wR.refl _ | apply wR.step)⟩
   ·
    rw [if_neg c6] at H; have c6b0 : decide (10000000 ≤ (IntKind.u64.wrap (2 * (Int.tmod a0 10000000)))) = false := decide_eq_false c6; clear c6; obtain rfl := Option.some.inj H; go_enter Tryz.func50, Tryz.ntmps50
    go_wp2; go_ret
    exact ⟨by first | rfl | (simp; done) | (simp [*]; done), by repeat (first | exact wR.refl _ | apply wR.step)⟩
  ·
   rw [if_neg c5] at H; have c5b0 : (a1 == 3) = false := beq_eq_false_iff_ne.mpr c5; have c5b1 : (a1 != 3) = true := bne_iff_ne.mpr c5; by_cases c7 : a1 = 4
   ·
    rw [if_pos c7] at H; have c7b0 : (a1 == 4) = true := beq_iff_eq.mpr c7; have c7b1 : (a1 != 4) = false := bne_eq_false_iff_eq.mpr c7; clear c7; by_cases c8 : (IntKind.u64.wrap (2 * (Int.tmod a0 10000000))) > 10000000
    ·
     rw [if_pos c8] at H; have c8b0 : decide (10000000 < (IntKind.u64.wrap (2 * (Int.tmod a0 10000000)))) = true := decide_eq_true c8; clear c8; obtain rfl := Option.some.inj H; go_enter Tryz.func50, Tryz.ntmps50
     go_wp2; go_ret
     exact ⟨by first | rfl | (simp; done) | (simp [*]; done), by repeat (first | exact wR.refl _ | apply wR.step)⟩
    ·
     rw [if_neg c8] at H; have c8b0 : decide (10000000 < (IntKind.u64.wrap (2 * (Int.tmod a0 10000000)))) = false := decide_eq_false c8; clear c8; by_cases c9 : (IntKind.u64.wrap (2 * (Int.tmod a0 10000000))) = 10000000
     ·
      rw [if_pos c9] at H; have c9b0 : ((IntKind.u64.wrap (2 * (Int.tmod a0 10000000))) == 10000000) = true := beq_iff_eq.mpr c9; have c9b1 : ((IntKind.u64.wrap (2 * (Int.tmod a0 10000000))) != 10000000) = false := bne_eq_false_iff_eq.mpr c9; clear c9; by_cases c10 : (Int.tmod (IntKind.u64.wrap (Int.tdiv a0 10000000)) 2) = 1
      ·
       rw [if_pos c10] at H; have c10b0 : ((Int.tmod (IntKind.u64.wrap (Int.tdiv a0 10000000)) 2) == 1) = true := beq_iff_eq.mpr c10; have c10b1 : ((Int.tmod (IntKind.u64.wrap (Int.tdiv a0 10000000)) 2) != 1) = false := bne_eq_false_iff_eq.mpr c10; clear c10; obtain rfl := Option.some.inj H; go_enter Tryz.func50, Tryz.ntmps50
       go_wp2; go_ret
       exact ⟨by first | rfl | (simp; done) | (simp [*]; done), by repeat (first | exact wR.refl _ | apply wR.step)⟩
      ·
       rw [if_neg c10] at H; have c10b0 : ((Int.tmod (IntKind.u64.wrap (Int.tdiv a0 10000000)) 2) == 1) = false := beq_eq_false_iff_ne.mpr c10; have c10b1 : ((Int.tmod (IntKind.u64.wrap (Int.tdiv a0 10000000)) 2) != 1) = true := bne_iff_ne.mpr c10; obtain rfl := Option.some.inj H; go_enter Tryz.func50, Tryz.ntmps50
       go_wp2; go_ret
       exact ⟨by first | rfl | (simp; done) | (simp [*]; done), by repeat (first | exact wR.refl _ | apply wR.step)⟩
     ·
      rw [if_neg c9] at H; have c9b0 : ((IntKind.u64.wrap (2 * (Int.tmod a0 10000000))) == 10000000) = false := beq_eq_false_iff_ne.mpr c9; have c9b1 : ((IntKind.u64.wrap (2 * (Int.tmod a0 10000000))) != 10000000) = true := bne_iff_ne.mpr c9; obtain rfl := Option.some.inj H; go_enter Tryz.func50, Tryz.ntmps50
      go_wp2; go_ret
      exact ⟨by first | rfl | (simp; done) | (simp [*]; done), by repeat (first | exact wR.refl _ | apply wR.step)⟩
   ·
    rw [if_neg c7] at H; have c7b0 : (a1 == 4) = false := beq_eq_false_iff_ne.mpr c7; have c7b1 : (a1 != 4) = true := bne_iff_ne.mpr c7; obtain rfl := Option.some.inj H; go_enter Tryz.func50, Tryz.ntmps50
    go_wp2; go_ret
    exact ⟨by first | rfl | (simp; done) | (simp [*]; done), by repeat (first | exact wR.refl _ | apply wR.step)⟩
def qV.j0 : Nat → Int → Int → Int → Bool → Int → List (S26) → Option (Int × Int)
 | 0, _, _, _, _, _, _ => none
 | k + 1, x1, x2, x3, x18, zXS, x177001 => if x18 = true then (some (0, 2)) else ((yF.f k zXS x177001 x1 x2).bind fun bt179 => (if bt179.2.2.2 = 0 then ((kN.f (IntKind.u64.wrap ((IntKind.u64.wrap (bt179.2.2.1)) * (IntKind.u64.wrap (x3)))) zXS).bind fun t184 => (some (t184, 0))) else (some (0, bt179.2.2.2))))
def qV.f (k : Nat) (a0_0 : Int) (l0_1 : List (S26)) (a1 : Int) (a2 : Int) (a3 : Int) : Option (Int × Int) := (vJ.f k a0_0 l0_1).bind fun t177 => (if t177 = true then ((zR.f a3 0 10737418240000).bind fun t178 => (qV.j0 k a1 a2 a3 (!t178) a0_0 l0_1)) else (qV.j0 k a1 a2 a3 false a0_0 l0_1))
set_option maxHeartbeats 8000000 in
set_option maxRecDepth 100000 in
theorem qV.calls (k : Nat) (a0_0 : Int) (A0_1 : Option Addr) (c0_1 : Nat) (l0_1 : List (S26)) (a1 : Int) (a2 : Int) (a3 : Int) (r1 : Int) (r2 : Int) (w : World) (hr0_1 : Kd.C k26 w A0_1 l0_1.length l0_1) (uG : l0_1.length ≤ c0_1) (h : qV.f k a0_0 l0_1 a1 a2 a3 = some (r1, r2)) :
  Calls Tryz.prog 26 #[.agg #[.int .i64 a0_0, .slice A0_1 l0_1.length c0_1], .int .i64 a1, .int .i64 a2, .int .i64 a3] w fun e w' => e = .returned (.tuple #[.int .i64 r1, .int .i64 r2]) ∧ Below w.heap.size w w' := by
 have hu24 := Tryz.underlying24; have hu26 := Tryz.underlying26; have HR0_1 := zA.mk hr0_1; have HC0_1 := zA.mk uG; clear hr0_1 uG; have HB := zA.mk (Below.refl w.heap.size w); have H : ((vJ.f k a0_0 l0_1).bind fun t177 => (if t177 = true then ((zR.f a3 0 10737418240000).bind fun t178 => (qV.j0 k a1 a2 a3 (!t178) a0_0 l0_1)) else (qV.j0 k a1 a2 a3 false a0_0 l0_1))) = some (r1, r2) := h; clear h; have HC5 := zA.mk H; clear H; go_enter Tryz.func26, Tryz.ntmps26
 go_upto_region 1 with (first | ((with_reducible refine wF (N := 4) rfl ?_); refine wA ?hg (N := 4) ?hd (cs := #[.int .i64 a0_0, .slice A0_1 l0_1.length c0_1]) (t := 24) ?hr ?_; (case hd => rfl); (case hg => rfl); (case hr => first | (go_simp; done) | (go_simp; rfl)); intro zFN hg w6 hbox hb; have n0_ := zA.mk (zF (eG HB.out) hb); have n1_ := zA.mk (hbox); have n2_ := zA.mk ((by rw [hg]; exact (zE (eG HB.out)) : w.heap.size ≤ zFN)); have n3_ := zA.mk ((by rw [hg]; exact (zE (eG HB.out)) : w.heap.size ≤ zFN)); clear HB; have HB := n0_; have uU := n1_; have GW176 := n2_; have GE176 := n3_; have ig176_ := geI GE176; clear n0_ n1_ n2_ n3_; clear hb hbox hg))
 (try simp only [Act.put, sIA, sC0, sCS])
 go_cut [18] (fun v18 wc => ∃ (kq : Nat) (x18_4 : Bool), v18 = .bool x18_4 ∧ zA (qV.j0 kq a1 a2 a3 x18_4 a0_0 l0_1 = some (r1, r2)) ∧ zA (kq ≤ k) ∧ zA (wc.heap[zFN]? = some (.cells #[.int .i64 a0_0, (.slice A0_1 l0_1.length c0_1)] 24 (0, 0))) ∧ zA (Below w.heap.size w wc))
 case first =>
  have H := HC5.out; clear HC5; replace H := Option.bind_eq_some_iff.mp H; obtain ⟨t177, A70, H⟩ := H; replace H : (if t177 = true then ((zR.f a3 0 10737418240000).bind fun t178 => (qV.j0 k a1 a2 a3 (!t178) a0_0 l0_1)) else (qV.j0 k a1 a2 a3 false a0_0 l0_1)) = some (r1, r2) := H; have A7 := zA.mk A70; clear A70; by_cases c8 : t177 = true
  ·
   subst c8; replace H : ((zR.f a3 0 10737418240000).bind fun t178 => (qV.j0 k a1 a2 a3 (!t178) a0_0 l0_1)) = some (r1, r2) := by rw [if_pos rfl] at H; exact H
   replace H := Option.bind_eq_some_iff.mp H; obtain ⟨t178, A90, H⟩ := H; replace H : (qV.j0 k a1 a2 a3 (!t178) a0_0 l0_1) = some (r1, r2) := H; have A9 := zA.mk A90; clear A90; have H' := zA.mk H; clear H; have zCC : w6.cell? ⟨zFN, 0, none⟩ = some (.int .i64 a0_0) := (zC uU.out 0).trans rfl; have zCB : w6.cell? ⟨zFN, 1, none⟩ = some (.slice A0_1 l0_1.length c0_1) := (zC uU.out 1).trans rfl; have zCA := zB uU.out 0; have zBZ := zB uU.out 1; go_wp2_with (first | ((with_reducible refine zQ (f := 41) rfl ?_); refine vB (some 13) rfl rfl Tryz.func41 (by kernel_rfl) rfl #[.agg #[.int .i64 a0_0, .slice A0_1 l0_1.length c0_1]] rfl (by (try simp only [List.map_toArray, List.map_cons, List.map_nil]); first | done | rfl | (simp only [List.length_drop, List.length_take]; rfl)) ?_; (with_reducible refine (vJ.calls k a0_0 _ _ l0_1 true _ ?side1 ?side2 A7.out).mono ?_); (case side1 => repeat (first | exact (Kd.qW HR0_1.out HB.out) | (with_reducible refine Kd.vZ ?_ _) | (with_reducible refine Kd.vY ?_ _) | (with_reducible refine Kd.qU ?_))); (case side2 => exact HC0_1.out); rintro e w11 ⟨rfl, hb⟩; refine ⟨_, rfl, ?_⟩; have n0_ := zA.mk (zG (bG uU.out) hb); have n1_ := zA.mk (zF (eG HB.out) hb); clear uU; clear HB; have uU := n0_; have HB := n1_; clear n0_ n1_; (try clear hb); (try clear hb2); (try clear hk); (try clear hi)) | (go_at_call 35; (with_reducible refine (zR.calls a3 0 10737418240000 t178 _ A9.out).mono ?_); rintro e w' ⟨rfl, ⟨nd, rfl⟩⟩))
   go_meet
   case rel => exact ⟨_, (!t178), (by first | rfl | (simp; done) | (simp [*]; done)), H', ⟨by first | omega | exact Nat.le_refl _⟩, ⟨by (with_reducible repeat first | apply bN | apply bD | apply bA); exact uU.out⟩, ⟨eG HB.out⟩⟩
  ·
   replace c8 := Bool.eq_false_iff.mpr c8; subst c8; replace H : (qV.j0 k a1 a2 a3 false a0_0 l0_1) = some (r1, r2) := by rw [if_neg (show ¬ (false = true) by decide)] at H; exact H
   have H' := zA.mk H; clear H; have zJK : w6.cell? ⟨zFN, 0, none⟩ = some (.int .i64 a0_0) := (zC uU.out 0).trans rfl; have zJJ : w6.cell? ⟨zFN, 1, none⟩ = some (.slice A0_1 l0_1.length c0_1) := (zC uU.out 1).trans rfl; have zJI := zB uU.out 0; have zJH := zB uU.out 1; go_wp2_with (first | ((with_reducible refine zQ (f := 41) rfl ?_); refine vB (some 13) rfl rfl Tryz.func41 (by kernel_rfl) rfl #[.agg #[.int .i64 a0_0, .slice A0_1 l0_1.length c0_1]] rfl (by (try simp only [List.map_toArray, List.map_cons, List.map_nil]); first | done | rfl | (simp only [List.length_drop, List.length_take]; rfl)) ?_; (with_reducible refine (vJ.calls k a0_0 _ _ l0_1 false _ ?side1 ?side2 A7.out).mono ?_); (case side1 => repeat (first | exact (Kd.qW HR0_1.out HB.out) | (with_reducible refine Kd.vZ ?_ _) | (with_reducible refine Kd.vY ?_ _) | (with_reducible refine Kd.qU ?_))); (case side2 => exact HC0_1.out); rintro e w13 ⟨rfl, hb⟩; refine ⟨_, rfl, ?_⟩; have n0_ := zA.mk (zG (bG uU.out) hb); have n1_ := zA.mk (zF (eG HB.out) hb); clear uU; clear HB; have uU := n0_; have HB := n1_; clear n0_ n1_; (try clear hb); (try clear hb2); (try clear hk); (try clear hi)))
   go_meet
   case rel => exact ⟨_, (false), (by first | rfl | (simp; done) | (simp [*]; done)), H', ⟨by first | omega | exact Nat.le_refl _⟩, ⟨by (with_reducible repeat first | apply bN | apply bD | apply bA); exact uU.out⟩, ⟨eG HB.out⟩⟩
 case rest =>
  clear HC5; repeat first | clear c2 | clear p2 | clear c4 | clear c8 | clear zCC | clear zCB | clear zJK | clear zJJ | clear zCA | clear zBZ | clear zJI | clear zJH
  obtain ⟨kq, x18_4, rfl, HA, HJ4, uU, HB⟩ := hcut
  cases kq with
  | zero => exact absurd HA.out (by simp [qV.j0])
  | succ kj4 =>
   have H := HA.out; clear HA; simp only [qV.j0] at H; by_cases c14 : x18_4 = true
   ·
    subst c14; replace H : (some (0, 2)) = some (r1, r2) := by rw [if_pos rfl] at H; exact H
    simp only [Option.some.injEq, Prod.mk.injEq] at H; obtain ⟨rfl, rfl⟩ := H; go_wp2; go_ret2
    exact ⟨by first | rfl | (simp [zN, zM] <;> rfl) | (simp [*, zN, zM] <;> rfl), eG HB.out⟩
   ·
    replace c14 := Bool.eq_false_iff.mpr c14; subst c14; replace H : ((yF.f kj4 a0_0 l0_1 a1 a2).bind fun bt179 => (if bt179.2.2.2 = 0 then ((kN.f (IntKind.u64.wrap ((IntKind.u64.wrap (bt179.2.2.1)) * (IntKind.u64.wrap (a3)))) a0_0).bind fun t184 => (some (t184, 0))) else (some (0, bt179.2.2.2)))) = some (r1, r2) := by rw [if_neg (show ¬ (false = true) by decide)] at H; exact H
    replace H := Option.bind_eq_some_iff.mp H; obtain ⟨⟨t179, t180, t181, t182⟩, A150, H⟩ := H; replace H : (if t182 = 0 then ((kN.f (IntKind.u64.wrap ((IntKind.u64.wrap (t181)) * (IntKind.u64.wrap (a3)))) a0_0).bind fun t184 => (some (t184, 0))) else (some (0, t182))) = some (r1, r2) := H; have A15 := zA.mk A150; clear A150; by_cases c16 : t182 = 0
    ·
     rw [if_pos c16] at H; have c16b0 : (t182 == 0) = true := beq_iff_eq.mpr c16; have c16b1 : (t182 != 0) = false := bne_eq_false_iff_eq.mpr c16; clear c16; replace H := Option.bind_eq_some_iff.mp H; obtain ⟨t184, A170, H⟩ := H; replace H : (some (t184, 0)) = some (r1, r2) := H; have A17 := zA.mk A170; clear A170; simp only [Option.some.injEq, Prod.mk.injEq] at H; obtain ⟨rfl, rfl⟩ := H; have zHL : wc.cell? ⟨zFN, 0, none⟩ = some (.int .i64 a0_0) := (zC uU.out 0).trans rfl; have zHK : wc.cell? ⟨zFN, 1, none⟩ = some (.slice A0_1 l0_1.length c0_1) := (zC uU.out 1).trans rfl; have zHF := zB uU.out 0; have zHE := zB uU.out 1; go_wp2_with (first | ((with_reducible refine zQ (f := 19) rfl ?_); refine vB (some 23) rfl rfl Tryz.func19 (by kernel_rfl) rfl #[.agg #[.int .i64 a0_0, .slice A0_1 l0_1.length c0_1], .int .i64 a1, .int .i64 a2] rfl (by (try simp only [List.map_toArray, List.map_cons, List.map_nil]); first | done | rfl | (simp only [List.length_drop, List.length_take]; rfl)) ?_; (with_reducible refine (yF.calls kj4 a0_0 _ _ l0_1 a1 a2 t179 t180 t181 t182 _ ?side1 ?side2 A15.out).mono ?_); (case side1 => repeat (first | exact (Kd.qW HR0_1.out HB.out) | (with_reducible refine Kd.vZ ?_ _) | (with_reducible refine Kd.vY ?_ _) | (with_reducible refine Kd.qU ?_))); (case side2 => exact HC0_1.out); rintro e w19 ⟨rfl, hb⟩; refine ⟨_, rfl, ?_⟩; have n0_ := zA.mk (zG (bG uU.out) hb); have n1_ := zA.mk (zF (eG HB.out) hb); clear uU; clear HB; have uU := n0_; have HB := n1_; clear n0_ n1_; (try clear hb); (try clear hb2); (try clear hk); (try clear hi)) | ((with_reducible refine wF (N := 10) rfl ?_); refine wA ?hg (N := 10) ?hd (cs := #[.int .i64 0, .int .i64 0, .int .i64 0]) (t := 26) ?hr ?_; (case hd => rfl); (case hg => rfl); (case hr => first | (go_simp; done) | (go_simp; rfl)); intro zHO hg w20 hbox hb; have n0_ := zA.mk (zG (bG uU.out) hb); have n1_ := zA.mk (zF (eG HB.out) hb); have n2_ := zA.mk (hbox); have n3_ := zA.mk ((by rw [hg]; exact (zE (eG HB.out)) : w.heap.size ≤ zHO)); have n4_ := zA.mk ((by rw [hg]; exact (zE (eG HB.out)) : w.heap.size ≤ zHO)); have n5_ := zA.mk ((by rw [hg]; exact Nat.ne_of_lt (wC (bG uU.out)) : zFN ≠ zHO)); have n6_ := zA.mk ((by rw [hg]; exact Nat.ne_of_gt (wC (bG uU.out)) : zHO ≠ zFN)); clear uU; clear HB; have uU := n0_; have HB := n1_; have zJQ := n2_; have GW183 := n3_; have GE183 := n4_; have ig183_ := geI GE183; have zLW := n5_; have zLV := n6_; clear n0_ n1_ n2_ n3_ n4_ n5_ n6_; clear hb hbox hg; have zWR := zLV.out; have zWQ := zLW.out; have zHJ : w20.cell? ⟨zHO, 0, none⟩ = some (.int .i64 0) := (zC zJQ.out 0).trans rfl; have zHI : w20.cell? ⟨zHO, 1, none⟩ = some (.int .i64 0) := (zC zJQ.out 1).trans rfl; have wAK : w20.cell? ⟨zHO, 2, none⟩ = some (.int .i64 0) := (zC zJQ.out 2).trans rfl; have zHD := zB zJQ.out 0; have zHC := zB zJQ.out 1; have zZQ := zB zJQ.out 2; have wAJ : w20.cell? ⟨zFN, 0, none⟩ = some (.int .i64 a0_0) := (zC uU.out 0).trans rfl; have wAI : w20.cell? ⟨zFN, 1, none⟩ = some (.slice A0_1 l0_1.length c0_1) := (zC uU.out 1).trans rfl; have zZP := zB uU.out 0; have zZO := zB uU.out 1) | ((with_reducible refine zQ (f := 50) rfl ?_); refine vB (some 37) rfl rfl Tryz.func50 (by kernel_rfl) rfl #[.int .u64 (IntKind.u64.wrap ((IntKind.u64.wrap (t181)) * (IntKind.u64.wrap (a3)))), .int .i64 a0_0] rfl (by (try simp only [List.map_toArray, List.map_cons, List.map_nil]); first | done | rfl | (simp only [List.length_drop, List.length_take]; rfl)) ?_; (with_reducible refine (kN.calls (IntKind.u64.wrap ((IntKind.u64.wrap (t181)) * (IntKind.u64.wrap (a3)))) a0_0 t184 _ A17.out).mono ?_); rintro e w' ⟨rfl, ⟨nd, rfl⟩⟩; refine ⟨_, rfl, ?_⟩))
     go_ret2
     exact ⟨by first | rfl | (simp [zN, zM] <;> rfl) | (simp [*, zN, zM] <;> rfl), eG HB.out⟩
    ·
     rw [if_neg c16] at H; have c16b0 : (t182 == 0) = false := beq_eq_false_iff_ne.mpr c16; have c16b1 : (t182 != 0) = true := bne_iff_ne.mpr c16; simp only [Option.some.injEq, Prod.mk.injEq] at H; obtain ⟨rfl, rfl⟩ := H; have hcz24_0 : wc.cell? ⟨zFN, 0, none⟩ = some (.int .i64 a0_0) := (zC uU.out 0).trans rfl; have hcz24_1 : wc.cell? ⟨zFN, 1, none⟩ = some (.slice A0_1 l0_1.length c0_1) := (zC uU.out 1).trans rfl; have hfz24_0 := zB uU.out 0; have hfz24_1 := zB uU.out 1; go_wp2_with (first | ((with_reducible refine zQ (f := 19) rfl ?_); refine vB (some 23) rfl rfl Tryz.func19 (by kernel_rfl) rfl #[.agg #[.int .i64 a0_0, .slice A0_1 l0_1.length c0_1], .int .i64 a1, .int .i64 a2] rfl (by (try simp only [List.map_toArray, List.map_cons, List.map_nil]); first | done | rfl | (simp only [List.length_drop, List.length_take]; rfl)) ?_; (with_reducible refine (yF.calls kj4 a0_0 _ _ l0_1 a1 a2 t179 t180 t181 t182 _ ?side1 ?side2 A15.out).mono ?_); (case side1 => repeat (first | exact (Kd.qW HR0_1.out HB.out) | (with_reducible refine Kd.vZ ?_ _) | (with_reducible refine Kd.vY ?_ _) | (with_reducible refine Kd.qU ?_))); (case side2 => exact HC0_1.out); rintro e w25 ⟨rfl, hb⟩; refine ⟨_, rfl, ?_⟩; have n0_ := zA.mk (zG (bG uU.out) hb); have n1_ := zA.mk (zF (eG HB.out) hb); clear uU; clear HB; have uU := n0_; have HB := n1_; clear n0_ n1_; (try clear hb); (try clear hb2); (try clear hk); (try clear hi)) | ((with_reducible refine wF (N := 10) rfl ?_); refine wA ?hg (N := 10) ?hd (cs := #[.int .i64 0, .int .i64 0, .int .i64 0]) (t := 26) ?hr ?_; (case hd => rfl); (case hg => rfl); (case hr => first | (go_simp; done) | (go_simp; rfl)); intro zHO hg w26 hbox hb; have n0_ := zA.mk (zG (bG uU.out) hb); have n1_ := zA.mk (zF (eG HB.out) hb); have n2_ := zA.mk (hbox); have n3_ := zA.mk ((by rw [hg]; exact (zE (eG HB.out)) : w.heap.size ≤ zHO)); have n4_ := zA.mk ((by rw [hg]; exact (zE (eG HB.out)) : w.heap.size ≤ zHO)); have n5_ := zA.mk ((by rw [hg]; exact Nat.ne_of_lt (wC (bG uU.out)) : zFN ≠ zHO)); have n6_ := zA.mk ((by rw [hg]; exact Nat.ne_of_gt (wC (bG uU.out)) : zHO ≠ zFN)); clear uU; clear HB; have uU := n0_; have HB := n1_; have zJQ := n2_; have GW183 := n3_; have GE183 := n4_; have ig183_ := geI GE183; have zLW := n5_; have zLV := n6_; clear n0_ n1_ n2_ n3_ n4_ n5_ n6_; clear hb hbox hg; have hnb27 := zLV.out; have hnc27 := zLW.out; have zUK : w26.cell? ⟨zHO, 0, none⟩ = some (.int .i64 0) := (zC zJQ.out 0).trans rfl; have zUJ : w26.cell? ⟨zHO, 1, none⟩ = some (.int .i64 0) := (zC zJQ.out 1).trans rfl; have zUI : w26.cell? ⟨zHO, 2, none⟩ = some (.int .i64 0) := (zC zJQ.out 2).trans rfl; have zTI := zB zJQ.out 0; have zTH := zB zJQ.out 1; have zTG := zB zJQ.out 2))
     go_ret2
     exact ⟨by first | rfl | (simp [zN, zM] <;> rfl) | (simp [*, zN, zM] <;> rfl), eG HB.out⟩
def vI.app (acc : List UInt8) (s : ByteArray) : Option (List UInt8) := if acc.length + s.size ≤ 140737488355328 then some (acc ++ s.data.toList) else none
def vI.head (r : Int) : Option ByteArray := if 0 ≤ r then (zKG[r.toNat]?).map fun z => (⟨#[114, 111, 117, 110, 100, 105, 110, 103, 32]⟩ ++ ⟨z.toArray⟩) ++ ⟨#[10]⟩ else none
def vI.part (x : S26) : Option ByteArray := (strconv_Itoa.f x.f0).bind fun a => (strconv_Itoa.f x.f1).bind fun b => (strconv_Itoa.f x.f2).bind fun c => if a.size ≤ 100 ∧ b.size ≤ 100 ∧ c.size ≤ 100 then some (((((((⟨#[99, 108, 97, 115, 115, 32]⟩ ++ a) ++ ⟨#[32, 102, 114, 111, 109, 32]⟩) ++ b) ++ ⟨#[32, 97, 116, 32]⟩) ++ c) ++ ⟨#[10]⟩)) else none
def vI.l0 : Nat → List S26 → List UInt8 → Int → Option (ByteArray × Int)
 | 0, _, _, _ => none
 | k + 1, l, acc, i => if i < (l.length : Int) then (if 0 ≤ i then ((vI.part (zH l i)).bind fun s => (vI.app acc s).bind fun acc2 => vI.l0 k l acc2 (wrap64 (i + 1))) else none) else some (⟨acc.toArray⟩, 0)
def vI.f (k : Nat) (a0_0 : Int) (l0 : List (S26)) : Option (ByteArray × Int) := (vJ.f k a0_0 l0).bind fun t => if t = true then (vI.head a0_0).bind fun hd => vI.l0 k l0 hd.data.toList 0 else some (⟨#[]⟩, 1)
set_option maxHeartbeats 8000000 in
set_option maxRecDepth 100000 in
theorem vI.calls (k : Nat) (a0_0 : Int) (A0_1 : Option Addr) (c0_1 : Nat) (l0_1 : List (S26)) (r1 : ByteArray) (r2 : Int) (w : World) (hr0_1 : Kd.C k26 w A0_1 l0_1.length l0_1) (uG : l0_1.length ≤ c0_1) (hG : GI w) (h : vI.f k a0_0 l0_1 = some (r1, r2)) :
    Calls Tryz.prog 28 #[.agg #[.int .i64 a0_0, .slice A0_1 l0_1.length c0_1]] w fun e w' => e = .returned (.tuple #[.string r1, .int .i64 r2]) ∧ Below w.heap.size w w' := by
  have hu24 := Tryz.underlying24; have hu26 := Tryz.underlying26; replace h := Option.bind_eq_some_iff.mp h; obtain ⟨t, ht, h⟩ := h; obtain ⟨W0, hW0⟩ : ∃ W0, W0 = w.alloc (.cells #[.int .i64 a0_0, .slice A0_1 l0_1.length c0_1] 24) := ⟨_, rfl⟩; have hB0 : Below w.heap.size w W0 := by rw [hW0]; exact qJ (Below.refl _ _) _
  have X0 : W0.heap[w.heap.size]? = some (.cells #[.int .i64 a0_0, .slice A0_1 l0_1.length c0_1] 24 (0, 0)) := by rw [hW0, heap_alloc_new]
  have hs0 : W0.heap.size = w.heap.size + 1 := by rw [hW0]; simp [World.size_alloc]
  cases t with
  | false =>
    simp only [Bool.false_eq_true, if_false, Option.some.injEq, Prod.mk.injEq] at h; obtain ⟨rfl, rfl⟩ := h; go_enter Tryz.func28, Tryz.ntmps28
    go_wp2_with (first
      | rw [← hW0]
      | (refine (vJ.calls k a0_0 A0_1 c0_1 l0_1 false W0 (Kd.qW hr0_1 hB0) uG ht).mono ?_; rintro e w1 ⟨rfl, hb1⟩))
    go_ret2
    exact ⟨rfl, zF hB0 hb1⟩
  | true =>
    simp only [if_true] at h; obtain ⟨hd, hh, h⟩ := Option.bind_eq_some_iff.1 h; unfold vI.head at hh; by_cases h0 : 0 ≤ a0_0
    case neg => rw [if_neg h0] at hh; cases hh
    rw [if_pos h0] at hh; obtain ⟨z, hz, rfl⟩ := Option.map_eq_some_iff.1 hh; have hW := (hG.words).cell a0_0.toNat z hz
    have hlt : a0_0 < 5 := by
      have := (List.getElem?_eq_some_iff.1 hz).1; have e : zKG.length = 5 := rfl; omega
    have hzl : z.length ≤ 100 := by
      have hm := List.mem_of_getElem? hz; simp only [zKG, List.mem_cons, List.not_mem_nil, or_false] at hm; rcases hm with rfl | rfl | rfl | rfl | rfl <;> decide
    have hzs : (⟨z.toArray⟩ : ByteArray).size ≤ 100 := by simpa [ByteArray.size] using hzl
    have ha1 : ∀ w, (Op.stringOp .add ⟨#[114, 111, 117, 110, 100, 105, 110, 103, 32]⟩ ⟨z.toArray⟩).run Tryz.prog w = .ok (.string (⟨#[114, 111, 117, 110, 100, 105, 110, 103, 32]⟩ ++ ⟨z.toArray⟩)) w := fun w => run_string_add_sum _ _ _ (by rw [show (⟨#[114, 111, 117, 110, 100, 105, 110, 103, 32]⟩ : ByteArray).size = 9 from rfl]; omega)
    have ha2 : ∀ w, (Op.stringOp .add (⟨#[114, 111, 117, 110, 100, 105, 110, 103, 32]⟩ ++ ⟨z.toArray⟩) ⟨#[10]⟩).run Tryz.prog w = .ok (.string ((⟨#[114, 111, 117, 110, 100, 105, 110, 103, 32]⟩ ++ ⟨z.toArray⟩) ++ ⟨#[10]⟩)) w := fun w => run_string_add_sum _ _ _ (by rw [ByteArray.size_append, show (⟨#[114, 111, 117, 110, 100, 105, 110, 103, 32]⟩ : ByteArray).size = 9 from rfl, show (⟨#[10]⟩ : ByteArray).size = 1 from rfl]; omega)
    go_enter Tryz.func28, Tryz.ntmps28
    go_wp2_with (first
      | rw [← hW0]
      | (refine (vJ.calls k a0_0 A0_1 c0_1 l0_1 true W0 (Kd.qW hr0_1 hB0) uG ht).mono ?_; rintro e w1 ⟨rfl, hb1⟩
         have hs1 := hb1.size; have hB2 : Below W0.heap.size W0 (w1.alloc (.cells #[.pointer none, .slice none 0 0] 76)) := qJ hb1 _; have Y0 := (hB2.block _ (by omega)).trans X0; have y00 := (zC Y0 0).trans (show _ = some (Value.int .i64 a0_0) from rfl); have y01 := (zC Y0 1).trans (show _ = some (Value.slice A0_1 l0_1.length c0_1) from rfl); have hB3 := zF hB0 hB2; have hW1 := (hB3.cell (World.block_lt_of_cell? _ _ hW)).trans hW))
    have HBu0 := Lib.IsBuilderF.of (Lib.fresh_isBuilder 76 5 w1); refine (zMQ w1.heap.size w1.heap.size [] _ _ HBu0 (by rw [ByteArray.size_append, ByteArray.size_append, show (⟨#[114, 111, 117, 110, 100, 105, 110, 103, 32]⟩ : ByteArray).size = 9 from rfl, show (⟨#[10]⟩ : ByteArray).size = 1 from rfl]; simp only [List.length_nil]; omega)).mono ?_; rintro e w3 ⟨⟨n3, rfl⟩, hbu3, hb3, hk3⟩; have HW1 : zA (w.heap.size ≤ w1.heap.size) := ⟨by omega⟩; have Y3 := (hb3.block w.heap.size (by omega)).trans Y0; have y30 := (zC Y3 0).trans (show _ = some (Value.int .i64 a0_0) from rfl); have y31 := (zC Y3 1).trans (show _ = some (Value.slice A0_1 l0_1.length c0_1) from rfl); have HBu := zA.mk hbu3; have HB := zA.mk (zJM hB3 hb3 HW1.out); have HR0 := zA.mk hr0_1; have HG := zA.mk hG; have H' := zA.mk h; clear h hr0_1 hG; go_wp2; go_loopg [20] k (fun kq v20 w' => ∃ (x : Int) (acc : List UInt8), v20 = .int .i64 x ∧ zA (vI.l0 kq l0_1 acc x = some (r1, r2)) ∧ zA (kq ≤ k) ∧ zA (Lib.IsBuilderF 76 5 w1.heap.size w1.heap.size (Lib.byteCells acc) w') ∧ zA (Below w.heap.size w w'))
    case atStart => exact ⟨0, _, rfl, H', ⟨Nat.le_refl _⟩, HBu, HB⟩
    case round =>
      clear H' HBu HB; obtain ⟨x, acc, rfl, HA, HK1, HBu, HB⟩ := hrel
      cases gk with
      | zero => exact absurd HA.out (by simp [vI.l0])
      | succ k1 =>
        have H := HA.out; clear HA; simp only [vI.l0] at H; by_cases c2 : x < (l0_1.length : Int)
        · rw [if_pos c2] at H
          have c2b : decide (x < (l0_1.length : Int)) = true := decide_eq_true c2; by_cases c3 : 0 ≤ x
          · rw [if_pos c3] at H
            have c3b : decide (0 ≤ x) = true := decide_eq_true c3; obtain ⟨s, hs, H⟩ := Option.bind_eq_some_iff.mp H; obtain ⟨acc2, ha, H⟩ := Option.bind_eq_some_iff.mp H; obtain ⟨ta, hta, hs⟩ := Option.bind_eq_some_iff.mp hs; obtain ⟨tb, htb, hs⟩ := Option.bind_eq_some_iff.mp hs; obtain ⟨tc, htc, hs⟩ := Option.bind_eq_some_iff.mp hs; by_cases hsz : ta.size ≤ 100 ∧ tb.size ≤ 100 ∧ tc.size ≤ 100
            case neg => rw [if_neg hsz] at hs; cases hs
            rw [if_pos hsz] at hs; obtain rfl := Option.some.inj hs; unfold vI.app at ha; by_cases hln : acc.length + ((((((((⟨#[99, 108, 97, 115, 115, 32]⟩ ++ ta) ++ ⟨#[32, 102, 114, 111, 109, 32]⟩) ++ tb) ++ ⟨#[32, 97, 116, 32]⟩) ++ tc) ++ ⟨#[10]⟩)) : ByteArray).size ≤ 140737488355328
            case neg => rw [if_neg hln] at ha; cases ha
            rw [if_pos hln] at ha; obtain rfl := Option.some.inj ha; have HLEN := zA.mk hln; have HSZ := zA.mk hsz; have H' := zA.mk H; have HTA := zA.mk hta; have HTB := zA.mk htb; have HTC := zA.mk htc; clear H hta htb htc hs ha hln hsz; obtain ⟨ad1, e1, hy0, hy1, hy2⟩ := uM HR0.out x c3 c2; cases e1; replace hy0 := (HB.out.cell (World.block_lt_of_cell? w _ hy0)).trans hy0; replace hy1 := (HB.out.cell (World.block_lt_of_cell? w _ hy1)).trans hy1; replace hy2 := (HB.out.cell (World.block_lt_of_cell? w _ hy2)).trans hy2; replace c3 := eq_true c3; replace c2 := eq_true c2; go_wp2_with (first | ((with_reducible refine wF (N := 6) rfl ?_); refine wA ?hg (N := 6) ?hd (cs := #[.int .i64 0, .int .i64 0, .int .i64 0]) (t := 26) ?hr ?_; (case hd => rfl); (case hg => rfl); (case hr => first | (go_simp; done) | (go_simp; rfl)); intro gs hgs w14 hbox hb; have BK := zA.mk hbox; have GS := zA.mk hgs; have Hb14 := zA.mk hb; have HBu14 := zA.mk (zFR HBu.out hb); clear hbox hb hgs; have hcz0 : w14.cell? ⟨gs, 0, none⟩ = some (.int .i64 0) := (zC BK.out 0).trans rfl; have hcz1 : w14.cell? ⟨gs, 1, none⟩ = some (.int .i64 0) := (zC BK.out 1).trans rfl; have hcz2 : w14.cell? ⟨gs, 2, none⟩ = some (.int .i64 0) := (zC BK.out 2).trans rfl; have hfz2 := zB BK.out 2; have hfz0 := zB BK.out 0; have hfz1 := zB BK.out 1))
            have HbW : zA (Below wr.heap.size wr (((w14.setCell ⟨gs, 0, none⟩ (.int .i64 (zH l0_1 x).f0)).setCell ⟨gs, 1, none⟩ (.int .i64 (zH l0_1 x).f1)).setCell ⟨gs, 2, none⟩ (.int .i64 (zH l0_1 x).f2))) :=
              ⟨((Hb14.out.setCell (p := ⟨gs, 0, none⟩) (Nat.le_of_eq GS.out.symm) _).setCell (p := ⟨gs, 1, none⟩) (Nat.le_of_eq GS.out.symm) _).setCell (p := ⟨gs, 2, none⟩) (Nat.le_of_eq GS.out.symm) _⟩
            have HX : zA ((((w14.setCell ⟨gs, 0, none⟩ (.int .i64 (zH l0_1 x).f0)).setCell ⟨gs, 1, none⟩ (.int .i64 (zH l0_1 x).f1)).setCell ⟨gs, 2, none⟩ (.int .i64 (zH l0_1 x).f2)).heap[gs]? = some (.cells #[.int .i64 (zH l0_1 x).f0, .int .i64 (zH l0_1 x).f1, .int .i64 (zH l0_1 x).f2] 26 (0, 0))) :=
              ⟨wE (cs := #[.int .i64 (zH l0_1 x).f0, .int .i64 (zH l0_1 x).f1, .int .i64 0]) (wE (cs := #[.int .i64 (zH l0_1 x).f0, .int .i64 0, .int .i64 0]) (wE (cs := #[.int .i64 0, .int .i64 0, .int .i64 0]) BK.out 0 _ rfl) 1 _ rfl) 2 _ rfl⟩
            generalize (((w14.setCell ⟨gs, 0, none⟩ (.int .i64 (zH l0_1 x).f0)).setCell ⟨gs, 1, none⟩ (.int .i64 (zH l0_1 x).f1)).setCell ⟨gs, 2, none⟩ (.int .i64 (zH l0_1 x).f2)) = W at HbW HX ⊢; have HBuW := zA.mk (zFR HBu.out HbW.out); have HBW := zA.mk (zF HB.out HbW.out); clear hcz0 hcz1 hcz2 hfz0 hfz1 hfz2 hy0 hy1 hy2 BK Hb14 HB HBu HbW HBu14; have hz0 : (⟨#[99, 108, 97, 115, 115, 32]⟩ : ByteArray).size = 6 := rfl; have hz1 : (⟨#[32, 102, 114, 111, 109, 32]⟩ : ByteArray).size = 6 := rfl; have hz2 : (⟨#[32, 97, 116, 32]⟩ : ByteArray).size = 4 := rfl; have hz3 : (⟨#[10]⟩ : ByteArray).size = 1 := rfl; have ha0 : ∀ w, (Op.stringOp .add ⟨#[99, 108, 97, 115, 115, 32]⟩ ta).run Tryz.prog w = .ok (.string (⟨#[99, 108, 97, 115, 115, 32]⟩ ++ ta)) w := fun w => run_string_add_sum _ _ _ (by have := HSZ.out; simp only [ByteArray.size_append, hz0, hz1, hz2, hz3]; omega)
            have ha1 : ∀ w, (Op.stringOp .add (⟨#[99, 108, 97, 115, 115, 32]⟩ ++ ta) ⟨#[32, 102, 114, 111, 109, 32]⟩).run Tryz.prog w = .ok (.string ((⟨#[99, 108, 97, 115, 115, 32]⟩ ++ ta) ++ ⟨#[32, 102, 114, 111, 109, 32]⟩)) w := fun w => run_string_add_sum _ _ _ (by have := HSZ.out; simp only [ByteArray.size_append, hz0, hz1, hz2, hz3]; omega)
            have ha2 : ∀ w, (Op.stringOp .add ((⟨#[99, 108, 97, 115, 115, 32]⟩ ++ ta) ++ ⟨#[32, 102, 114, 111, 109, 32]⟩) tb).run Tryz.prog w = .ok (.string (((⟨#[99, 108, 97, 115, 115, 32]⟩ ++ ta) ++ ⟨#[32, 102, 114, 111, 109, 32]⟩) ++ tb)) w := fun w => run_string_add_sum _ _ _ (by have := HSZ.out; simp only [ByteArray.size_append, hz0, hz1, hz2, hz3]; omega)
            have ha3 : ∀ w, (Op.stringOp .add (((⟨#[99, 108, 97, 115, 115, 32]⟩ ++ ta) ++ ⟨#[32, 102, 114, 111, 109, 32]⟩) ++ tb) ⟨#[32, 97, 116, 32]⟩).run Tryz.prog w = .ok (.string ((((⟨#[99, 108, 97, 115, 115, 32]⟩ ++ ta) ++ ⟨#[32, 102, 114, 111, 109, 32]⟩) ++ tb) ++ ⟨#[32, 97, 116, 32]⟩)) w := fun w => run_string_add_sum _ _ _ (by have := HSZ.out; simp only [ByteArray.size_append, hz0, hz1, hz2, hz3]; omega)
            have ha4 : ∀ w, (Op.stringOp .add ((((⟨#[99, 108, 97, 115, 115, 32]⟩ ++ ta) ++ ⟨#[32, 102, 114, 111, 109, 32]⟩) ++ tb) ++ ⟨#[32, 97, 116, 32]⟩) tc).run Tryz.prog w = .ok (.string (((((⟨#[99, 108, 97, 115, 115, 32]⟩ ++ ta) ++ ⟨#[32, 102, 114, 111, 109, 32]⟩) ++ tb) ++ ⟨#[32, 97, 116, 32]⟩) ++ tc)) w := fun w => run_string_add_sum _ _ _ (by have := HSZ.out; simp only [ByteArray.size_append, hz0, hz1, hz2, hz3]; omega)
            have ha5 : ∀ w, (Op.stringOp .add (((((⟨#[99, 108, 97, 115, 115, 32]⟩ ++ ta) ++ ⟨#[32, 102, 114, 111, 109, 32]⟩) ++ tb) ++ ⟨#[32, 97, 116, 32]⟩) ++ tc) ⟨#[10]⟩).run Tryz.prog w = .ok (.string ((((((⟨#[99, 108, 97, 115, 115, 32]⟩ ++ ta) ++ ⟨#[32, 102, 114, 111, 109, 32]⟩) ++ tb) ++ ⟨#[32, 97, 116, 32]⟩) ++ tc) ++ ⟨#[10]⟩)) w := fun w => run_string_add_sum _ _ _ (by have := HSZ.out; simp only [ByteArray.size_append, hz0, hz1, hz2, hz3]; omega)
            refine zBS (n := 16) (S := fun w' => w'.cell? ⟨gs, 0, none⟩ = some (.int .i64 (zH l0_1 x).f0) ∧ w'.cell? ⟨gs, 1, none⟩ = some (.int .i64 (zH l0_1 x).f1) ∧ w'.cell? ⟨gs, 2, none⟩ = some (.int .i64 (zH l0_1 x).f2) ∧ Lib.IsBuilderF 76 5 w1.heap.size w1.heap.size (Lib.byteCells acc) w' ∧ Below w.heap.size w w' ∧ GI w') (ds := [15]) #[false, false, false, false, false, false, false, false, false, false, false, false, false, false, false, false] (by kernel_rfl) rfl rfl ⟨(zC HX.out 0).trans rfl, (zC HX.out 1).trans rfl, (zC HX.out 2).trans rfl, HBuW.out, (yB HBW.out), (GI.below HG.out (yB HBW.out))⟩ (fun hHeld => ?_); generalize W.drew = Wd at hHeld ⊢; refine vD (i := 0) (N := some 24) (v := ?_) (a' := ?_) #[true, false, false, false, false, false, false, false, false, false, false, false, false, false, false, false] rfl rfl (by kernel_rfl) (fun _ _ _ h => h) (Or.inl ⟨by rfl, ?_⟩) ?_ ?_; rotate_left
            · intro w'
              go_simp; with_reducible rfl
            rotate_left
            · simp only [Act.put, sIA, sC0, sCS, wJ, wK]
              rfl
            refine vD (i := 5) (N := some 29) (v := ?_) (a' := ?_) #[true, false, false, false, false, true, false, false, false, false, false, false, false, false, false, false] rfl rfl (by kernel_rfl) (fun _ _ _ h => h) (Or.inl ⟨by rfl, ?_⟩) ?_ ?_; rotate_left
            · intro w'
              go_simp; with_reducible rfl
            rotate_left
            · simp only [Act.put, sIA, sC0, sCS, wJ, wK]
              rfl
            refine vD (i := 10) (N := some 34) (v := ?_) (a' := ?_) #[true, false, false, false, false, true, false, false, false, false, true, false, false, false, false, false] rfl rfl (by kernel_rfl) (fun _ _ _ h => h) (Or.inl ⟨by rfl, ?_⟩) ?_ ?_; rotate_left
            · intro w'
              go_simp; with_reducible rfl
            rotate_left
            · simp only [Act.put, sIA, sC0, sCS, wJ, wK]
              rfl
            refine kL (i := 1) (N := some 25) (v := ?_) (a' := ?_) #[true, true, false, false, false, true, false, false, false, false, true, false, false, false, false, false] rfl rfl (by kernel_rfl) (fun _ _ _ h => h) (Or.inl ⟨by rfl, ?_⟩) hHeld ?_ ?_; rotate_left
            · rintro w' ⟨s0, s1, s2, s3, s4, s5⟩
              go_simp; with_reducible rfl
            rotate_left
            · simp only [Act.put, sIA, sC0, sCS, wJ, wK]
              rfl
            refine kL (i := 6) (N := some 30) (v := ?_) (a' := ?_) #[true, true, false, false, false, true, true, false, false, false, true, false, false, false, false, false] rfl rfl (by kernel_rfl) (fun _ _ _ h => h) (Or.inl ⟨by rfl, ?_⟩) hHeld ?_ ?_; rotate_left
            · rintro w' ⟨s0, s1, s2, s3, s4, s5⟩
              go_simp; with_reducible rfl
            rotate_left
            · simp only [Act.put, sIA, sC0, sCS, wJ, wK]
              rfl
            refine kL (i := 11) (N := some 35) (v := ?_) (a' := ?_) #[true, true, false, false, false, true, true, false, false, false, true, true, false, false, false, false] rfl rfl (by kernel_rfl) (fun _ _ _ h => h) (Or.inl ⟨by rfl, ?_⟩) hHeld ?_ ?_; rotate_left
            · rintro w' ⟨s0, s1, s2, s3, s4, s5⟩
              go_simp; with_reducible rfl
            rotate_left
            · simp only [Act.put, sIA, sC0, sCS, wJ, wK]
              rfl
            refine one_ (i := 2) (N := some 26) #[true, true, true, false, false, true, true, false, false, false, true, true, false, false, false, false] rfl rfl (by kernel_rfl) (by decide) (fun K hK => ?_); refine zDC Tryz.func53 (by kernel_rfl) rfl #[.int .i64 ((zH l0_1 x).f0)] (by rfl) rfl rfl (by simp only [List.map_toArray, List.map_cons, List.map_nil]; rfl) ?_; with_reducible refine (strconv_Itoa.calls _ _ _ hHeld.2.2.2.2.2 HTA.out).mono ?_
            rintro e w3 ⟨rfl, hb3⟩; refine ⟨_, rfl, ?_⟩; refine hK.out _ _ ⟨((hb3.cell (World.block_lt_of_cell? _ _ (hHeld.1))).trans (hHeld.1)), ((hb3.cell (World.block_lt_of_cell? _ _ (hHeld.2.1))).trans (hHeld.2.1)), ((hb3.cell (World.block_lt_of_cell? _ _ (hHeld.2.2.1))).trans (hHeld.2.2.1)), zFR (hHeld.2.2.2.1) hb3, zF (hHeld.2.2.2.2.1) hb3, GI.below (hHeld.2.2.2.2.2) hb3⟩ (fun hHeld => ?_); clear hK K; refine uB (a' := ?_) ?_ ?_; rotate_left
            · show Act.put _ (some 26) _ = _
              simp only [Act.put, sIA, sC0, sCS, wJ, wK]; rfl
            refine vD (i := 3) (N := some 27) (v := ?_) (a' := ?_) #[true, true, true, true, false, true, true, false, false, false, true, true, false, false, false, false] rfl rfl (by kernel_rfl) (fun _ _ _ h => h) (Or.inl ⟨by rfl, ?_⟩) ?_ ?_; rotate_left
            · intro w'
              go_simp; with_reducible rfl
            rotate_left
            · simp only [Act.put, sIA, sC0, sCS, wJ, wK]
              rfl
            refine vD (i := 4) (N := some 28) (v := ?_) (a' := ?_) #[true, true, true, true, true, true, true, false, false, false, true, true, false, false, false, false] rfl rfl (by kernel_rfl) (fun _ _ _ h => h) (Or.inl ⟨by rfl, ?_⟩) ?_ ?_; rotate_left
            · intro w'
              go_simp; with_reducible rfl
            rotate_left
            · simp only [Act.put, sIA, sC0, sCS, wJ, wK]
              rfl
            refine one_ (i := 7) (N := some 31) #[true, true, true, true, true, true, true, true, false, false, true, true, false, false, false, false] rfl rfl (by kernel_rfl) (by decide) (fun K hK => ?_); refine zDC Tryz.func53 (by kernel_rfl) rfl #[.int .i64 ((zH l0_1 x).f1)] (by rfl) rfl rfl (by simp only [List.map_toArray, List.map_cons, List.map_nil]; rfl) ?_; with_reducible refine (strconv_Itoa.calls _ _ _ hHeld.2.2.2.2.2 HTB.out).mono ?_
            rintro e w3 ⟨rfl, hb3⟩; refine ⟨_, rfl, ?_⟩; refine hK.out _ _ ⟨((hb3.cell (World.block_lt_of_cell? _ _ (hHeld.1))).trans (hHeld.1)), ((hb3.cell (World.block_lt_of_cell? _ _ (hHeld.2.1))).trans (hHeld.2.1)), ((hb3.cell (World.block_lt_of_cell? _ _ (hHeld.2.2.1))).trans (hHeld.2.2.1)), zFR (hHeld.2.2.2.1) hb3, zF (hHeld.2.2.2.2.1) hb3, GI.below (hHeld.2.2.2.2.2) hb3⟩ (fun hHeld => ?_); clear hK K; refine uB (a' := ?_) ?_ ?_; rotate_left
            · show Act.put _ (some 31) _ = _
              simp only [Act.put, sIA, sC0, sCS, wJ, wK]; rfl
            refine vD (i := 8) (N := some 32) (v := ?_) (a' := ?_) #[true, true, true, true, true, true, true, true, true, false, true, true, false, false, false, false] rfl rfl (by kernel_rfl) (fun _ _ _ h => h) (Or.inl ⟨by rfl, ?_⟩) ?_ ?_; rotate_left
            · intro w'
              go_simp; with_reducible rfl
            rotate_left
            · simp only [Act.put, sIA, sC0, sCS, wJ, wK]
              rfl
            refine vD (i := 9) (N := some 33) (v := ?_) (a' := ?_) #[true, true, true, true, true, true, true, true, true, true, true, true, false, false, false, false] rfl rfl (by kernel_rfl) (fun _ _ _ h => h) (Or.inl ⟨by rfl, ?_⟩) ?_ ?_; rotate_left
            · intro w'
              go_simp; with_reducible rfl
            rotate_left
            · simp only [Act.put, sIA, sC0, sCS, wJ, wK]
              rfl
            refine one_ (i := 12) (N := some 36) #[true, true, true, true, true, true, true, true, true, true, true, true, true, false, false, false] rfl rfl (by kernel_rfl) (by decide) (fun K hK => ?_); refine zDC Tryz.func53 (by kernel_rfl) rfl #[.int .i64 ((zH l0_1 x).f2)] (by rfl) rfl rfl (by simp only [List.map_toArray, List.map_cons, List.map_nil]; rfl) ?_; with_reducible refine (strconv_Itoa.calls _ _ _ hHeld.2.2.2.2.2 HTC.out).mono ?_
            rintro e w3 ⟨rfl, hb3⟩; refine ⟨_, rfl, ?_⟩; refine hK.out _ _ ⟨((hb3.cell (World.block_lt_of_cell? _ _ (hHeld.1))).trans (hHeld.1)), ((hb3.cell (World.block_lt_of_cell? _ _ (hHeld.2.1))).trans (hHeld.2.1)), ((hb3.cell (World.block_lt_of_cell? _ _ (hHeld.2.2.1))).trans (hHeld.2.2.1)), zFR (hHeld.2.2.2.1) hb3, zF (hHeld.2.2.2.2.1) hb3, GI.below (hHeld.2.2.2.2.2) hb3⟩ (fun hHeld => ?_); clear hK K; refine uB (a' := ?_) ?_ ?_; rotate_left
            · show Act.put _ (some 36) _ = _
              simp only [Act.put, sIA, sC0, sCS, wJ, wK]; rfl
            refine vD (i := 13) (N := some 37) (v := ?_) (a' := ?_) #[true, true, true, true, true, true, true, true, true, true, true, true, true, true, false, false] rfl rfl (by kernel_rfl) (fun _ _ _ h => h) (Or.inl ⟨by rfl, ?_⟩) ?_ ?_; rotate_left
            · intro w'
              go_simp; with_reducible rfl
            rotate_left
            · simp only [Act.put, sIA, sC0, sCS, wJ, wK]
              rfl
            refine vD (i := 14) (N := some 38) (v := ?_) (a' := ?_) #[true, true, true, true, true, true, true, true, true, true, true, true, true, true, true, false] rfl rfl (by kernel_rfl) (fun _ _ _ h => h) (Or.inl ⟨by rfl, ?_⟩) ?_ ?_; rotate_left
            · intro w'
              go_simp; with_reducible rfl
            rotate_left
            · simp only [Act.put, sIA, sC0, sCS, wJ, wK]
              rfl
            refine last_ (i := 15) (N := some 39) #[true, true, true, true, true, true, true, true, true, true, true, true, true, true, true, true] rfl rfl (by kernel_rfl) (by decide) (fun K hK => ?_); refine zDC Tryz.func52 (by kernel_rfl) rfl #[.pointer (some ⟨w1.heap.size, 0, none⟩), .string (((((((⟨#[99, 108, 97, 115, 115, 32]⟩ ++ ta) ++ ⟨#[32, 102, 114, 111, 109, 32]⟩) ++ tb) ++ ⟨#[32, 97, 116, 32]⟩) ++ tc) ++ ⟨#[10]⟩))] (by rfl) rfl rfl (by simp only [List.map_toArray, List.map_cons, List.map_nil]; rfl) ?_; with_reducible refine (zMQ _ _ _ _ _ (hHeld.2.2.2.1) HLEN.out).mono ?_
            rintro e w3 ⟨⟨n3, rfl⟩, hbu3, hb3, hk3⟩; have HBu2 := zA.mk hbu3; have HB2 := zA.mk (zJM (hHeld.2.2.2.2.1) hb3 HW1.out); clear hbu3 hb3 hk3; refine ⟨_, rfl, ?_⟩; refine hK.out _ _ ?_; clear hK K; refine uB (a' := ?_) ?_ ?_; rotate_left
            · show Act.put _ (some 39) _ = _
              simp only [Act.put, sIA, sC0, sCS, wJ, wK]; rfl
            refine zFQ (by kernel_rfl) ?_; clear ha0 ha1 ha2 ha3 ha4 ha5; go_wp2; go_roundg k1
            case measure => have := HK1.out; omega
            case rel => exact ⟨wrap64 (x + 1), _, rfl, H', ⟨by have := HK1.out; omega⟩, HBu2, HB2⟩
          · rw [if_neg c3] at H
            cases H
        · rw [if_neg c2] at H
          have c2b : decide (x < (l0_1.length : Int)) = false := decide_eq_false c2; clear c2; obtain ⟨rfl, rfl⟩ := Prod.mk.inj (Option.some.inj H); go_wp2_with (go_at_call 54; refine (Tryz.Builder_String_any_k _ _ acc _ HBu.out (zWD HBu.out)).mono ?_)
          intro e w9 he hq1 hb9 hq2; subst he; go_wp2; go_ret2
          exact ⟨rfl, zJM HB.out hb9 HW1.out⟩
def stringslite_HasPrefix.f (a0 : ByteArray) (a1 : ByteArray) : Option (Bool) := if (a0.size : Int) ≥ (a1.size : Int) then (if 0 ≤ (a1.size : Int) then (if (a1.size : Int) ≤ (a0.size : Int) then (some ((a0.extract 0 ((a1.size : Int) : Int).toNat).toList == a1.toList)) else (none)) else (none)) else (some false)
set_option maxHeartbeats 8000000 in
set_option maxRecDepth 100000 in
theorem stringslite_HasPrefix.calls (a0 : ByteArray) (a1 : ByteArray) (r : Bool) (w : World) (h : stringslite_HasPrefix.f a0 a1 = some r) :
  Calls Tryz.prog 80 #[.string a0, .string a1] w fun e w' => e = .returned (.bool r) ∧ wR w w' := by
 have H : (if (a0.size : Int) ≥ (a1.size : Int) then (if 0 ≤ (a1.size : Int) then (if (a1.size : Int) ≤ (a0.size : Int) then (some ((a0.extract 0 ((a1.size : Int) : Int).toNat).toList == a1.toList)) else (none)) else (none)) else (some false)) = some r := h; clear h; by_cases c3 : (a0.size : Int) ≥ (a1.size : Int)
 ·
  rw [if_pos c3] at H; have c3b0 : decide ((a1.size : Int) ≤ (a0.size : Int)) = true := decide_eq_true c3; have c3b1 : decide (a1.size ≤ a0.size) = true := decide_eq_true (Int.ofNat_le.mp c3); clear c3; by_cases c4 : 0 ≤ (a1.size : Int)
  ·
   rw [if_pos c4] at H; have c4b0 := eq_true c4; have c4b1 : decide (0 ≤ (a1.size : Int)) = true := decide_eq_true c4; clear c4; by_cases c5 : (a1.size : Int) ≤ (a0.size : Int)
   ·
    rw [if_pos c5] at H; have c5b0 := eq_true c5; have c5b1 : decide ((a1.size : Int) ≤ (a0.size : Int)) = true := decide_eq_true c5; clear c5; obtain rfl := Option.some.inj H; go_enter Tryz.func80, Tryz.ntmps80
    go_wp2; go_ret
    exact ⟨by first | rfl | (simp; done) | (simp [*]; done), by repeat (first | exact wR.refl _ | apply wR.step)⟩
   · rw [if_neg c5] at H; exact absurd H (by simp)
  · rw [if_neg c4] at H; exact absurd H (by simp)
 ·
  rw [if_neg c3] at H; have c3b0 : decide ((a1.size : Int) ≤ (a0.size : Int)) = false := decide_eq_false c3; have c3b1 : decide (a1.size ≤ a0.size) = false := decide_eq_false (fun h => c3 (Int.ofNat_le.mpr h)); clear c3; obtain rfl := Option.some.inj H; go_enter Tryz.func80, Tryz.ntmps80
  go_wp2; go_ret
  exact ⟨by first | rfl | (simp; done) | (simp [*]; done), by repeat (first | exact wR.refl _ | apply wR.step)⟩
def jD.f (a0 : ByteArray) (a1 : ByteArray) : Option (ByteArray × Bool) := (stringslite_HasPrefix.f a0 a1).bind fun t185 => (if t185 = true then (if 0 ≤ (a1.size : Int) then (if (a1.size : Int) ≤ (a0.size : Int) then (some (a0.extract ((a1.size : Int) : Int).toNat a0.size, true)) else (none)) else (none)) else (some (a0, false)))
set_option maxHeartbeats 8000000 in
set_option maxRecDepth 100000 in
theorem jD.calls (a0 : ByteArray) (a1 : ByteArray) (r1 : ByteArray) (r2 : Bool) (w : World) (h : jD.f a0 a1 = some (r1, r2)) :
  Calls Tryz.prog 72 #[.string a0, .string a1] w fun e w' => e = .returned (.tuple #[.string r1, .bool r2]) ∧ wR w w' := by
 have H : ((stringslite_HasPrefix.f a0 a1).bind fun t185 => (if t185 = true then (if 0 ≤ (a1.size : Int) then (if (a1.size : Int) ≤ (a0.size : Int) then (some (a0.extract ((a1.size : Int) : Int).toNat a0.size, true)) else (none)) else (none)) else (some (a0, false)))) = some (r1, r2) := h; clear h; replace H := Option.bind_eq_some_iff.mp H; obtain ⟨t185, A30, H⟩ := H; replace H : (if t185 = true then (if 0 ≤ (a1.size : Int) then (if (a1.size : Int) ≤ (a0.size : Int) then (some (a0.extract ((a1.size : Int) : Int).toNat a0.size, true)) else (none)) else (none)) else (some (a0, false))) = some (r1, r2) := H; have A3 := zA.mk A30; clear A30; by_cases c4 : t185 = true
 ·
  subst c4; have H1 : (if 0 ≤ (a1.size : Int) then (if (a1.size : Int) ≤ (a0.size : Int) then (some (a0.extract ((a1.size : Int) : Int).toNat a0.size, true)) else (none)) else (none)) = some (r1, r2) := by rw [if_pos rfl] at H; exact H
  clear H; have H := H1; clear H1; by_cases c5 : 0 ≤ (a1.size : Int)
  ·
   rw [if_pos c5] at H; have c5b0 := eq_true c5; have c5b1 : decide (0 ≤ (a1.size : Int)) = true := decide_eq_true c5; clear c5; by_cases c6 : (a1.size : Int) ≤ (a0.size : Int)
   ·
    rw [if_pos c6] at H; have c6b0 := eq_true c6; have c6b1 : decide ((a1.size : Int) ≤ (a0.size : Int)) = true := decide_eq_true c6; clear c6; simp only [Option.some.injEq, Prod.mk.injEq] at H; obtain ⟨rfl, rfl⟩ := H; go_enter Tryz.func72, Tryz.ntmps72
    go_wp2_with (first | ((with_reducible refine zQ (f := 80) rfl ?_); refine vB (some 8) rfl rfl Tryz.func80 (by kernel_rfl) rfl #[.string a0, .string a1] rfl (by (try simp only [List.map_toArray, List.map_cons, List.map_nil]); first | done | rfl | (simp only [List.length_drop, List.length_take]; rfl)) ?_; (with_reducible refine (stringslite_HasPrefix.calls a0 a1 true _ A3.out).mono ?_); rintro e w' ⟨rfl, ⟨nd, rfl⟩⟩; refine ⟨_, rfl, ?_⟩))
    go_ret2
    exact ⟨by first | rfl | (simp; done) | (simp [*]; done), by repeat (first | exact wR.refl _ | apply wR.step)⟩
   · rw [if_neg c6] at H; exact absurd H (by simp)
  · rw [if_neg c5] at H; exact absurd H (by simp)
 ·
  replace c4 := Bool.eq_false_iff.mpr c4; subst c4; have H1 : (some (a0, false)) = some (r1, r2) := by rw [if_neg (show ¬ (false = true) by decide)] at H; exact H
  clear H; have H := H1; clear H1; simp only [Option.some.injEq, Prod.mk.injEq] at H; obtain ⟨rfl, rfl⟩ := H; go_enter Tryz.func72, Tryz.ntmps72
  go_wp2_with (first | ((with_reducible refine zQ (f := 80) rfl ?_); refine vB (some 8) rfl rfl Tryz.func80 (by kernel_rfl) rfl #[.string a0, .string a1] rfl (by (try simp only [List.map_toArray, List.map_cons, List.map_nil]); first | done | rfl | (simp only [List.length_drop, List.length_take]; rfl)) ?_; (with_reducible refine (stringslite_HasPrefix.calls a0 a1 false _ A3.out).mono ?_); rintro e w' ⟨rfl, ⟨nd, rfl⟩⟩; refine ⟨_, rfl, ?_⟩))
  go_ret2
  exact ⟨by first | rfl | (simp; done) | (simp [*]; done), by repeat (first | exact wR.refl _ | apply wR.step)⟩
def yT.f (a0 : ByteArray) (a1 : ByteArray) : Option (ByteArray × Bool) := (jD.f a0 a1).bind fun bt186 => (some (bt186.1, bt186.2))
set_option maxHeartbeats 8000000 in
set_option maxRecDepth 100000 in
theorem yT.calls (a0 : ByteArray) (a1 : ByteArray) (r1 : ByteArray) (r2 : Bool) (w : World) (h : yT.f a0 a1 = some (r1, r2)) :
  Calls Tryz.prog 58 #[.string a0, .string a1] w fun e w' => e = .returned (.tuple #[.string r1, .bool r2]) ∧ wR w w' := by
 have H : ((jD.f a0 a1).bind fun bt186 => (some (bt186.1, bt186.2))) = some (r1, r2) := h; clear h; replace H := Option.bind_eq_some_iff.mp H; obtain ⟨⟨t186, t187⟩, A30, H⟩ := H; replace H : (some (t186, t187)) = some (r1, r2) := H; have A3 := zA.mk A30; clear A30; simp only [Option.some.injEq, Prod.mk.injEq] at H; obtain ⟨rfl, rfl⟩ := H; go_enter Tryz.func58, Tryz.ntmps58
 go_wp2_with (first | ((with_reducible refine zQ (f := 72) rfl ?_); refine vB (some 8) rfl rfl Tryz.func72 (by kernel_rfl) rfl #[.string a0, .string a1] rfl (by (try simp only [List.map_toArray, List.map_cons, List.map_nil]); first | done | rfl | (simp only [List.length_drop, List.length_take]; rfl)) ?_; (with_reducible refine (jD.calls a0 a1 t186 t187 _ A3.out).mono ?_); rintro e w' ⟨rfl, ⟨nd, rfl⟩⟩; refine ⟨_, rfl, ?_⟩))
 go_ret2
 exact ⟨by first | rfl | (simp; done) | (simp [*]; done), by repeat (first | exact wR.refl _ | apply wR.step)⟩
def wI.l0 : Nat → List ByteArray → ByteArray → Int → Int → Option (Int)
 | 0, _, _, _, _ => none
 | k + 1, x0, x1, x7, x8 => if x8 < x7 then (if 0 ≤ x8 then (if x8 < (x0.length : Int) then (if x1.toList = (rdOf ByteArray.empty x0 x8).toList then (some x8) else (wI.l0 k x0 x1 x7 (wrap64 (x8 + 1)))) else (none)) else (none)) else (some (-1))
def wI.f (k : Nat) (l0 : List ByteArray) (a1 : ByteArray) : Option (Int) := wI.l0 k l0 a1 (l0.length : Int) 0
set_option maxHeartbeats 8000000 in
set_option maxRecDepth 100000 in
theorem wI.calls (k : Nat) (A0 : Option Addr) (c0 : Nat) (l0 : List ByteArray) (a1 : ByteArray) (r : Int) (w : World) (hr0 : Kd.C Kd.string w A0 l0.length l0) (hc0 : l0.length ≤ c0) (h : wI.f k l0 a1 = some r) :
  Calls Tryz.prog 59 #[.slice A0 l0.length c0, .string a1] w fun e w' => e = .returned (.int .i64 r) ∧ wR w w' := by
 have HR0 := zA.mk hr0; have HC0 := zA.mk hc0; clear hr0 hc0; have H : (wI.l0 k l0 a1 (l0.length : Int) 0) = some r := h; clear h; have H' := zA.mk H; clear H; go_enter Tryz.func59, Tryz.ntmps59
 go_wp2; go_loopg [8] k (fun kq v8 w' => ∃ (x8_1 : Int), v8 = .int .i64 x8_1 ∧ zA (wI.l0 kq l0 a1 (l0.length : Int) x8_1 = some r) ∧ zA (kq ≤ k) ∧ wR w w')
 case atStart => exact ⟨(0), (by first | rfl | (simp; done) | (simp [*]; done)), H', ⟨Nat.le_refl _⟩, by repeat (first | exact wR.refl _ | apply wR.step)⟩
 case round =>
  clear H'; try clear p2
  obtain ⟨x8_1, rfl, HA, HK1, ⟨m1, rfl⟩⟩ := hrel
  cases gk with
  | zero => exact absurd HA.out (by simp [wI.l0])
  | succ k1 =>
   have H := HA.out; clear HA; simp only [wI.l0] at H; by_cases c3 : x8_1 < (l0.length : Int)
   ·
    rw [if_pos c3] at H; have c3b0 : decide (x8_1 < (l0.length : Int)) = true := decide_eq_true c3; clear c3; by_cases c4 : 0 ≤ x8_1
    ·
     rw [if_pos c4] at H; have c4b0 : decide (0 ≤ x8_1) = true := decide_eq_true c4; clear c4; by_cases c5 : x8_1 < (l0.length : Int)
     ·
      rw [if_pos c5] at H; have c5b0 : decide (x8_1 < (l0.length : Int)) = true := decide_eq_true c5; clear c5; by_cases c6 : a1.toList = (rdOf ByteArray.empty l0 x8_1).toList
      ·
       rw [if_pos c6] at H; have c6b0 : (a1.toList == (rdOf ByteArray.empty l0 x8_1).toList) = true := beq_iff_eq.mpr c6; have c6b1 : (a1.toList != (rdOf ByteArray.empty l0 x8_1).toList) = false := bne_eq_false_iff_eq.mpr c6; clear c6; obtain rfl := Option.some.inj H; have p188 : 0 ≤ (x8_1 : Int) := of_decide_eq_true (by first | (with_reducible assumption) | assumption); have q188 : x8_1 < (l0.length : Int) := of_decide_eq_true (by first | (with_reducible assumption) | assumption); obtain ⟨ad188, e188, hx188_0⟩ := Kd.wH HR0.out x8_1 p188 q188; cases e188; replace p188 := eq_true p188; replace q188 := eq_true q188; go_wp2; go_ret
       exact ⟨by first | rfl | (simp; done) | (simp [*]; done), by repeat (first | exact wR.refl _ | apply wR.step)⟩
      ·
       rw [if_neg c6] at H; have c6b0 : (a1.toList == (rdOf ByteArray.empty l0 x8_1).toList) = false := beq_eq_false_iff_ne.mpr c6; have c6b1 : (a1.toList != (rdOf ByteArray.empty l0 x8_1).toList) = true := bne_iff_ne.mpr c6; have H' := zA.mk H; clear H; have p188 : 0 ≤ (x8_1 : Int) := of_decide_eq_true (by first | (with_reducible assumption) | assumption); have q188 : x8_1 < (l0.length : Int) := of_decide_eq_true (by first | (with_reducible assumption) | assumption); obtain ⟨ad188, e188, hx188_0⟩ := Kd.wH HR0.out x8_1 p188 q188; cases e188; replace p188 := eq_true p188; replace q188 := eq_true q188; go_wp2; go_roundg k1
       case measure => have := HK1.out; omega
       case rel => exact ⟨(wrap64 (x8_1 + 1)), (by first | rfl | (simp; done) | (simp [*]; done)), H', ⟨by have := HK1.out; omega⟩, by repeat (first | exact wR.refl _ | apply wR.step)⟩
     · rw [if_neg c5] at H; exact absurd H (by simp)
    · rw [if_neg c4] at H; exact absurd H (by simp)
   ·
    rw [if_neg c3] at H; have c3b0 : decide (x8_1 < (l0.length : Int)) = false := decide_eq_false c3; clear c3; obtain rfl := Option.some.inj H; go_wp2; go_ret
    exact ⟨by first | rfl | (simp; done) | (simp [*]; done), by repeat (first | exact wR.refl _ | apply wR.step)⟩
end Go.Proofs.YtholbmidciapdaaGreatDoor.Pr
namespace Go.Proofs.YtholbmidciapdaaGreatDoor.Pr
open Go.RowKit Go.Proofs.YtholbmidciapdaaGreatDoorW.PrintWords Go.Proofs.YtholbmidciapdaaGreatDoorW.PrintLast Go.Proofs.YtholbmidciapdaaGreatDoorW.PrintMore Go.Proofs.YtholbmidciapdaaGreatDoor.X
attribute [local go_sem] uR uP kP kO jN jM uQ uO   -- for this text's walks alone
set_option linter.unusedVariables false
set_option linter.unusedSimpArgs false
def zZ.l0 : Nat → List (S26) → Int → Int → Int → Int → Int → Int → Option (Int × Bool)
 | 0, _, _, _, _, _, _, _ => none
 | k + 1, x0, x8, x9, x10, zNR, zNQ, zNP => if x9 < x10 then (if 0 ≤ (wrap64 ((IntKind.u64.wrap (wrap64 (x9 + x10))) / 2)) then (if (wrap64 ((IntKind.u64.wrap (wrap64 (x9 + x10))) / 2)) < (x0.length : Int) then ((vM.f k ((zH x0 (wrap64 ((IntKind.u64.wrap (wrap64 (x9 + x10))) / 2))).f0) ((zH x0 (wrap64 ((IntKind.u64.wrap (wrap64 (x9 + x10))) / 2))).f1) ((zH x0 (wrap64 ((IntKind.u64.wrap (wrap64 (x9 + x10))) / 2))).f2) zNR zNQ zNP).bind fun t128 => (if t128 < 0 then (zZ.l0 k x0 x8 (wrap64 ((wrap64 ((IntKind.u64.wrap (wrap64 (x9 + x10))) / 2)) + 1)) x10 zNR zNQ zNP) else (zZ.l0 k x0 x8 x9 (wrap64 ((IntKind.u64.wrap (wrap64 (x9 + x10))) / 2)) zNR zNQ zNP))) else (none)) else (none)) else (if x9 < x8 then (if 0 ≤ x9 then (if x9 < (x0.length : Int) then ((vM.f k ((zH x0 x9).f0) ((zH x0 x9).f1) ((zH x0 x9).f2) zNR zNQ zNP).bind fun t130 => (some (x9, (t130 == 0)))) else (none)) else (none)) else (some (x9, false)))
def zZ.f (k : Nat) (l0 : List (S26)) (a1_0 : Int) (a1_1 : Int) (a1_2 : Int)  : Option (Int × Bool) := zZ.l0 k l0 (l0.length : Int) 0 (l0.length : Int) a1_0 a1_1 a1_2
def zZ.T5 : Bool × List (List Nat × List Nat) := (true, [([], []), ([], []), ([], []), ([1, 2], [1, 2]), ([3], [3]), ([], []), ([0, 4, 5], [0, 4, 5]), ([6], [6])])
def zZ.B5 : List Nat := [0, 0, 0, 6, 14, 0, 63, 127]
theorem zZ.tab5 : rtab .any (opsOf Tryz.f42 5) = zZ.T5 := by kernel_rfl
theorem zZ.zXC : zBX zZ.T5.2 zZ.B5 = true := by kernel_rfl
def zZ.T8 : Bool × List (List Nat × List Nat) := (true, [([], []), ([], []), ([], []), ([1, 2], [1, 2]), ([3], [3]), ([4], [4]), ([4], [4]), ([4], [4]), ([6, 7, 4], [4, 6, 7]), ([8, 4], [4, 8]), ([4], [4]), ([5, 9, 10, 4, 4], [4, 5, 9, 10]), ([11, 4], [4, 11]), ([4, 12], [4, 12]), ([0, 11, 0], [0]), ([13, 14, 0, 1, 2, 3, 4, 5, 6, 7, 8, 9, 10, 11, 12, 13, 14], [13])])
def zZ.B8 : List Nat := [0, 0, 0, 6, 14, 30, 30, 30, 222, 478, 30, 2046, 4094, 8190, 4095, 32767]
theorem zZ.tab8 : rtab .any (opsOf Tryz.f42 8) = zZ.T8 := by kernel_rfl
theorem zZ.bits8 : zBX zZ.T8.2 zZ.B8 = true := by kernel_rfl
set_option maxHeartbeats 8000000 in
set_option maxRecDepth 100000 in
theorem zZ.calls (k : Nat) (A0 : Option Addr) (c0 : Nat) (l0 : List (S26)) (a1_0 : Int) (a1_1 : Int) (a1_2 : Int)  (r1 : Int) (r2 : Bool) (w : World) (hr0 : Kd.C k26 w A0 l0.length l0) (hc0 : l0.length ≤ c0) (h : zZ.f k l0 a1_0 a1_1 a1_2 = some (r1, r2)) :
  Calls Tryz.prog 42 #[.slice A0 l0.length c0, .agg #[.int .i64 a1_0, .int .i64 a1_1, .int .i64 a1_2], .func (.func 37) #[] #[]] w fun e w' => e = .returned (.tuple #[.int .i64 r1, .bool r2]) ∧ Below w.heap.size w w' := by
 have hu26 := Tryz.underlying26; have HR0 := zA.mk hr0; have HC0 := zA.mk hc0; clear hr0 hc0; have HB := zA.mk (Below.refl w.heap.size w); have H : (zZ.l0 k l0 (l0.length : Int) 0 (l0.length : Int) a1_0 a1_1 a1_2) = some (r1, r2) := h; clear h; have H' := zA.mk H; clear H; go_enter Tryz.func42, Tryz.ntmps42
 go_wp2_with (first | ((with_reducible refine wF (N := 4) rfl ?_); refine wA ?hg (N := 4) ?hd (cs := #[.int .i64 a1_0, .int .i64 a1_1, .int .i64 a1_2]) (t := 26) ?hr ?_; (case hd => rfl); (case hg => rfl); (case hr => first | (go_simp; done) | (go_simp; rfl)); intro zJW hg w4 hbox hb; have n0_ := zA.mk (zF (eG HB.out) hb); have n1_ := zA.mk (hbox); have n2_ := zA.mk ((by rw [hg]; exact (zE (eG HB.out)) : w.heap.size ≤ zJW)); have n3_ := zA.mk ((by rw [hg]; exact (zE (eG HB.out)) : w.heap.size ≤ zJW)); clear HB; have HB := n0_; have uN := n1_; have GW126 := n2_; have GE126 := n3_; have ig126_ := geI GE126; clear n0_ n1_ n2_ n3_; clear hb hbox hg))
 go_loopg [9, 10] k (fun kq v9 v10 w' => ∃ (x9_1 : Int) (x10_1 : Int), v9 = .int .i64 x9_1 ∧ v10 = .int .i64 x10_1 ∧ zA (zZ.l0 kq l0 (l0.length : Int) x9_1 x10_1 a1_0 a1_1 a1_2 = some (r1, r2)) ∧ zA (kq ≤ k) ∧ zA (w'.heap[zJW]? = some (.cells #[.int .i64 a1_0, .int .i64 a1_1, .int .i64 a1_2] 26 (0, 0))) ∧ zA (Below w.heap.size w w'))
 case atStart => exact ⟨(0), ((l0.length : Int)), (by first | rfl | (simp; done) | (simp [*]; done)), (by first | rfl | (simp; done) | (simp [*]; done)), H', ⟨Nat.le_refl _⟩, ⟨by (with_reducible repeat first | apply bN | apply bD | apply bA); exact uN.out⟩, ⟨eG HB.out⟩⟩
 case round =>
  clear H'; repeat first | clear p2 | clear c4
  obtain ⟨x9_1, x10_1, rfl, rfl, HA, HK1, uN, HB⟩ := hrel
  cases gk with
  | zero => exact absurd HA.out (by simp [zZ.l0])
  | succ k1 =>
   have H := HA.out; clear HA; simp only [zZ.l0] at H; by_cases c5 : x9_1 < x10_1
   ·
    rw [if_pos c5] at H; have c5b0 : decide (x9_1 < x10_1) = true := decide_eq_true c5; clear c5; obtain ⟨ji6, hji6⟩ : ∃ j_ : Int, (wrap64 ((IntKind.u64.wrap (wrap64 (x9_1 + x10_1))) / 2)) = j_ := ⟨_, rfl⟩; replace H : (if 0 ≤ (ji6) then (if (ji6) < (l0.length : Int) then ((vM.f k1 ((zH l0 (ji6)).f0) ((zH l0 (ji6)).f1) ((zH l0 (ji6)).f2) a1_0 a1_1 a1_2).bind fun t128 => (if t128 < 0 then (zZ.l0 k1 l0 (l0.length : Int) (wrap64 ((ji6) + 1)) x10_1 a1_0 a1_1 a1_2) else (zZ.l0 k1 l0 (l0.length : Int) x9_1 ji6 a1_0 a1_1 a1_2))) else (none)) else (none)) = some (r1, r2) := by first | (rw [hji6] at H; exact H) | (simp only [hji6] at H ⊢; exact H)
    have hji6w : (IntKind.i64.wrap ((IntKind.u64.wrap (wrap64 (x9_1 + x10_1))) / 2)) = ji6 := (wJ _).trans hji6; by_cases c7 : 0 ≤ (ji6)
    ·
     rw [if_pos c7] at H; have c7b0 : decide (0 ≤ (ji6)) = true := decide_eq_true c7; clear c7; by_cases c8 : (ji6) < (l0.length : Int)
     ·
      rw [if_pos c8] at H; have c8b0 : decide ((ji6) < (l0.length : Int)) = true := decide_eq_true c8; clear c8; replace H := Option.bind_eq_some_iff.mp H; obtain ⟨t128, A90, H⟩ := H; replace H : (if t128 < 0 then (zZ.l0 k1 l0 (l0.length : Int) (wrap64 ((ji6) + 1)) x10_1 a1_0 a1_1 a1_2) else (zZ.l0 k1 l0 (l0.length : Int) x9_1 ji6 a1_0 a1_1 a1_2)) = some (r1, r2) := H; have A9 := zA.mk A90; clear A90; by_cases c10 : t128 < 0
      ·
       rw [if_pos c10] at H; have c10b0 : decide (t128 < 0) = true := decide_eq_true c10; clear c10; have H' := zA.mk H; clear H; try go_wp2
       have n0_ := zA.mk (yX uN.out); have n1_ := zA.mk (yB HB.out); clear uN; clear HB; have uN := n0_; have HB := n1_; clear n0_ n1_; have p127 : 0 ≤ ((ji6) : Int) := of_decide_eq_true (by first | (with_reducible assumption) | assumption); have q127 : (ji6) < (l0.length : Int) := of_decide_eq_true (by first | (with_reducible assumption) | assumption); obtain ⟨ad127, e127, zCY, zCX, zCW⟩ := uM HR0.out (ji6) p127 q127; have hw127_2 := zCW; have hw127_1 := zCX; have hw127_0 := zCY; cases e127; replace zCY := (HB.out.cell (World.block_lt_of_cell? w _ zCY)).trans zCY; replace zCX := (HB.out.cell (World.block_lt_of_cell? w _ zCX)).trans zCX; replace zCW := (HB.out.cell (World.block_lt_of_cell? w _ zCW)).trans zCW; replace p127 := eq_true p127; replace q127 := eq_true q127; refine zBS (n := 8) (S := fun w' => w'.cell? ⟨zJW, 0, none⟩ = some (.int .i64 a1_0) ∧ w'.cell? ⟨zJW, 1, none⟩ = some (.int .i64 a1_1) ∧ w'.cell? ⟨zJW, 2, none⟩ = some (.int .i64 a1_2) ∧ w'.cell? (ad127.add (((ji6)).toNat * 3)) = some (.int .i64 ((zH l0 (ji6)).f0)) ∧ w'.cell? ⟨(ad127.add (((ji6)).toNat * 3)).block, (ad127.add (((ji6)).toNat * 3)).off + 1, none⟩ = some (.int .i64 ((zH l0 (ji6)).f1)) ∧ w'.cell? ⟨(ad127.add (((ji6)).toNat * 3)).block, (ad127.add (((ji6)).toNat * 3)).off + 2, none⟩ = some (.int .i64 ((zH l0 (ji6)).f2))) (ds := []) #[false, false, false, false, false, false, false, false] (by kernel_rfl) rfl rfl ⟨(zC uN.out 0).trans rfl, (zC uN.out 1).trans rfl, (zC uN.out 2).trans rfl, ((HB.out.cell (World.block_lt_of_cell? w _ hw127_0)).trans hw127_0), ((HB.out.cell (World.block_lt_of_cell? w _ hw127_1)).trans hw127_1), ((HB.out.cell (World.block_lt_of_cell? w _ hw127_2)).trans hw127_2)⟩ (fun hHeld => ?_); refine uF zZ.tab5 zZ.zXC (fun HT_ HW_ => ?_)
       generalize wr.drew = w11 at uN HB zCY zCX zCW hHeld ⊢; refine vD (i := 0) (N := some 24) (v := ?_) (a' := ?_) #[true, false, false, false, false, false, false, false] rfl rfl (wM HT_.out (by kernel_rfl)) (fun _ _ _ h => h) (Or.inl ⟨by rfl, ?_⟩) ?_ ?_; rotate_left
       · intro w'; go_simp; with_reducible rfl
       rotate_left
       · simp only [Act.put, sIA, sC0, sCS, wJ, wK]; rfl
       refine vD (i := 1) (N := some 25) (v := ?_) (a' := ?_) #[true, true, false, false, false, false, false, false] rfl rfl (wM HT_.out (by kernel_rfl)) (fun _ _ _ h => h) (Or.inl ⟨by rfl, ?_⟩) ?_ ?_; rotate_left
       · intro w'; go_simp; with_reducible rfl
       rotate_left
       · simp only [Act.put, sIA, sC0, sCS, wJ, wK]; rfl
       refine vD (i := 2) (N := some 26) (v := ?_) (a' := ?_) #[true, true, true, false, false, false, false, false] rfl rfl (wM HT_.out (by kernel_rfl)) (fun _ _ _ h => h) (Or.inl ⟨by rfl, ?_⟩) ?_ ?_; rotate_left
       · intro w'; go_simp; with_reducible rfl
       rotate_left
       · simp only [Act.put, sIA, sC0, sCS, wJ, wK]; rfl
       refine vD (i := 3) (N := some 27) (v := ?_) (a' := ?_) #[true, true, true, true, false, false, false, false] rfl rfl (wM HT_.out (by kernel_rfl)) (fun _ _ _ h => h) (Or.inl ⟨by rfl, ?_⟩) ?_ ?_; rotate_left
       · intro w'; go_simp; with_reducible rfl
       rotate_left
       · simp only [Act.put, sIA, sC0, sCS, wJ, wK]; rfl
       refine kL (i := 4) (N := some 28) (v := ?_) (a' := ?_) #[true, true, true, true, true, false, false, false] rfl rfl (qY HT_.out HW_.out (by kernel_rfl)) (fun _ _ _ h => h) (Or.inl ⟨by rfl, ?_⟩) hHeld ?_ ?_; rotate_left
       · rintro w' ⟨s0, s1, s2, s3, s4, s5⟩; go_simp; with_reducible rfl
       rotate_left
       · simp only [Act.put, sIA, sC0, sCS, wJ, wK]; rfl
       refine kL (i := 5) (N := some 29) (v := ?_) (a' := ?_) #[true, true, true, true, true, true, false, false] rfl rfl (qY HT_.out HW_.out (by kernel_rfl)) (fun _ _ _ h => h) (Or.inl ⟨by rfl, ?_⟩) hHeld ?_ ?_; rotate_left
       · rintro w' ⟨s0, s1, s2, s3, s4, s5⟩; go_simp; with_reducible rfl
       rotate_left
       · simp only [Act.put, sIA, sC0, sCS, wJ, wK]; rfl
       refine one_ (i := 6) (N := some 30) #[true, true, true, true, true, true, true, false] rfl rfl (kH HT_.out (by kernel_rfl)) (by decide) (fun K hK => ?_); refine wAN Tryz.func37 (by kernel_rfl) rfl #[.agg #[.int .i64 ((zH l0 (ji6)).f0), .int .i64 ((zH l0 (ji6)).f1), .int .i64 ((zH l0 (ji6)).f2)], .agg #[.int .i64 a1_0, .int .i64 a1_1, .int .i64 a1_2]] (by rfl) rfl rfl (by (try simp only [List.map_toArray, List.map_cons, List.map_nil]); first | done | (simp only [hji6]; rfl) | rfl | (simp only [List.length_drop, List.length_take]; rfl)) (by rfl) ?_; with_reducible refine (vM.calls k1 ((zH l0 (ji6)).f0) ((zH l0 (ji6)).f1) ((zH l0 (ji6)).f2) a1_0 a1_1 a1_2 t128 _ A9.out).mono ?_
       rintro e w12 ⟨rfl, hb⟩; refine ⟨_, rfl, ?_⟩; have n0_ := zA.mk (zG (bG uN.out) hb); have n1_ := zA.mk (zF (eG HB.out) hb); clear uN; clear HB; have uN := n0_; have HB := n1_; clear n0_ n1_; (try clear hb)
       (try clear hb2)
       (try clear hk)
       (try clear hi)
       refine hK.out _ _ ⟨(zC uN.out 0).trans rfl, (zC uN.out 1).trans rfl, (zC uN.out 2).trans rfl, ((HB.out.cell (World.block_lt_of_cell? w _ hw127_0)).trans hw127_0), ((HB.out.cell (World.block_lt_of_cell? w _ hw127_1)).trans hw127_1), ((HB.out.cell (World.block_lt_of_cell? w _ hw127_2)).trans hw127_2)⟩ (fun hHeld => ?_); clear hK K; refine uB (a' := ?_) ?_ ?_; rotate_left
       ·
        show Act.put _ (some 30) _ = _
        simp only [Act.put, sIA, sC0, sCS, wJ, wK]; rfl
       refine vD (i := 7) (N := some 31) (v := ?_) (a' := ?_) #[true, true, true, true, true, true, true, true] rfl rfl (wM HT_.out (by kernel_rfl)) (fun _ _ _ h => h) (Or.inl ⟨by rfl, ?_⟩) ?_ ?_; rotate_left
       · intro w'; go_simp; with_reducible rfl
       rotate_left
       · simp only [Act.put, sIA, sC0, sCS, wJ, wK]; rfl
       refine zFQ (zAL HT_.out (by kernel_rfl)) ?_; try go_wp2
       go_roundg k1
       case measure => have := HK1.out; omega
       case rel => exact ⟨(wrap64 ((ji6) + 1)), (x10_1), (by first | rfl | (simp; done) | (simp only [← hji6] <;> (first | rfl | simp)) | (simp [*]; done)), (by first | rfl | (simp; done) | (simp [*]; done)), H', ⟨by have := HK1.out; omega⟩, ⟨by (with_reducible repeat first | apply bN | apply bD | apply bA); exact uN.out⟩, ⟨eG HB.out⟩⟩
      ·
       rw [if_neg c10] at H; have c10b0 : decide (t128 < 0) = false := decide_eq_false c10; clear c10; have H' := zA.mk H; clear H; try go_wp2
       have n0_ := zA.mk (yX uN.out); have n1_ := zA.mk (yB HB.out); clear uN; clear HB; have uN := n0_; have HB := n1_; clear n0_ n1_; have p127 : 0 ≤ ((ji6) : Int) := of_decide_eq_true (by first | (with_reducible assumption) | assumption); have q127 : (ji6) < (l0.length : Int) := of_decide_eq_true (by first | (with_reducible assumption) | assumption); obtain ⟨ad127, e127, zCY, zCX, zCW⟩ := uM HR0.out (ji6) p127 q127; have hw127_2 := zCW; have hw127_1 := zCX; have hw127_0 := zCY; cases e127; replace zCY := (HB.out.cell (World.block_lt_of_cell? w _ zCY)).trans zCY; replace zCX := (HB.out.cell (World.block_lt_of_cell? w _ zCX)).trans zCX; replace zCW := (HB.out.cell (World.block_lt_of_cell? w _ zCW)).trans zCW; replace p127 := eq_true p127; replace q127 := eq_true q127; refine zBS (n := 8) (S := fun w' => w'.cell? ⟨zJW, 0, none⟩ = some (.int .i64 a1_0) ∧ w'.cell? ⟨zJW, 1, none⟩ = some (.int .i64 a1_1) ∧ w'.cell? ⟨zJW, 2, none⟩ = some (.int .i64 a1_2) ∧ w'.cell? (ad127.add (((ji6)).toNat * 3)) = some (.int .i64 ((zH l0 (ji6)).f0)) ∧ w'.cell? ⟨(ad127.add (((ji6)).toNat * 3)).block, (ad127.add (((ji6)).toNat * 3)).off + 1, none⟩ = some (.int .i64 ((zH l0 (ji6)).f1)) ∧ w'.cell? ⟨(ad127.add (((ji6)).toNat * 3)).block, (ad127.add (((ji6)).toNat * 3)).off + 2, none⟩ = some (.int .i64 ((zH l0 (ji6)).f2))) (ds := []) #[false, false, false, false, false, false, false, false] (by kernel_rfl) rfl rfl ⟨(zC uN.out 0).trans rfl, (zC uN.out 1).trans rfl, (zC uN.out 2).trans rfl, ((HB.out.cell (World.block_lt_of_cell? w _ hw127_0)).trans hw127_0), ((HB.out.cell (World.block_lt_of_cell? w _ hw127_1)).trans hw127_1), ((HB.out.cell (World.block_lt_of_cell? w _ hw127_2)).trans hw127_2)⟩ (fun hHeld => ?_); refine uF zZ.tab5 zZ.zXC (fun HT_ HW_ => ?_)
       generalize wr.drew = w13 at uN HB zCY zCX zCW hHeld ⊢; refine vD (i := 0) (N := some 24) (v := ?_) (a' := ?_) #[true, false, false, false, false, false, false, false] rfl rfl (wM HT_.out (by kernel_rfl)) (fun _ _ _ h => h) (Or.inl ⟨by rfl, ?_⟩) ?_ ?_; rotate_left
       · intro w'; go_simp; with_reducible rfl
       rotate_left
       · simp only [Act.put, sIA, sC0, sCS, wJ, wK]; rfl
       refine vD (i := 1) (N := some 25) (v := ?_) (a' := ?_) #[true, true, false, false, false, false, false, false] rfl rfl (wM HT_.out (by kernel_rfl)) (fun _ _ _ h => h) (Or.inl ⟨by rfl, ?_⟩) ?_ ?_; rotate_left
       · intro w'; go_simp; with_reducible rfl
       rotate_left
       · simp only [Act.put, sIA, sC0, sCS, wJ, wK]; rfl
       refine vD (i := 2) (N := some 26) (v := ?_) (a' := ?_) #[true, true, true, false, false, false, false, false] rfl rfl (wM HT_.out (by kernel_rfl)) (fun _ _ _ h => h) (Or.inl ⟨by rfl, ?_⟩) ?_ ?_; rotate_left
       · intro w'; go_simp; with_reducible rfl
       rotate_left
       · simp only [Act.put, sIA, sC0, sCS, wJ, wK]; rfl
       refine vD (i := 3) (N := some 27) (v := ?_) (a' := ?_) #[true, true, true, true, false, false, false, false] rfl rfl (wM HT_.out (by kernel_rfl)) (fun _ _ _ h => h) (Or.inl ⟨by rfl, ?_⟩) ?_ ?_; rotate_left
       · intro w'; go_simp; with_reducible rfl
       rotate_left
       · simp only [Act.put, sIA, sC0, sCS, wJ, wK]; rfl
       refine kL (i := 4) (N := some 28) (v := ?_) (a' := ?_) #[true, true, true, true, true, false, false, false] rfl rfl (qY HT_.out HW_.out (by kernel_rfl)) (fun _ _ _ h => h) (Or.inl ⟨by rfl, ?_⟩) hHeld ?_ ?_; rotate_left
       · rintro w' ⟨s0, s1, s2, s3, s4, s5⟩; go_simp; with_reducible rfl
       rotate_left
       · simp only [Act.put, sIA, sC0, sCS, wJ, wK]; rfl
       refine kL (i := 5) (N := some 29) (v := ?_) (a' := ?_) #[true, true, true, true, true, true, false, false] rfl rfl (qY HT_.out HW_.out (by kernel_rfl)) (fun _ _ _ h => h) (Or.inl ⟨by rfl, ?_⟩) hHeld ?_ ?_; rotate_left
       · rintro w' ⟨s0, s1, s2, s3, s4, s5⟩; go_simp; with_reducible rfl
       rotate_left
       · simp only [Act.put, sIA, sC0, sCS, wJ, wK]; rfl
       refine one_ (i := 6) (N := some 30) #[true, true, true, true, true, true, true, false] rfl rfl (kH HT_.out (by kernel_rfl)) (by decide) (fun K hK => ?_); refine wAN Tryz.func37 (by kernel_rfl) rfl #[.agg #[.int .i64 ((zH l0 (ji6)).f0), .int .i64 ((zH l0 (ji6)).f1), .int .i64 ((zH l0 (ji6)).f2)], .agg #[.int .i64 a1_0, .int .i64 a1_1, .int .i64 a1_2]] (by rfl) rfl rfl (by (try simp only [List.map_toArray, List.map_cons, List.map_nil]); first | done | (simp only [hji6]; rfl) | rfl | (simp only [List.length_drop, List.length_take]; rfl)) (by rfl) ?_; with_reducible refine (vM.calls k1 ((zH l0 (ji6)).f0) ((zH l0 (ji6)).f1) ((zH l0 (ji6)).f2) a1_0 a1_1 a1_2 t128 _ A9.out).mono ?_
       rintro e w14 ⟨rfl, hb⟩; refine ⟨_, rfl, ?_⟩; have n0_ := zA.mk (zG (bG uN.out) hb); have n1_ := zA.mk (zF (eG HB.out) hb); clear uN; clear HB; have uN := n0_; have HB := n1_; clear n0_ n1_; (try clear hb)
       (try clear hb2)
       (try clear hk)
       (try clear hi)
       refine hK.out _ _ ⟨(zC uN.out 0).trans rfl, (zC uN.out 1).trans rfl, (zC uN.out 2).trans rfl, ((HB.out.cell (World.block_lt_of_cell? w _ hw127_0)).trans hw127_0), ((HB.out.cell (World.block_lt_of_cell? w _ hw127_1)).trans hw127_1), ((HB.out.cell (World.block_lt_of_cell? w _ hw127_2)).trans hw127_2)⟩ (fun hHeld => ?_); clear hK K; refine uB (a' := ?_) ?_ ?_; rotate_left
       ·
        show Act.put _ (some 30) _ = _
        simp only [Act.put, sIA, sC0, sCS, wJ, wK]; rfl
       refine vD (i := 7) (N := some 31) (v := ?_) (a' := ?_) #[true, true, true, true, true, true, true, true] rfl rfl (wM HT_.out (by kernel_rfl)) (fun _ _ _ h => h) (Or.inl ⟨by rfl, ?_⟩) ?_ ?_; rotate_left
       · intro w'; go_simp; with_reducible rfl
       rotate_left
       · simp only [Act.put, sIA, sC0, sCS, wJ, wK]; rfl
       refine zFQ (zAL HT_.out (by kernel_rfl)) ?_; try go_wp2
       go_roundg k1
       case measure => have := HK1.out; omega
       case rel => exact ⟨(x9_1), (ji6), (by first | rfl | (simp; done) | (simp [*]; done)), (by first | rfl | (simp; done) | (simp only [← hji6] <;> (first | rfl | simp)) | (simp [*]; done)), H', ⟨by have := HK1.out; omega⟩, ⟨by (with_reducible repeat first | apply bN | apply bD | apply bA); exact uN.out⟩, ⟨eG HB.out⟩⟩
     · rw [if_neg c8] at H; exact absurd H (by simp)
    · rw [if_neg c7] at H; exact absurd H (by simp)
   ·
    rw [if_neg c5] at H; have c5b0 : decide (x9_1 < x10_1) = false := decide_eq_false c5; clear c5; by_cases c15 : x9_1 < (l0.length : Int)
    ·
     rw [if_pos c15] at H; have c15b0 : decide (x9_1 < (l0.length : Int)) = true := decide_eq_true c15; clear c15; by_cases c16 : 0 ≤ x9_1
     ·
      rw [if_pos c16] at H; have c16b0 : decide (0 ≤ x9_1) = true := decide_eq_true c16; clear c16; by_cases c17 : x9_1 < (l0.length : Int)
      ·
       rw [if_pos c17] at H; have c17b0 : decide (x9_1 < (l0.length : Int)) = true := decide_eq_true c17; clear c17; replace H := Option.bind_eq_some_iff.mp H; obtain ⟨t130, A180, H⟩ := H; replace H : (some (x9_1, (t130 == 0))) = some (r1, r2) := H; have A18 := zA.mk A180; clear A180; simp only [Option.some.injEq, Prod.mk.injEq] at H; obtain ⟨rfl, rfl⟩ := H; try go_wp2
       have n0_ := zA.mk (yX uN.out); have n1_ := zA.mk (yB HB.out); clear uN; clear HB; have uN := n0_; have HB := n1_; clear n0_ n1_; have p129 : 0 ≤ (x9_1 : Int) := of_decide_eq_true (by first | (with_reducible assumption) | assumption); have q129 : x9_1 < (l0.length : Int) := of_decide_eq_true (by first | (with_reducible assumption) | assumption); obtain ⟨ad129, e129, zKX, zKW, zKV⟩ := uM HR0.out x9_1 p129 q129; have hw129_2 := zKV; have hw129_1 := zKW; have hw129_0 := zKX; cases e129; replace zKX := (HB.out.cell (World.block_lt_of_cell? w _ zKX)).trans zKX; replace zKW := (HB.out.cell (World.block_lt_of_cell? w _ zKW)).trans zKW; replace zKV := (HB.out.cell (World.block_lt_of_cell? w _ zKV)).trans zKV; replace p129 := eq_true p129; replace q129 := eq_true q129; refine zBS (n := 16) (S := fun w' => w'.cell? ⟨zJW, 0, none⟩ = some (.int .i64 a1_0) ∧ w'.cell? ⟨zJW, 1, none⟩ = some (.int .i64 a1_1) ∧ w'.cell? ⟨zJW, 2, none⟩ = some (.int .i64 a1_2) ∧ w'.cell? (ad129.add ((x9_1).toNat * 3)) = some (.int .i64 ((zH l0 x9_1).f0)) ∧ w'.cell? ⟨(ad129.add ((x9_1).toNat * 3)).block, (ad129.add ((x9_1).toNat * 3)).off + 1, none⟩ = some (.int .i64 ((zH l0 x9_1).f1)) ∧ w'.cell? ⟨(ad129.add ((x9_1).toNat * 3)).block, (ad129.add ((x9_1).toNat * 3)).off + 2, none⟩ = some (.int .i64 ((zH l0 x9_1).f2))) (ds := []) #[false, false, false, false, false, false, false, false, false, false, false, false, false, false, false, false] (by kernel_rfl) rfl rfl ⟨(zC uN.out 0).trans rfl, (zC uN.out 1).trans rfl, (zC uN.out 2).trans rfl, ((HB.out.cell (World.block_lt_of_cell? w _ hw129_0)).trans hw129_0), ((HB.out.cell (World.block_lt_of_cell? w _ hw129_1)).trans hw129_1), ((HB.out.cell (World.block_lt_of_cell? w _ hw129_2)).trans hw129_2)⟩ (fun hHeld => ?_); refine uF zZ.tab8 zZ.bits8 (fun HT_ HW_ => ?_)
       generalize wr.drew = w19 at uN HB zKX zKW zKV hHeld ⊢; refine vD (i := 0) (N := some 35) (v := ?_) (a' := ?_) #[true, false, false, false, false, false, false, false, false, false, false, false, false, false, false, false] rfl rfl (wM HT_.out (by kernel_rfl)) (fun _ _ _ h => h) (Or.inl ⟨by rfl, ?_⟩) ?_ ?_; rotate_left
       · intro w'; go_simp; with_reducible rfl
       rotate_left
       · simp only [Act.put, sIA, sC0, sCS, wJ, wK]; rfl
       refine vD (i := 1) (N := some 36) (v := ?_) (a' := ?_) #[true, true, false, false, false, false, false, false, false, false, false, false, false, false, false, false] rfl rfl (wM HT_.out (by kernel_rfl)) (fun _ _ _ h => h) (Or.inl ⟨by rfl, ?_⟩) ?_ ?_; rotate_left
       · intro w'; go_simp; with_reducible rfl
       rotate_left
       · simp only [Act.put, sIA, sC0, sCS, wJ, wK]; rfl
       refine vD (i := 2) (N := some 37) (v := ?_) (a' := ?_) #[true, true, true, false, false, false, false, false, false, false, false, false, false, false, false, false] rfl rfl (wM HT_.out (by kernel_rfl)) (fun _ _ _ h => h) (Or.inl ⟨by rfl, ?_⟩) ?_ ?_; rotate_left
       · intro w'; go_simp; with_reducible rfl
       rotate_left
       · simp only [Act.put, sIA, sC0, sCS, wJ, wK]; rfl
       refine vD (i := 3) (N := some 38) (v := ?_) (a' := ?_) #[true, true, true, true, false, false, false, false, false, false, false, false, false, false, false, false] rfl rfl (wM HT_.out (by kernel_rfl)) (fun _ _ _ h => h) (Or.inl ⟨by rfl, ?_⟩) ?_ ?_; rotate_left
       · intro w'; go_simp; with_reducible rfl
       rotate_left
       · simp only [Act.put, sIA, sC0, sCS, wJ, wK]; rfl
       refine vD (i := 4) (N := some 39) (v := ?_) (a' := ?_) #[true, true, true, true, true, false, false, false, false, false, false, false, false, false, false, false] rfl rfl (wM HT_.out (by kernel_rfl)) (fun _ _ _ h => h) (Or.inl ⟨by rfl, ?_⟩) ?_ ?_; rotate_left
       · intro w'; go_simp; with_reducible rfl
       rotate_left
       · simp only [Act.put, sIA, sC0, sCS, wJ, wK]; rfl
       refine vD (i := 5) (N := some 40) (v := ?_) (a' := ?_) #[true, true, true, true, true, true, false, false, false, false, false, false, false, false, false, false] rfl rfl (wM HT_.out (by kernel_rfl)) (fun _ _ _ h => h) (Or.inl ⟨by rfl, ?_⟩) ?_ ?_; rotate_left
       · intro w'; go_simp; with_reducible rfl
       rotate_left
       · simp only [Act.put, sIA, sC0, sCS, wJ, wK]; rfl
       refine vD (i := 6) (N := some 41) (v := ?_) (a' := ?_) #[true, true, true, true, true, true, true, false, false, false, false, false, false, false, false, false] rfl rfl (wM HT_.out (by kernel_rfl)) (fun _ _ _ h => h) (Or.inl ⟨by rfl, ?_⟩) ?_ ?_; rotate_left
       · intro w'; go_simp; with_reducible rfl
       rotate_left
       · simp only [Act.put, sIA, sC0, sCS, wJ, wK]; rfl
       refine vD (i := 7) (N := some 42) (v := ?_) (a' := ?_) #[true, true, true, true, true, true, true, true, false, false, false, false, false, false, false, false] rfl rfl (wM HT_.out (by kernel_rfl)) (fun _ _ _ h => h) (Or.inl ⟨by rfl, ?_⟩) ?_ ?_; rotate_left
       · intro w'; go_simp; with_reducible rfl
       rotate_left
       · simp only [Act.put, sIA, sC0, sCS, wJ, wK]; rfl
       refine vD (i := 8) (N := some 43) (v := ?_) (a' := ?_) #[true, true, true, true, true, true, true, true, true, false, false, false, false, false, false, false] rfl rfl (wM HT_.out (by kernel_rfl)) (fun _ _ _ h => h) (Or.inl ⟨by rfl, ?_⟩) ?_ ?_; rotate_left
       · intro w'; go_simp; with_reducible rfl
       rotate_left
       · simp only [Act.put, sIA, sC0, sCS, wJ, wK]; rfl
       refine kL (i := 9) (N := some 44) (v := ?_) (a' := ?_) #[true, true, true, true, true, true, true, true, true, true, false, false, false, false, false, false] rfl rfl (qY HT_.out HW_.out (by kernel_rfl)) (fun _ _ _ h => h) (Or.inl ⟨by rfl, ?_⟩) hHeld ?_ ?_; rotate_left
       · rintro w' ⟨s0, s1, s2, s3, s4, s5⟩; go_simp; with_reducible rfl
       rotate_left
       · simp only [Act.put, sIA, sC0, sCS, wJ, wK]; rfl
       refine kL (i := 10) (N := some 45) (v := ?_) (a' := ?_) #[true, true, true, true, true, true, true, true, true, true, true, false, false, false, false, false] rfl rfl (qY HT_.out HW_.out (by kernel_rfl)) (fun _ _ _ h => h) (Or.inl ⟨by rfl, ?_⟩) hHeld ?_ ?_; rotate_left
       · rintro w' ⟨s0, s1, s2, s3, s4, s5⟩; go_simp; with_reducible rfl
       rotate_left
       · simp only [Act.put, sIA, sC0, sCS, wJ, wK]; rfl
       refine one_ (i := 11) (N := some 46) #[true, true, true, true, true, true, true, true, true, true, true, true, false, false, false, false] rfl rfl (kH HT_.out (by kernel_rfl)) (by decide) (fun K hK => ?_); refine wAN Tryz.func37 (by kernel_rfl) rfl #[.agg #[.int .i64 ((zH l0 x9_1).f0), .int .i64 ((zH l0 x9_1).f1), .int .i64 ((zH l0 x9_1).f2)], .agg #[.int .i64 a1_0, .int .i64 a1_1, .int .i64 a1_2]] (by rfl) rfl rfl (by (try simp only [List.map_toArray, List.map_cons, List.map_nil]); first | done | rfl | (simp only [List.length_drop, List.length_take]; rfl)) (by rfl) ?_; with_reducible refine (vM.calls k1 ((zH l0 x9_1).f0) ((zH l0 x9_1).f1) ((zH l0 x9_1).f2) a1_0 a1_1 a1_2 t130 _ A18.out).mono ?_
       rintro e w20 ⟨rfl, hb⟩; refine ⟨_, rfl, ?_⟩; have n0_ := zA.mk (zG (bG uN.out) hb); have n1_ := zA.mk (zF (eG HB.out) hb); clear uN; clear HB; have uN := n0_; have HB := n1_; clear n0_ n1_; (try clear hb)
       (try clear hb2)
       (try clear hk)
       (try clear hi)
       refine hK.out _ _ ⟨(zC uN.out 0).trans rfl, (zC uN.out 1).trans rfl, (zC uN.out 2).trans rfl, ((HB.out.cell (World.block_lt_of_cell? w _ hw129_0)).trans hw129_0), ((HB.out.cell (World.block_lt_of_cell? w _ hw129_1)).trans hw129_1), ((HB.out.cell (World.block_lt_of_cell? w _ hw129_2)).trans hw129_2)⟩ (fun hHeld => ?_); clear hK K; refine uB (a' := ?_) ?_ ?_; rotate_left
       ·
        show Act.put _ (some 46) _ = _
        simp only [Act.put, sIA, sC0, sCS, wJ, wK]; rfl
       refine vD (i := 12) (N := some 47) (v := ?_) (a' := ?_) #[true, true, true, true, true, true, true, true, true, true, true, true, true, false, false, false] rfl rfl (wM HT_.out (by kernel_rfl)) (fun _ _ _ h => h) (Or.inl ⟨by rfl, ?_⟩) ?_ ?_; rotate_left
       · intro w'; go_simp; with_reducible rfl
       rotate_left
       · simp only [Act.put, sIA, sC0, sCS, wJ, wK]; rfl
       refine vD (i := 13) (N := some 48) (v := ?_) (a' := ?_) #[true, true, true, true, true, true, true, true, true, true, true, true, true, true, false, false] rfl rfl (wM HT_.out (by kernel_rfl)) (fun _ _ _ h => h) (Or.inl ⟨by rfl, ?_⟩) ?_ ?_; rotate_left
       · intro w'; go_simp; with_reducible rfl
       rotate_left
       · simp only [Act.put, sIA, sC0, sCS, wJ, wK]; rfl
       refine vD (i := 14) (N := some 6) (v := ?_) (a' := ?_) #[true, true, true, true, true, true, true, true, true, true, true, true, true, true, true, false] rfl rfl (wM HT_.out (by kernel_rfl)) (fun _ _ _ h => h) (Or.inl ⟨by rfl, ?_⟩) ?_ ?_; rotate_left
       · intro w'; go_simp; with_reducible rfl
       rotate_left
       · simp only [Act.put, sIA, sC0, sCS, wJ, wK]; rfl
       refine vD (i := 15) (N := some 7) (v := ?_) (a' := ?_) #[true, true, true, true, true, true, true, true, true, true, true, true, true, true, true, true] rfl rfl (wM HT_.out (by kernel_rfl)) (fun _ _ _ h => h) (Or.inl ⟨by rfl, ?_⟩) ?_ ?_; rotate_left
       · intro w'; go_simp; with_reducible rfl
       rotate_left
       · simp only [Act.put, sIA, sC0, sCS, wJ, wK]; rfl
       refine zFQ (zAL HT_.out (by kernel_rfl)) ?_; try go_wp2
       go_ret2
       exact ⟨by first | rfl | (simp [zN, zM] <;> rfl) | (simp [*, zN, zM] <;> rfl), eG HB.out⟩
      · rw [if_neg c17] at H; exact absurd H (by simp)
     · rw [if_neg c16] at H; exact absurd H (by simp)
    ·
     rw [if_neg c15] at H; have c15b0 : decide (x9_1 < (l0.length : Int)) = false := decide_eq_false c15; clear c15; simp only [Option.some.injEq, Prod.mk.injEq] at H; obtain ⟨rfl, rfl⟩ := H; try go_wp2
     have n0_ := zA.mk (yX uN.out); have n1_ := zA.mk (yB HB.out); clear uN; clear HB; have uN := n0_; have HB := n1_; clear n0_ n1_; refine zBS (n := 16) (S := fun w' => True) (ds := []) #[false, false, false, false, false, false, false, false, false, false, false, false, false, false, false, false] (by kernel_rfl) rfl rfl trivial (fun hHeld => ?_); refine uF zZ.tab8 zZ.bits8 (fun HT_ HW_ => ?_)
     generalize wr.drew = w21 at uN HB hHeld ⊢; refine vD (i := 0) (N := some 35) (v := ?_) (a' := ?_) #[true, false, false, false, false, false, false, false, false, false, false, false, false, false, false, false] rfl rfl (wM HT_.out (by kernel_rfl)) (fun _ _ _ h => h) (Or.inl ⟨by rfl, ?_⟩) ?_ ?_; rotate_left
     · intro w'; go_simp; with_reducible rfl
     rotate_left
     · simp only [Act.put, sIA, sC0, sCS, wJ, wK]; rfl
     refine vD (i := 1) (N := some 36) (v := ?_) (a' := ?_) #[true, true, false, false, false, false, false, false, false, false, false, false, false, false, false, false] rfl rfl (wM HT_.out (by kernel_rfl)) (fun _ _ _ h => h) (Or.inl ⟨by rfl, ?_⟩) ?_ ?_; rotate_left
     · intro w'; go_simp; with_reducible rfl
     rotate_left
     · simp only [Act.put, sIA, sC0, sCS, wJ, wK]; rfl
     refine vD (i := 2) (N := some 37) (v := ?_) (a' := ?_) #[true, true, true, false, false, false, false, false, false, false, false, false, false, false, false, false] rfl rfl (wM HT_.out (by kernel_rfl)) (fun _ _ _ h => h) (Or.inl ⟨by rfl, ?_⟩) ?_ ?_; rotate_left
     · intro w'; go_simp; with_reducible rfl
     rotate_left
     · simp only [Act.put, sIA, sC0, sCS, wJ, wK]; rfl
     refine vD (i := 3) (N := some 38) (v := ?_) (a' := ?_) #[true, true, true, true, false, false, false, false, false, false, false, false, false, false, false, false] rfl rfl (wM HT_.out (by kernel_rfl)) (fun _ _ _ h => h) (Or.inl ⟨by rfl, ?_⟩) ?_ ?_; rotate_left
     · intro w'; go_simp; with_reducible rfl
     rotate_left
     · simp only [Act.put, sIA, sC0, sCS, wJ, wK]; rfl
     refine vD (i := 4) (N := some 39) (v := ?_) (a' := ?_) #[true, true, true, true, true, false, false, false, false, false, false, false, false, false, false, false] rfl rfl (wM HT_.out (by kernel_rfl)) (fun _ _ _ h => h) (Or.inl ⟨by rfl, ?_⟩) ?_ ?_; rotate_left
     · intro w'; go_simp; with_reducible rfl
     rotate_left
     · simp only [Act.put, sIA, sC0, sCS, wJ, wK]; rfl
     refine vD (i := 5) (N := some 40) (v := undef) (a' := ?_) #[true, true, true, true, true, true, false, false, false, false, false, false, false, false, false, false] rfl rfl (wM HT_.out (by kernel_rfl)) (fun _ _ _ h => h) (Or.inr ⟨by rfl, rfl⟩) ?_ ?_; rotate_left
     · simp only [Act.put, sIA, sC0, sCS, wJ, wK]; rfl
     refine vD (i := 6) (N := some 41) (v := undef) (a' := ?_) #[true, true, true, true, true, true, true, false, false, false, false, false, false, false, false, false] rfl rfl (wM HT_.out (by kernel_rfl)) (fun _ _ _ h => h) (Or.inr ⟨by rfl, rfl⟩) ?_ ?_; rotate_left
     · simp only [Act.put, sIA, sC0, sCS, wJ, wK]; rfl
     refine vD (i := 7) (N := some 42) (v := undef) (a' := ?_) #[true, true, true, true, true, true, true, true, false, false, false, false, false, false, false, false] rfl rfl (wM HT_.out (by kernel_rfl)) (fun _ _ _ h => h) (Or.inr ⟨by rfl, rfl⟩) ?_ ?_; rotate_left
     · simp only [Act.put, sIA, sC0, sCS, wJ, wK]; rfl
     refine vD (i := 8) (N := some 43) (v := undef) (a' := ?_) #[true, true, true, true, true, true, true, true, true, false, false, false, false, false, false, false] rfl rfl (wM HT_.out (by kernel_rfl)) (fun _ _ _ h => h) (Or.inr ⟨by rfl, rfl⟩) ?_ ?_; rotate_left
     · simp only [Act.put, sIA, sC0, sCS, wJ, wK]; rfl
     refine vD (i := 9) (N := some 44) (v := undef) (a' := ?_) #[true, true, true, true, true, true, true, true, true, true, false, false, false, false, false, false] rfl rfl (wM HT_.out (by kernel_rfl)) (fun _ _ _ h => h) (Or.inr ⟨by rfl, rfl⟩) ?_ ?_; rotate_left
     · simp only [Act.put, sIA, sC0, sCS, wJ, wK]; rfl
     refine vD (i := 10) (N := some 45) (v := undef) (a' := ?_) #[true, true, true, true, true, true, true, true, true, true, true, false, false, false, false, false] rfl rfl (wM HT_.out (by kernel_rfl)) (fun _ _ _ h => h) (Or.inr ⟨by rfl, rfl⟩) ?_ ?_; rotate_left
     · simp only [Act.put, sIA, sC0, sCS, wJ, wK]; rfl
     refine vD (i := 11) (N := some 46) (v := undef) (a' := ?_) #[true, true, true, true, true, true, true, true, true, true, true, true, false, false, false, false] rfl rfl (wM HT_.out (by kernel_rfl)) (fun _ _ _ h => h) (Or.inr ⟨by rfl, rfl⟩) ?_ ?_; rotate_left
     · simp only [Act.put, sIA, sC0, sCS, wJ, wK]; rfl
     refine vD (i := 12) (N := some 47) (v := undef) (a' := ?_) #[true, true, true, true, true, true, true, true, true, true, true, true, true, false, false, false] rfl rfl (wM HT_.out (by kernel_rfl)) (fun _ _ _ h => h) (Or.inr ⟨by rfl, rfl⟩) ?_ ?_; rotate_left
     · simp only [Act.put, sIA, sC0, sCS, wJ, wK]; rfl
     refine vD (i := 13) (N := some 48) (v := ?_) (a' := ?_) #[true, true, true, true, true, true, true, true, true, true, true, true, true, true, false, false] rfl rfl (wM HT_.out (by kernel_rfl)) (fun _ _ _ h => h) (Or.inl ⟨by rfl, ?_⟩) ?_ ?_; rotate_left
     · intro w'; go_simp; with_reducible rfl
     rotate_left
     · simp only [Act.put, sIA, sC0, sCS, wJ, wK]; rfl
     refine vD (i := 14) (N := some 6) (v := ?_) (a' := ?_) #[true, true, true, true, true, true, true, true, true, true, true, true, true, true, true, false] rfl rfl (wM HT_.out (by kernel_rfl)) (fun _ _ _ h => h) (Or.inl ⟨by rfl, ?_⟩) ?_ ?_; rotate_left
     · intro w'; go_simp; with_reducible rfl
     rotate_left
     · simp only [Act.put, sIA, sC0, sCS, wJ, wK]; rfl
     refine vD (i := 15) (N := some 7) (v := ?_) (a' := ?_) #[true, true, true, true, true, true, true, true, true, true, true, true, true, true, true, true] rfl rfl (wM HT_.out (by kernel_rfl)) (fun _ _ _ h => h) (Or.inl ⟨by rfl, ?_⟩) ?_ ?_; rotate_left
     · intro w'; go_simp; with_reducible rfl
     rotate_left
     · simp only [Act.put, sIA, sC0, sCS, wJ, wK]; rfl
     refine zFQ (zAL HT_.out (by kernel_rfl)) ?_; try go_wp2
     go_ret2
     exact ⟨by first | rfl | (simp [zN, zM] <;> rfl) | (simp [*, zN, zM] <;> rfl), eG HB.out⟩
end Go.Proofs.YtholbmidciapdaaGreatDoor.Pr
namespace Go.Proofs.YtholbmidciapdaaGreatDoor.X
open Go Go.RowKit Go.Lib Go.Proofs Go.Shelf
theorem zBE {P : Program} (w : World) (dT sT ty elem : TypeId) (b o dLen dCap : Nat) (a : Addr) (sLen sCap : Nat) (cs : List Value) (z m : Nat)
    (hu : P.underlying dT = some (.slice elem)) (hs : (P.info? elem).map (·.size) = some z) (hm : Nat.min sLen dLen = m) (hn : cs.length = m * z)
    (hsrc : ∀ j v, cs[j]? = some v → w.cell? (a.add j) = some v) (hc : ∀ j, j < cs.length → (w.cell? ⟨b, o + j, none⟩).isSome = true) (hf : ∀ j, j < cs.length → w.frozen? ⟨b, o + j, none⟩ = false) (h1 : ∀ v ∈ cs, v.oneCell' = true) :
    (Builtin.copy_ #[dT, sT] ty #[.slice (some ⟨b, o, none⟩) dLen dCap, .slice (some a) sLen sCap]).run P w = .ok (goInt m) (w.setCells b o cs) := by
  have hl := run_loadCells_list (P := P) w a cs hsrc
  have hst := run_storeCells_cells (P := P) b o cs 0 w (by simpa using hc) (by simpa using hf) h1
  cases hq : P.info? elem with
  | none => simp [hq] at hs
  | some i =>
    have hi : i.size = z := by simpa [hq] using hs
    rw [hn, ← hm] at hl
    subst hm
    simp [Builtin.copy_, run_underlying hu, Builtin.lenOf, Builtin.firstCells, sizeOf, typeInfo, hq, hi, hl, hst]
theorem infoI : (Tryz.prog.info? 26).map (fun i => (i.zero, i.size, i.bytes)) = some (some ((.agg #[(.int .i64 0), (.int .i64 0), (.int .i64 0)])), 3, 24) := by kernel_rfl
theorem sizeI : (Tryz.prog.info? 26).map (·.size) = some 3 := by
  obtain ⟨i0, hi0, h0, h1, h2⟩ := info_parts infoI
  rw [hi0]; simp [h1]
theorem zI (w : World) : (sizeOf 26).run Tryz.prog w = .ok 3 w := by kernel_rfl
set_option maxHeartbeats 4000000 in
set_option maxRecDepth 100000 in
/-- There is room, and something stands behind: in place. -/
theorem zQQ (b n c i vb cv : Nat) (cs vs : List Value) (w : World) (hi : i < n) (hroom : n + 1 ≤ c) (hc63 : c ≤ 9223372036854775807) (hvb : vb ≠ b) (hcl : cs.length = n * 3) (hvl : vs.length = 3)
    (hcs : ∀ j v, cs[j]? = some v → w.cell? ⟨b, j, none⟩ = some v) (hsp : ∀ j, j < (n + 1) * 3 → (w.cell? ⟨b, j, none⟩).isSome = true) (hfz : ∀ j, j < (n + 1) * 3 → w.frozen? ⟨b, j, none⟩ = false)
    (hvs : ∀ j v, vs[j]? = some v → w.cell? ⟨vb, j, none⟩ = some v) (h1c : ∀ v ∈ cs, v.oneCell' = true) (h1v : ∀ v ∈ vs, v.oneCell' = true)
    (tA tB : TypeId) (kA kB : Nat) (hsa : w.shape? vb = some (tA, kA)) (hsb : w.shape? b = some (tB, kB)) (hkB : kB ≠ 0) (hfa : w.frozen? ⟨vb, 0, none⟩ = false) (hfe : w.frozen? ⟨vb, kA, none⟩ = false) :
    Calls Tryz.prog 43 #[.slice (some ⟨b, 0, none⟩) n c, .int .i64 i, .slice (some ⟨vb, 0, none⟩) 1 cv] w fun e w' =>
      e = .returned (.slice (some ⟨b, 0, none⟩) (n + 1) c) ∧ w' = (w.drew.setCells b ((i + 1) * 3) (cs.drop (i * 3))).setCells b (i * 3) vs := by
  have uS := run_underlying Tryz.underlying22 (P := Tryz.prog)
  have u3 := run_underlying Tryz.underlying3 (P := Tryz.prog)
  have hz := zI
  have hov : ∀ lb cb, (callFunc 66 #[.slice (some ⟨vb, 0, none⟩) 1 cv, .slice (some ⟨b, (i + 1) * 3, none⟩) lb cb]).run Tryz.prog w = .ok (.value (.bool false)) w := fun lb cb => by
    rw [run_callFunc_extern Tryz.func66 (by kernel_rfl) (by kernel_rfl) (by kernel_rfl) (e := Extern.SlicesOverlaps.overlaps #[22, 22] #[4]) (by kernel_rfl),
      Lib.run_overlaps_apart w 22 4 26 Tryz.underlying22 3 zI ⟨vb, 0, none⟩ ⟨b, (i + 1) * 3, none⟩ 1 cv lb cb hvb tA tB kA kB hsa hsb hkB hfa hfe]
    rfl
  have hd : ∀ x, w.drew.cell? x = w.cell? x := fun _ => rfl
  have hdf : ∀ x, w.drew.frozen? x = w.frozen? x := fun _ => rfl
  have hdl : (cs.drop (i * 3)).length = (n - i) * 3 := by rw [List.length_drop, hcl]; omega
  have hcp1 : ∀ ty dc sc, (Builtin.copy_ #[22, 22] ty #[.slice (some ⟨b, (i + 1) * 3, none⟩) (n - i) dc, .slice (some ⟨b, i * 3, none⟩) (n + 1 - i) sc]).run Tryz.prog w.drew = .ok (goInt ((n - i : Nat) : Int)) (w.drew.setCells b ((i + 1) * 3) (cs.drop (i * 3))) := fun ty dc sc =>
    zBE w.drew 22 22 ty 26 b ((i + 1) * 3) (n - i) dc ⟨b, i * 3, none⟩ (n + 1 - i) sc (cs.drop (i * 3)) 3 (n - i) Tryz.underlying22 sizeI (by simp only [Nat.min_def]; split <;> omega) hdl
      (fun j v hj => by rw [Addr.add_lit, hd]; exact hcs (i * 3 + j) v (by rwa [List.getElem?_drop] at hj))
      (fun j hj => by rw [hd]; exact hsp _ (by omega)) (fun j hj => by rw [hdf]; exact hfz _ (by omega)) (fun v hv => h1c v (List.mem_of_mem_drop hv))
  obtain ⟨W1, hW1⟩ : ∃ W1, W1 = w.drew.setCells b ((i + 1) * 3) (cs.drop (i * 3)) := ⟨_, rfl⟩
  have hsp1 : ∀ k, k < (n + 1) * 3 → (W1.cell? ⟨b, k, none⟩).isSome = true := fun k hk => by
    rw [hW1]
    exact isSome_setCells b _ _ w.drew (fun j hj => by rw [hd]; exact hsp _ (by omega)) k (by rw [hd]; exact hsp k hk)
  have hW1v : ∀ j v, vs[j]? = some v → W1.cell? ⟨vb, j, none⟩ = some v := fun j v hj => by
    rw [hW1, World.cell?_setCells_out b _ _ w.drew ⟨vb, j, none⟩ (fun h _ => absurd h hvb), hd]
    exact hvs j v hj
  have hW1f : ∀ j, j < (n + 1) * 3 → W1.frozen? ⟨b, j, none⟩ = false := fun j hj => by rw [hW1, World.frozen?_setCells, hdf]; exact hfz j hj
  have hcp2 : ∀ (W : World), (∀ x, W.cell? x = W1.cell? x) → (∀ x, W.frozen? x = W1.frozen? x) → ∀ ty dc, (Builtin.copy_ #[22, 22] ty #[.slice (some ⟨b, i * 3, none⟩) (n + 1 - i) dc, .slice (some ⟨vb, 0, none⟩) 1 cv]).run Tryz.prog W = .ok (goInt ((1 : Nat) : Int)) (W.setCells b (i * 3) vs) := fun W hWc hWf ty dc =>
    zBE W 22 22 ty 26 b (i * 3) (n + 1 - i) dc ⟨vb, 0, none⟩ 1 cv vs 3 1 Tryz.underlying22 sizeI (by simp only [Nat.min_def]; split <;> omega) (by rw [hvl])
      (fun j v hj => by rw [Addr.add_lit, hWc, Nat.zero_add]; exact hW1v j v hj)
      (fun j hj => by rw [hWc]; exact hsp1 _ (by omega)) (fun j hj => by rw [hWf]; exact hW1f _ (by omega)) h1v
  rw [← hW1] at hcp1 ⊢
  have hz1 : ¬ ((i : Int) = (n : Int)) := by omega
  have hb2 : ¬ (c = i + 1) := by omega
  have hb4 : ¬ (c = i) := by omega
  have hz3 : ¬ ((c : Int) < (n : Int) + 1) := by omega
  have hw1 : IntKind.i64.wrap ((i : Int) + 1) = (i : Int) + 1 := by rw [IntKind.wrap_i64]; omega
  have hw2 : IntKind.i64.wrap ((n : Int) + 1) = (n : Int) + 1 := by rw [IntKind.wrap_i64]; omega
  have hb1 : (0 : Int) ≤ (i : Int) + 1 := by omega
  have hin : i ≤ n := by omega
  have htn : ((i : Int) + 1).toNat = i + 1 := by omega
  have htn2 : ((n : Int) + 1).toNat = n + 1 := by omega
  have hb3 : (i : Int) ≤ (n : Int) + 1 := by omega
  clear hsp1 hW1v hW1f hsp hfz hcs hvs h1c h1v
  have mixed : Tryz.prog.follows Departure.mixedOrders = true := by kernel_rfl
  go_enter Tryz.func43, Tryz.ntmps43
  go_wp2_with (simp only [hov])
  go_region_law_o (refine step_copy_runI rfl _ _ 22 22 rfl _ _ (by simp [Act.eval, Act.put]) (by simp [Act.eval, Act.put]) (hcp1 _ _ _) ?_)
  go_wp2_with (at_builtin; refine wpList_copy_runI _ rfl _ _ 22 22 rfl _ _ rfl rfl (hcp2 _ (fun _ => rfl) (fun _ => rfl) _ _) ?_)
  go_ret
  exact ⟨rfl, by rw [hW1]⟩
set_option maxHeartbeats 4000000 in
set_option maxRecDepth 100000 in
/-- There is no room, and something stands behind: a new row. -/
theorem zSF (b n i vb cv : Nat) (cs vs : List Value) (w : World) (hi : i < n) (hbig : (n + 1) * 24 ≤ 140737488355328) (hcl : cs.length = n * 3) (hvl : vs.length = 3)
    (hcs : ∀ j v, cs[j]? = some v → w.cell? ⟨b, j, none⟩ = some v) (hvs : ∀ j v, vs[j]? = some v → w.cell? ⟨vb, j, none⟩ = some v) (h1c : ∀ v ∈ cs, v.oneCell' = true) (h1v : ∀ v ∈ vs, v.oneCell' = true) :
    Calls Tryz.prog 43 #[.slice (some ⟨b, 0, none⟩) n n, .int .i64 i, .slice (some ⟨vb, 0, none⟩) 1 cv] w fun e w' =>
      e = .returned (.slice (some ⟨w.heap.size, 0, none⟩) (n + 1) (grownCap w (n + 1) n 26)) ∧
      w' = (((w.alloc (.cells ((cs.take (i * 3)).toArray ++ Builtin.zeroCells (Value.agg #[(.int .i64 0), (.int .i64 0), (.int .i64 0)]).cells (n + 1 - i) ++ Builtin.zeroCells (Value.agg #[(.int .i64 0), (.int .i64 0), (.int .i64 0)]).cells (grownCap w (n + 1) n 26 - (n + 1))) 26)).drew.setCells w.heap.size (i * 3) vs).drew).setCells w.heap.size ((i + 1) * 3) (cs.drop (i * 3)) := by
  have uS := run_underlying Tryz.underlying22 (P := Tryz.prog)
  have u3 := run_underlying Tryz.underlying3 (P := Tryz.prog)
  have hz := zI
  have mixed : Tryz.prog.follows Departure.mixedOrders = true := by kernel_rfl
  obtain ⟨i0, hi0, hz0, hzs, hzb⟩ := info_parts infoI
  have hbw : b < w.heap.size := block_lt_of_cell (hcs 0 _ (List.getElem?_eq_getElem (by omega)))
  have hvw : vb < w.heap.size := block_lt_of_cell (hvs 0 _ (List.getElem?_eq_getElem (by omega)))
  have hold : (Builtin.firstCells i0.size i (.slice (some ⟨b, 0, none⟩) i n)).run Tryz.prog w.drew = .ok (cs.take (i * 3)).toArray w.drew := by
    rw [hzs]
    exact run_firstCells_some w.drew 3 i ⟨b, 0, none⟩ i n (cs.take (i * 3)) (by rw [List.length_take]; omega) (fun j v hj => by
      rw [Addr.add_lit]
      rw [List.getElem?_take] at hj
      split at hj
      · rw [Nat.zero_add]; exact hcs j v hj
      · cases hj)
  have hik : i + (n + 1 - i) = n + 1 := by omega
  have hkk : (n : Int) + 1 - (i : Int) = ((n + 1 - i : Nat) : Int) := by omega
  have hrz : ∀ ty, (Builtin.append_ #[22, 3] ty #[.slice (some ⟨b, 0, none⟩) i n, .int .i64 ((n + 1 - i : Nat) : Int)]).run Tryz.prog w =
      .ok (.slice (some ⟨w.heap.size, 0, none⟩) (n + 1) (grownCap w (n + 1) n 26)) (w.drew.alloc (.cells ((cs.take (i * 3)).toArray ++ Builtin.zeroCells (Value.agg #[(.int .i64 0), (.int .i64 0), (.int .i64 0)]).cells (n + 1 - i) ++ Builtin.zeroCells (Value.agg #[(.int .i64 0), (.int .i64 0), (.int .i64 0)]).cells (grownCap w (n + 1) n 26 - (n + 1))) 26)) := by
    intro ty
    have h := Lib.run_append_grow_zeros w 22 3 ty 26 i0 _ .i64 .i64 Tryz.underlying22 Tryz.underlying3 hi0 hz0 (some ⟨b, 0, none⟩) i n (cs.take (i * 3)) hold (n + 1 - i) (by omega) (by omega) (by omega) (by omega) (by rw [hzb]; omega) (by rw [hzb, hik]; exact growslice_fits (by omega) hbig)
    rw [hik] at h
    exact h
  obtain ⟨G, hG⟩ : ∃ G, G = grownCap w (n + 1) n 26 := ⟨_, rfl⟩
  obtain ⟨ROW, hROW⟩ : ∃ ROW : Array Value, ROW = (cs.take (i * 3)).toArray ++ Builtin.zeroCells (Value.agg #[(.int .i64 0), (.int .i64 0), (.int .i64 0)]).cells (n + 1 - i) ++ Builtin.zeroCells (Value.agg #[(.int .i64 0), (.int .i64 0), (.int .i64 0)]).cells (G - (n + 1)) := ⟨_, rfl⟩
  rw [← hG] at hrz ⊢
  rw [← hROW] at hrz ⊢
  have hRl : (n + 1) * 3 ≤ ROW.size := by
    rw [hROW]
    simp [Builtin.zeroCells, Value.cells, hcl]
    omega
  obtain ⟨W1, hW1⟩ : ∃ W1, W1 = w.drew.alloc (.cells ROW 26) := ⟨_, rfl⟩
  rw [← hW1] at hrz
  have hN : ∀ j, j < (n + 1) * 3 → (W1.cell? ⟨w.heap.size, j, none⟩).isSome = true := fun j hj => by
    rw [hW1, World.cell?_alloc_at (w := w.drew) ROW _ w.heap.size j rfl, Array.getElem?_eq_getElem (by omega)]; rfl
  have hNf : ∀ j, W1.frozen? ⟨w.heap.size, j, none⟩ = false := fun j => by rw [hW1]; exact World.frozen?_alloc_at (w := w.drew) ROW _ w.heap.size j rfl
  have hOb : ∀ j v, w.cell? ⟨b, j, none⟩ = some v → W1.cell? ⟨b, j, none⟩ = some v := fun j v h => by rw [hW1, World.cell?_alloc_past (w := w.drew) _ b j hbw]; exact h
  have hOv : ∀ j v, w.cell? ⟨vb, j, none⟩ = some v → W1.cell? ⟨vb, j, none⟩ = some v := fun j v h => by rw [hW1, World.cell?_alloc_past (w := w.drew) _ vb j hvw]; exact h
  have hcpA : ∀ (W : World), (∀ x, W.cell? x = W1.cell? x) → (∀ x, W.frozen? x = W1.frozen? x) → ∀ ty dc, (Builtin.copy_ #[22, 22] ty #[.slice (some ⟨w.heap.size, i * 3, none⟩) (n + 1 - i) dc, .slice (some ⟨vb, 0, none⟩) 1 cv]).run Tryz.prog W = .ok (goInt ((1 : Nat) : Int)) (W.setCells w.heap.size (i * 3) vs) := fun W hWc hWf ty dc =>
    zBE W 22 22 ty 26 w.heap.size (i * 3) (n + 1 - i) dc ⟨vb, 0, none⟩ 1 cv vs 3 1 Tryz.underlying22 sizeI (by simp only [Nat.min_def]; split <;> omega) (by rw [hvl])
      (fun j v hj => by rw [Addr.add_lit, hWc, Nat.zero_add]; exact hOv _ v (hvs j v hj))
      (fun j hj => by rw [hWc]; exact hN _ (by omega)) (fun j hj => by rw [hWf]; exact hNf _) h1v
  have hGn : n + 1 ≤ G := by rw [hG]; exact grownCap_ge w _ _ _
  have hG63 : G ≤ 9223372036854775807 := by
    have := grownCap_le_maxLen w (n + 1) n 26 (by unfold maxLen; omega)
    rw [← hG] at this
    unfold maxLen at this
    omega
  have hGi : ¬ (G = i) := by omega
  have hGim : ¬ (G = i + 1) := by omega
  have hci : ¬ (n = i) := by omega
  have hbN : b ≠ w.heap.size := by omega
  have hdl : (cs.drop (i * 3)).length = (n - i) * 3 := by rw [List.length_drop, hcl]; omega
  have hcpB : ∀ (W : World), (∀ x, W.cell? x = (W1.setCells w.heap.size (i * 3) vs).cell? x) → (∀ x, W.frozen? x = (W1.setCells w.heap.size (i * 3) vs).frozen? x) → ∀ ty dc sc, (Builtin.copy_ #[22, 22] ty #[.slice (some ⟨w.heap.size, (i + 1) * 3, none⟩) (n - i) dc, .slice (some ⟨b, i * 3, none⟩) (n - i) sc]).run Tryz.prog W = .ok (goInt ((n - i : Nat) : Int)) (W.setCells w.heap.size ((i + 1) * 3) (cs.drop (i * 3))) := fun W hWc hWf ty dc sc =>
    zBE W 22 22 ty 26 w.heap.size ((i + 1) * 3) (n - i) dc ⟨b, i * 3, none⟩ (n - i) sc (cs.drop (i * 3)) 3 (n - i) Tryz.underlying22 sizeI (by simp only [Nat.min_def]; split <;> omega) hdl
      (fun j v hj => by
        rw [Addr.add_lit, hWc, World.cell?_setCells_out _ _ _ _ _ (fun h _ => absurd h hbN)]
        exact hOb _ v (hcs (i * 3 + j) v (by rwa [List.getElem?_drop] at hj)))
      (fun j hj => by rw [hWc]; exact isSome_setCells _ _ _ _ (fun t ht => hN _ (by omega)) _ (hN _ (by omega)))
      (fun j hj => by rw [hWf, World.frozen?_setCells]; exact hNf _) (fun v hv => h1c v (List.mem_of_mem_drop hv))
  subst hW1
  have hE1 : ∀ x, ((w.alloc (.cells ROW 26)).drew).cell? x = (w.drew.alloc (.cells ROW 26)).cell? x := fun x => rfl
  have hE2 : ∀ x, ((w.alloc (.cells ROW 26)).drew).frozen? x = (w.drew.alloc (.cells ROW 26)).frozen? x := fun x => rfl
  have hF1 : ∀ x, (((w.alloc (.cells ROW 26)).drew.setCells w.heap.size (i * 3) vs).drew).cell? x = ((w.drew.alloc (.cells ROW 26)).setCells w.heap.size (i * 3) vs).cell? x := fun x => rfl
  have hF2 : ∀ x, (((w.alloc (.cells ROW 26)).drew.setCells w.heap.size (i * 3) vs).drew).frozen? x = ((w.drew.alloc (.cells ROW 26)).setCells w.heap.size (i * 3) vs).frozen? x := fun x => rfl
  have hz1 : ¬ ((i : Int) = (n : Int)) := by omega
  have hz3 : (n : Int) < (n : Int) + 1 := by omega
  have hw1 : IntKind.i64.wrap ((i : Int) + 1) = (i : Int) + 1 := by rw [IntKind.wrap_i64]; omega
  have hw2 : IntKind.i64.wrap ((n : Int) + 1) = (n : Int) + 1 := by rw [IntKind.wrap_i64]; omega
  have hw3 : IntKind.i64.wrap ((n : Int) + 1 - (i : Int)) = (n : Int) + 1 - (i : Int) := by rw [IntKind.wrap_i64]; omega
  have hb1 : (0 : Int) ≤ (i : Int) + 1 := by omega
  have hin : i ≤ n := by omega
  have htn : ((i : Int) + 1).toNat = i + 1 := by omega
  have hb3 : (i : Int) ≤ (n : Int) + 1 := by omega
  clear hold hROW hG hRl
  go_enter Tryz.func43, Tryz.ntmps43
  go_wp2_with (first
    | (at_builtin; refine Lib.wpList_append_run _ rfl _ _ _ _ rfl _ _ rfl rfl _ _ (hrz _) ?_)
    | (at_builtin; refine wpList_copy_runI _ rfl _ _ 22 22 rfl _ _ rfl rfl (hcpA _ hE1 hE2 _ _) ?_)
    | (at_builtin; refine wpList_copy_runI _ rfl _ _ 22 22 rfl _ _ rfl rfl (hcpB _ (fun _ => rfl) (fun _ => rfl) _ _ _) ?_))
  go_region_law_o (refine step_copy_runI rfl _ _ 22 22 rfl (.slice (some ⟨w.heap.size, (i + 1) * 3, none⟩) (n - i) (G - (i + 1))) (.slice (some ⟨b, i * 3, none⟩) (n - i) (n - i)) (by simp [Act.eval, Act.put]) (by simp [Act.eval, Act.put]) (hcpB _ hF1 hF2 3 (G - (i + 1)) (n - i)) ?_)
  go_wp2
  go_ret
  exact ⟨rfl, rfl⟩
set_option maxHeartbeats 4000000 in
set_option maxRecDepth 100000 in
/-- At the end: append. -/
theorem zWO (base n vb cv : Nat) (v : Value) (xs vs : List Value) (w : World) (hown : w.ownsRow base 26 3 v n xs) (hbig : (n + 1) * 24 ≤ 140737488355328) (hvl : vs.length = 3) (hbase : base ≤ w.heap.size)
    (hvs : ∀ j v, vs[j]? = some v → w.cell? ⟨vb, j, none⟩ = some v) (h1v : ∀ v ∈ vs, v.oneCell' = true) :
    Calls Tryz.prog 43 #[v, .int .i64 n, .slice (some ⟨vb, 0, none⟩) 1 cv] w fun e w' => ∃ v', e = .returned v' ∧ w'.ownsRow base 26 3 v' (n + 1) (xs ++ vs) ∧ w.grownBy w' v.ownBlock := by
  have uS := run_underlying Tryz.underlying22 (P := Tryz.prog)
  have u3 := run_underlying Tryz.underlying3 (P := Tryz.prog)
  have hz := zI
  obtain ⟨i0, hi0, hz0, hzs, hzb⟩ := info_parts infoI
  have hown0 := hown
  have hvs' : ∀ j u, vs[j]? = some u → w.cell? ((⟨vb, 0, none⟩ : Addr).add j) = some u := fun j u h => by rw [Addr.add_lit, Nat.zero_add]; exact hvs j u h
  have h63 : n + 1 ≤ maxLen := by unfold maxLen; omega
  have hvl1 : vs.length = 1 * 3 := by omega
  have hb1 : (0 : Int) ≤ (n : Int) := by omega
  have hbn : n ≤ n := Nat.le_refl n
  rcases hown.2 with ⟨rfl, rfl⟩ | ⟨g, cap, cur, rfl, hg, hh, hnc, hcm, _⟩
  · go_enter Tryz.func43, Tryz.ntmps43
    go_wp2_with (at_builtin; refine wpList_append_own _ rfl _ _ 22 rfl base 26 i0 ((.agg #[(.int .i64 0), (.int .i64 0), (.int .i64 0)])) 3 24 Tryz.underlying22 hi0 hz0 hzs hzb rfl (by decide) (.slice none 0 0) 0 xs rfl hown0 ⟨vb, 0, none⟩ 1 cv vs rfl hvl1 hvs' h1v h63 hbig hbase ?_; intro v' w' ho hgr _)
    go_ret
    exact ⟨_, rfl, ho, hgr⟩
  · have hcap : cap ≤ 9223372036854775807 := by unfold maxLen at hcm; omega
    go_enter Tryz.func43, Tryz.ntmps43
    go_wp2_with (at_builtin; refine wpList_append_own _ rfl _ _ 22 rfl base 26 i0 ((.agg #[(.int .i64 0), (.int .i64 0), (.int .i64 0)])) 3 24 Tryz.underlying22 hi0 hz0 hzs hzb rfl (by decide) (.slice (some ⟨g, 0, none⟩) n cap) n xs rfl hown0 ⟨vb, 0, none⟩ 1 cv vs rfl hvl1 hvs' h1v h63 hbig hbase ?_; intro v' w' ho hgr _)
    all_goals
      go_ret
      exact ⟨_, rfl, ho, hgr⟩
end Go.Proofs.YtholbmidciapdaaGreatDoor.X
namespace Go.Proofs.YtholbmidciapdaaGreatDoor.X
open Go Go.RowKit Go.Lib Go.Proofs Go.Shelf
theorem zHY (b : Nat) : ∀ (vs : List Value) (o : Nat) (w : World), (w.setCells b o vs).tape = w.tape
  | [], _, _ => rfl
  | v :: r, o, w => by rw [World.setCells, zHY b r]; rfl
theorem zGQ (b : Nat) : ∀ (vs : List Value) (o : Nat) (w : World), (w.setCells b o vs).heap.size = w.heap.size
  | [], _, _ => rfl
  | v :: r, o, w => by rw [World.setCells, zGQ b r]; simp
theorem zAT (w w1 : World) (b o : Nat) (vs : List Value) (row : Option Nat) (h : w.grownBy w1 row) (hb : row = some b ∨ w.heap.size ≤ b) : w.grownBy (w1.setCells b o vs) row :=
  ⟨(World.os_setCells w1 b o vs).trans h.os, (zHY b vs o w1).trans h.tape, (World.output_setCells w1 b o vs).trans h.output, by rw [zGQ]; exact h.size, fun k hk hne => by
    rw [World.heap_setCells_other w1 b o vs (Nat.lt_of_lt_of_le hk h.size) (by
      rintro rfl
      rcases hb with hb | hb
      · exact hne hb.symm
      · omega)]
    exact h.block k hk hne⟩
theorem grownBy_drew {w w1 : World} {row : Option Nat} (h : w.grownBy w1 row) : w.grownBy w1.drew row := ⟨h.os, h.tape, h.output, h.size, h.block⟩
theorem zDN {w : World} {b : Nat} {t : TypeId} {c : Array Value} (h : w.heap[b]? = some (.cells c t (0, 0))) (o : Nat) (vs : List Value) (hf : o + vs.length ≤ c.size) :
    ∃ c' : Array Value, (w.setCells b o vs).heap[b]? = some (.cells c' t (0, 0)) ∧ c'.size = c.size ∧ (∀ j, j < vs.length → c'[o + j]? = vs[j]?) ∧ ∀ j, j < o ∨ o + vs.length ≤ j → c'[j]? = c[j]? := by
  have h0 : w.rowIs b t c.size (fun j => c[j]?.getD default) := ⟨c, h, rfl, fun i hi => by simp [Array.getElem?_eq_getElem hi]⟩
  obtain ⟨c', h1, h2, h3⟩ := rowIs_setCells vs o w _ h0
  simp only at h3
  refine ⟨c', h1, h2, fun j hj => ?_, fun j hj => ?_⟩
  · rw [h3 (o + j) (by omega), if_pos ⟨by omega, by omega⟩, show o + j - o = j by omega, List.getElem?_eq_getElem hj]
    rfl
  · by_cases hc : j < c.size
    · rw [h3 j hc, if_neg (by omega), Array.getElem?_eq_getElem hc]
      rfl
    · rw [Array.getElem?_eq_none (by omega), Array.getElem?_eq_none (by omega)]
theorem taken (c : Array Value) (xs vs : List Value) (n i : Nat) (hi : i ≤ n) (hx : xs.length = n * 3) (hv : vs.length = 3) (h1 : ∀ j, j < i * 3 → c[j]? = xs[j]?) (h2 : ∀ j, j < 3 → c[i * 3 + j]? = vs[j]?)
    (h3 : ∀ j, j < (n - i) * 3 → c[(i + 1) * 3 + j]? = xs[i * 3 + j]?) : c.toList.take ((n + 1) * 3) = xs.take (i * 3) ++ vs ++ xs.drop (i * 3) := by
  apply List.ext_getElem?
  intro j
  have hm : min (i * 3) (n * 3) = i * 3 := by omega
  rw [List.getElem?_take, List.append_assoc, List.getElem?_append, List.length_take, hx, hm]
  by_cases hA : j < i * 3
  · rw [if_pos (by omega), if_pos hA, List.getElem?_take, if_pos hA]
    simpa using h1 j hA
  · rw [if_neg hA, List.getElem?_append, hv]
    by_cases hB : j - i * 3 < 3
    · rw [if_pos (by omega), if_pos hB]
      have := h2 (j - i * 3) hB
      rw [show i * 3 + (j - i * 3) = j by omega] at this
      simpa using this
    · rw [if_neg hB, List.getElem?_drop]
      by_cases hC : j < (n + 1) * 3
      · rw [if_pos hC]
        have := h3 (j - (i + 1) * 3) (by omega)
        rw [show (i + 1) * 3 + (j - (i + 1) * 3) = j by omega] at this
        rw [show i * 3 + (j - i * 3 - 3) = i * 3 + (j - (i + 1) * 3) by omega]
        simpa using this
      · rw [if_neg hC]
        symm
        apply List.getElem?_eq_none
        omega
set_option maxHeartbeats 4000000 in
theorem zWN (base n i vb cv : Nat) (curv : Array Value) (v : Value) (xs vs : List Value) (w : World) (hin : i ≤ n) (hown : w.ownsRow base 26 3 v n xs) (hbig : (n + 1) * 24 ≤ 140737488355328) (hvl : vs.length = 3) (hbase : base ≤ w.heap.size)
    (hvb : v.ownBlock ≠ some vb) (hvr : w.heap[vb]? = some (.cells curv 26 (0, 0))) (hvc : curv.toList.take 3 = vs) (h1v : ∀ v ∈ vs, v.oneCell' = true) (h1x : ∀ v ∈ xs, v.oneCell' = true) :
    Calls Tryz.prog 43 #[v, .int .i64 i, .slice (some ⟨vb, 0, none⟩) 1 cv] w fun e w' => ∃ v', e = .returned v' ∧ w'.ownsRow base 26 3 v' (n + 1) (xs.take (i * 3) ++ vs ++ xs.drop (i * 3)) ∧ w.grownBy w' v.ownBlock := by
  have hvs : ∀ j v, vs[j]? = some v → w.cell? ⟨vb, j, none⟩ = some v := fun j v h => by
    rw [cell_of_row w vb j _ _ _ hvr]
    rw [← hvc, List.getElem?_take] at h
    split at h
    · simpa using h
    · cases h
  have hlen := hown.1
  by_cases hi : i = n
  · subst hi
    have e1 : xs.take (i * 3) ++ vs ++ xs.drop (i * 3) = xs ++ vs := by rw [List.take_of_length_le (by omega), List.drop_of_length_le (by omega), List.append_nil]
    rw [e1]
    exact zWO base i vb cv v xs vs w hown hbig hvl hbase hvs h1v
  · have hi' : i < n := by omega
    have hl : (xs.take (i * 3) ++ vs ++ xs.drop (i * 3)).length = (n + 1) * 3 := by simp only [List.length_append, List.length_take, List.length_drop, hlen, hvl]; omega
    rcases hown.2 with ⟨_, rfl⟩ | ⟨g, cap, cur, rfl, hg, hh, hnc, hcm, hcs, htake⟩
    · omega
    have hgv : g ≠ vb := fun h => hvb (by simp [Value.ownBlock, h])
    have hcell : ∀ j, w.cell? ⟨g, j, none⟩ = cur[j]? := fun j => cell_of_row w g j _ _ _ hh
    have hxc : ∀ j, j < n * 3 → cur[j]? = xs[j]? := fun j hj => by rw [← htake, List.getElem?_take, if_pos hj]; simp
    have hcs' : ∀ j v, xs[j]? = some v → w.cell? ⟨g, j, none⟩ = some v := fun j v h => by
      have hj : j < xs.length := (List.getElem?_eq_some_iff.1 h).1
      rw [hcell, hxc j (by omega), h]
    have hgw : g < w.heap.size := (Array.getElem?_eq_some_iff.1 hh).1
    by_cases hroom : n + 1 ≤ cap
    · have hfz : ∀ j, w.frozen? ⟨g, j, none⟩ = false := fun j => frozen_of_row w g j _ _ hh
      have hsa : w.shape? vb = some (26, curv.size) := by simp [World.shape?, hvr]
      have hsb : w.shape? g = some (26, cur.size) := by simp [World.shape?, hh]
      refine (zQQ g n cap i vb cv xs vs w hi' hroom (by unfold maxLen at hcm; omega) (Ne.symm hgv) hlen hvl hcs' (fun j hj => by rw [hcell, Array.getElem?_eq_getElem (by omega)]; rfl) (fun j _ => hfz j) hvs h1x h1v 26 26 curv.size cur.size hsa hsb (by omega) (frozen_of_row w vb _ _ _ hvr) (frozen_of_row w vb _ _ _ hvr)).mono ?_
      rintro e w' ⟨rfl, rfl⟩
      have hd1 : w.drew.heap[g]? = some (.cells cur 26 (0, 0)) := hh
      obtain ⟨c1, q1, q2, q3, q4⟩ := zDN hd1 ((i + 1) * 3) (xs.drop (i * 3)) (by rw [List.length_drop, hlen]; omega)
      obtain ⟨c2, r1, r2, r3, r4⟩ := zDN q1 (i * 3) vs (by rw [hvl]; omega)
      rw [List.length_drop, hlen] at q3 q4
      rw [hvl] at r3 r4
      refine ⟨_, rfl, ⟨hl, .inr ⟨g, cap, c2, rfl, hg, r1, hroom, hcm, by omega, ?_⟩⟩, ?_⟩
      · refine taken c2 xs vs n i hin hlen hvl (fun j hj => ?_) (fun j hj => r3 j hj) (fun j hj => ?_)
        · rw [r4 j (by omega), q4 j (by omega), hxc j (by omega)]
        · rw [r4 _ (by omega), q3 j (by omega), List.getElem?_drop]
      · exact zAT _ _ _ _ _ _ (zAT _ _ _ _ _ _ (grownBy_drew ⟨rfl, rfl, rfl, Nat.le_refl _, fun _ _ _ => rfl⟩) (.inl rfl)) (.inl rfl)
    · have hcn : cap = n := by omega
      subst hcn
      refine (zSF g cap i vb cv xs vs w hi' hbig hlen hvl hcs' hvs h1x h1v).mono ?_
      rintro e w' ⟨rfl, rfl⟩
      obtain ⟨G, hG⟩ : ∃ G, G = grownCap w (cap + 1) cap 26 := ⟨_, rfl⟩
      have hGn : cap + 1 ≤ G := by rw [hG]; exact grownCap_ge w _ _ _
      have hGm : G ≤ maxLen := by rw [hG]; exact grownCap_le_maxLen w (cap + 1) cap 26 (by unfold maxLen; omega)
      rw [← hG]
      obtain ⟨ROW, hROW⟩ : ∃ ROW : Array Value, ROW = (xs.take (i * 3)).toArray ++ Builtin.zeroCells (Value.agg #[(.int .i64 0), (.int .i64 0), (.int .i64 0)]).cells (cap + 1 - i) ++ Builtin.zeroCells (Value.agg #[(.int .i64 0), (.int .i64 0), (.int .i64 0)]).cells (G - (cap + 1)) := ⟨_, rfl⟩
      rw [← hROW]
      have hRs : ROW.size = G * 3 := by
        rw [hROW]
        simp [Builtin.zeroCells, Value.cells, hlen]
        omega
      have hR1 : ∀ j, j < i * 3 → ROW[j]? = xs[j]? := fun j hj => by
        rw [hROW, Array.getElem?_append_left (by simp [Builtin.zeroCells, Value.cells, hlen]; omega), Array.getElem?_append_left (by simp [hlen]; omega)]
        simp [List.getElem?_take, hj]
      have hd1 : ((w.alloc (.cells ROW 26)).drew).heap[w.heap.size]? = some (.cells ROW 26 (0, 0)) := heap_alloc_new w _
      obtain ⟨c1, q1, q2, q3, q4⟩ := zDN hd1 (i * 3) vs (by rw [hvl]; omega)
      have q1' : (((w.alloc (.cells ROW 26)).drew.setCells w.heap.size (i * 3) vs).drew).heap[w.heap.size]? = some (.cells c1 26 (0, 0)) := q1
      obtain ⟨c2, r1, r2, r3, r4⟩ := zDN q1' ((i + 1) * 3) (xs.drop (i * 3)) (by rw [List.length_drop, hlen]; omega)
      rw [List.length_drop, hlen] at r3 r4
      rw [hvl] at q3 q4
      refine ⟨_, rfl, ⟨hl, .inr ⟨w.heap.size, G, c2, rfl, hbase, r1, hGn, hGm, by omega, ?_⟩⟩, ?_⟩
      · refine taken c2 xs vs cap i hin hlen hvl (fun j hj => ?_) (fun j hj => ?_) (fun j hj => ?_)
        · rw [r4 j (by omega), q4 j (by omega), hR1 j (by omega)]
        · rw [r4 _ (by omega), q3 j (by omega)]
        · rw [r3 j (by omega), List.getElem?_drop]
      · refine zAT _ _ _ _ _ _ (grownBy_drew (zAT _ _ _ _ _ _ (grownBy_drew (World.grownBy_alloc w _ _)) (.inr (Nat.le_refl _)))) (.inr (Nat.le_refl _))
end Go.Proofs.YtholbmidciapdaaGreatDoor.X
namespace Go.Proofs.YtholbmidciapdaaGreatDoor.Pr
open Go.RowKit Go.Proofs.YtholbmidciapdaaGreatDoorW.PrintWords Go.Proofs.YtholbmidciapdaaGreatDoorW.PrintLast Go.Proofs.YtholbmidciapdaaGreatDoorW.PrintMore Go.Proofs.YtholbmidciapdaaGreatDoor.X
attribute [local go_sem] uR uP kP kO jN jM uQ uO   -- for this text's walks alone
set_option linter.unusedVariables false
set_option linter.unusedSimpArgs false
def uA (l : List S26) : List Value := l.flatMap fun x => [Value.int .i64 x.f0, Value.int .i64 x.f1, Value.int .i64 x.f2]
theorem zEU (x : S26) (r : List S26) : uA (x :: r) = .int .i64 x.f0 :: .int .i64 x.f1 :: .int .i64 x.f2 :: uA r := rfl
theorem zIQ (a b : List S26) : uA (a ++ b) = uA a ++ uA b := by simp [uA]
theorem zNG (l : List S26) : (uA l).length = l.length * 3 := by
 induction l with
 | nil => rfl
 | cons x r ih => rw [zEU]; simp only [List.length_cons, ih]; omega
theorem zWV (ys : List S26) : ∀ (j : Nat) (p : S26), ys[j]? = some p → ((uA ys).drop (j * 3)).take 3 = [.int .i64 p.f0, .int .i64 p.f1, .int .i64 p.f2] := by
 induction ys with
 | nil => intro j p hp; simp at hp
 | cons y r ih =>
  intro j p hp
  cases j with
  | zero => obtain rfl := Option.some.inj hp; rfl
  | succ j =>
   have := ih j p (by simpa using hp)
   rw [show (j + 1) * 3 = j * 3 + 1 + 1 + 1 from by omega]
   exact this
theorem zUU (l : List S26) : ∀ i, (uA l).take (i * 3) = uA (l.take i) := by
 induction l with
 | nil => intro i; simp [uA]
 | cons x r ih =>
  intro i
  cases i with
  | zero => simp [uA]
  | succ i => rw [show (i + 1) * 3 = i * 3 + 1 + 1 + 1 from by omega, zEU, List.take_succ_cons, List.take_succ_cons, List.take_succ_cons, ih i, List.take_succ_cons, zEU]
theorem zUW (l : List S26) : ∀ i, (uA l).drop (i * 3) = uA (l.drop i) := by
 induction l with
 | nil => intro i; simp [uA]
 | cons x r ih =>
  intro i
  cases i with
  | zero => simp [uA]
  | succ i => rw [show (i + 1) * 3 = i * 3 + 1 + 1 + 1 from by omega, zEU, List.drop_succ_cons, List.drop_succ_cons, List.drop_succ_cons, ih i, List.drop_succ_cons]
theorem zNF (l : List S26) : ∀ v ∈ uA l, v.oneCell' = true := by
 intro v hv
 obtain ⟨x, _, h⟩ := List.mem_flatMap.1 hv
 simp only [List.mem_cons, List.not_mem_nil, or_false] at h
 rcases h with rfl | rfl | rfl <;> rfl
theorem wAQ {l : List S26} : ∀ {inner : List Value}, inner.length = l.length * 3 → (∀ j p, l[j]? = some p → (inner.drop (j * 3)).take 3 = [.int .i64 p.f0, .int .i64 p.f1, .int .i64 p.f2]) → inner = uA l := by
 induction l with
 | nil => intro inner hl _; exact List.eq_nil_of_length_eq_zero (by simpa using hl)
 | cons x r ih =>
  intro inner hl h
  have h0 := h 0 x rfl
  rw [Nat.zero_mul, List.drop_zero] at h0
  have h1 : inner.drop 3 = uA r := ih (by rw [List.length_drop, hl, List.length_cons]; omega) (fun j p hp => by
   have := h (j + 1) p (by simpa using hp)
   rw [List.drop_drop, show 3 + j * 3 = (j + 1) * 3 by omega]
   exact this)
  rw [← List.take_append_drop 3 inner, h0, h1]
  rfl
theorem zRS {w : World} {base : Nat} {v : Value} {xs : List S26} (h : w.ownsRow base 26 3 v xs.length (uA xs)) : Kd.R k26 26 w base (fun _ => True) v xs :=
 ⟨fun _ _ => trivial, uA xs, h, zNG xs, fun j p hp => by
  have e := zWV xs j p hp
  show k26.M _ _ _ p (((uA xs).drop (j * 3)).take 3)
  rw [e]
  exact jL _ _ _ p⟩
theorem zPY {w : World} {base : Nat} {ok : Nat → Prop} {v : Value} {xs : List S26} (h : Kd.R k26 26 w base ok v xs) : w.ownsRow base 26 3 v xs.length (uA xs) := by
 obtain ⟨_, inner, ho, hl, hr⟩ := h
 have e : inner = uA xs := wAQ hl (fun j p hp => zKR (hr j p hp))
 rw [← e]
 exact ho
def qM.f (l0 : List S26) (i : Int) (xs : List S26) : Option (List S26) := if 0 ≤ i ∧ i ≤ (l0.length : Int) ∧ xs.length = 1 ∧ l0.length < 1099511627776 then some (l0.take i.toNat ++ xs ++ l0.drop i.toNat) else none
theorem qM.own {base : Nat} {A A1 : Option Addr} {c0 c1 : Nat} {l0 xs r : List S26} {i : Int} {w : World} {okA okB : Nat → Prop} (HO : Kd.R k26 26 w base okA (.slice A l0.length c0) l0) (HX : Kd.R k26 26 w base okB (.slice A1 xs.length c1) xs)
  (hne : ∀ k, okB k → some k ≠ (Value.slice A l0.length c0).ownBlock) (hbase : base ≤ w.heap.size) (h : qM.f l0 i xs = some r) :
  Calls Tryz.prog 43 #[.slice A l0.length c0, .int .i64 i, .slice A1 xs.length c1] w fun e w' => ∃ v, e = .returned v ∧ Kd.R k26 26 w' base (fun _ => True) v r ∧ w.grownBy w' (Value.slice A l0.length c0).ownBlock := by
 unfold qM.f at h
 by_cases hc : 0 ≤ i ∧ i ≤ (l0.length : Int) ∧ xs.length = 1 ∧ l0.length < 1099511627776
 case neg => rw [if_neg hc] at h; cases h
 rw [if_pos hc] at h
 obtain rfl := Option.some.inj h
 obtain ⟨h0, h1, h2, h3⟩ := hc
 obtain ⟨n, rfl⟩ : ∃ n : Nat, i = (n : Int) := ⟨i.toNat, by omega⟩
 have ho := zPY HO
 have hx := zPY HX
 have hok := HX.1
 rw [Int.toNat_natCast]
 rw [h2] at hx hok ⊢
 rcases hx.2 with ⟨_, hz⟩ | ⟨g, cap, cur, e, hg, hh, _, _, _, htake⟩
 ·
  cases hz
 simp only [Value.slice.injEq] at e
 obtain ⟨rfl, _, rfl⟩ := e
 have hb : (Value.slice A l0.length c0).ownBlock ≠ some g := fun e => hne g (hok g rfl) e.symm
 refine (X.zWN base l0.length n g c1 cur _ (uA l0) (uA xs) w (by omega) ho (by omega) (by rw [zNG, h2]) hbase hb hh (by simpa using htake) (zNF xs) (zNF l0)).mono ?_
 rintro e w' ⟨v', rfl, ho', hgr⟩
 refine ⟨v', rfl, zRS ?_, hgr⟩
 rw [zUU, zUW, ← zIQ, ← zIQ] at ho'
 have hl : (l0.take n ++ xs ++ l0.drop n).length = l0.length + 1 := by simp only [List.length_append, List.length_take, List.length_drop, h2]; omega
 rw [hl]
 exact ho'
def qR.f (k : Nat) (a0_0 : Int) (l0_1 : List (S26)) (a1_0 : Int) (a1_1 : Int) (a1_2 : Int) : Option (Int × (List (S26)) × Int) := (vJ.f k a0_0 l0_1).bind fun t134 => (if t134 = true then ((qP.f a1_0 a1_1 a1_2).bind fun t135 => (if t135 = true then ((qC.f l0_1).bind fun t136 => ((zZ.f k t136 a1_0 a1_1 a1_2).bind fun bt140 => (if bt140.2 = true then (if 0 ≤ bt140.1 then (if bt140.1 < (t136.length : Int) then (some (a0_0, (t136.set (bt140.1 : Int).toNat (⟨a1_0, a1_1, a1_2⟩ : S26)), 0)) else (none)) else (none)) else ((qM.f t136 bt140.1 (([(⟨a1_0, a1_1, a1_2⟩ : S26)] : List (S26)))).bind fun t146 => (if (t146.length : Int) > 64 then (some (0, ([] : List (S26)), 8)) else (some (a0_0, t146, 0))))))) else (some (0, ([] : List (S26)), 2)))) else (some (0, ([] : List (S26)), 1)))
def qR.T5 : Bool × List (List Nat × List Nat) := (true, [([], []), ([0], [0]), ([], []), ([2], [2]), ([3], [3]), ([1, 4], [1, 4]), ([], []), ([6, 5, 4, 0, 1, 2, 3, 4, 5, 6], [5, 6])])
def qR.B5 : List Nat := [0, 1, 0, 4, 12, 31, 0, 127]
theorem qR.tab5 : rtab .any (opsOf Tryz.f16 5) = qR.T5 := by kernel_rfl
theorem qR.zXC : zBX qR.T5.2 qR.B5 = true := by kernel_rfl
set_option maxHeartbeats 8000000 in
set_option maxRecDepth 100000 in
theorem qR.calls (k : Nat) (a0_0 : Int) (A0_1 : Option Addr) (c0_1 : Nat) (l0_1 : List (S26)) (a1_0 : Int) (a1_1 : Int) (a1_2 : Int) (r1 : Int) (r2 : List (S26)) (r3 : Int) (w : World) (hr0_1 : Kd.C k26 w A0_1 l0_1.length l0_1) (uG : l0_1.length ≤ c0_1) (h : qR.f k a0_0 l0_1 a1_0 a1_1 a1_2 = some (r1, r2, r3)) :
  Calls Tryz.prog 16 #[.agg #[.int .i64 a0_0, .slice A0_1 l0_1.length c0_1], .agg #[.int .i64 a1_0, .int .i64 a1_1, .int .i64 a1_2]] w fun e w' => ∃ v1_ : Value, e = .returned (.tuple #[.agg #[.int .i64 r1, v1_], .int .i64 r3]) ∧ Kd.R k26 26 w' w.heap.size (fun _ => True) v1_ r2 ∧ Below w.heap.size w w' := by
 have hu24 := Tryz.underlying24; have hu26 := Tryz.underlying26; have HR0_1 := zA.mk hr0_1; have HC0_1 := zA.mk uG; clear hr0_1 uG; have HB := zA.mk (Below.refl w.heap.size w); have H : ((vJ.f k a0_0 l0_1).bind fun t134 => (if t134 = true then ((qP.f a1_0 a1_1 a1_2).bind fun t135 => (if t135 = true then ((qC.f l0_1).bind fun t136 => ((zZ.f k t136 a1_0 a1_1 a1_2).bind fun bt140 => (if bt140.2 = true then (if 0 ≤ bt140.1 then (if bt140.1 < (t136.length : Int) then (some (a0_0, (t136.set (bt140.1 : Int).toNat (⟨a1_0, a1_1, a1_2⟩ : S26)), 0)) else (none)) else (none)) else ((qM.f t136 bt140.1 (([(⟨a1_0, a1_1, a1_2⟩ : S26)] : List (S26)))).bind fun t146 => (if (t146.length : Int) > 64 then (some (0, ([] : List (S26)), 8)) else (some (a0_0, t146, 0))))))) else (some (0, ([] : List (S26)), 2)))) else (some (0, ([] : List (S26)), 1)))) = some (r1, r2, r3) := h; clear h; replace H := Option.bind_eq_some_iff.mp H; obtain ⟨t134, A30, H⟩ := H; replace H : (if t134 = true then ((qP.f a1_0 a1_1 a1_2).bind fun t135 => (if t135 = true then ((qC.f l0_1).bind fun t136 => ((zZ.f k t136 a1_0 a1_1 a1_2).bind fun bt140 => (if bt140.2 = true then (if 0 ≤ bt140.1 then (if bt140.1 < (t136.length : Int) then (some (a0_0, (t136.set (bt140.1 : Int).toNat (⟨a1_0, a1_1, a1_2⟩ : S26)), 0)) else (none)) else (none)) else ((qM.f t136 bt140.1 (([(⟨a1_0, a1_1, a1_2⟩ : S26)] : List (S26)))).bind fun t146 => (if (t146.length : Int) > 64 then (some (0, ([] : List (S26)), 8)) else (some (a0_0, t146, 0))))))) else (some (0, ([] : List (S26)), 2)))) else (some (0, ([] : List (S26)), 1))) = some (r1, r2, r3) := H; have A3 := zA.mk A30; clear A30; by_cases c4 : t134 = true
 ·
  subst c4; replace H : ((qP.f a1_0 a1_1 a1_2).bind fun t135 => (if t135 = true then ((qC.f l0_1).bind fun t136 => ((zZ.f k t136 a1_0 a1_1 a1_2).bind fun bt140 => (if bt140.2 = true then (if 0 ≤ bt140.1 then (if bt140.1 < (t136.length : Int) then (some (a0_0, (t136.set (bt140.1 : Int).toNat (⟨a1_0, a1_1, a1_2⟩ : S26)), 0)) else (none)) else (none)) else ((qM.f t136 bt140.1 (([(⟨a1_0, a1_1, a1_2⟩ : S26)] : List (S26)))).bind fun t146 => (if (t146.length : Int) > 64 then (some (0, ([] : List (S26)), 8)) else (some (a0_0, t146, 0))))))) else (some (0, ([] : List (S26)), 2)))) = some (r1, r2, r3) := by rw [if_pos rfl] at H; exact H
  replace H := Option.bind_eq_some_iff.mp H; obtain ⟨t135, A50, H⟩ := H; replace H : (if t135 = true then ((qC.f l0_1).bind fun t136 => ((zZ.f k t136 a1_0 a1_1 a1_2).bind fun bt140 => (if bt140.2 = true then (if 0 ≤ bt140.1 then (if bt140.1 < (t136.length : Int) then (some (a0_0, (t136.set (bt140.1 : Int).toNat (⟨a1_0, a1_1, a1_2⟩ : S26)), 0)) else (none)) else (none)) else ((qM.f t136 bt140.1 (([(⟨a1_0, a1_1, a1_2⟩ : S26)] : List (S26)))).bind fun t146 => (if (t146.length : Int) > 64 then (some (0, ([] : List (S26)), 8)) else (some (a0_0, t146, 0))))))) else (some (0, ([] : List (S26)), 2))) = some (r1, r2, r3) := H; have A5 := zA.mk A50; clear A50; by_cases c6 : t135 = true
  ·
   subst c6; replace H : ((qC.f l0_1).bind fun t136 => ((zZ.f k t136 a1_0 a1_1 a1_2).bind fun bt140 => (if bt140.2 = true then (if 0 ≤ bt140.1 then (if bt140.1 < (t136.length : Int) then (some (a0_0, (t136.set (bt140.1 : Int).toNat (⟨a1_0, a1_1, a1_2⟩ : S26)), 0)) else (none)) else (none)) else ((qM.f t136 bt140.1 (([(⟨a1_0, a1_1, a1_2⟩ : S26)] : List (S26)))).bind fun t146 => (if (t146.length : Int) > 64 then (some (0, ([] : List (S26)), 8)) else (some (a0_0, t146, 0))))))) = some (r1, r2, r3) := by rw [if_pos rfl] at H; exact H
   replace H := Option.bind_eq_some_iff.mp H; obtain ⟨t136, A70, H⟩ := H; replace H : ((zZ.f k t136 a1_0 a1_1 a1_2).bind fun bt140 => (if bt140.2 = true then (if 0 ≤ bt140.1 then (if bt140.1 < (t136.length : Int) then (some (a0_0, (t136.set (bt140.1 : Int).toNat (⟨a1_0, a1_1, a1_2⟩ : S26)), 0)) else (none)) else (none)) else ((qM.f t136 bt140.1 (([(⟨a1_0, a1_1, a1_2⟩ : S26)] : List (S26)))).bind fun t146 => (if (t146.length : Int) > 64 then (some (0, ([] : List (S26)), 8)) else (some (a0_0, t146, 0)))))) = some (r1, r2, r3) := H; have A7 := zA.mk A70; clear A70; replace H := Option.bind_eq_some_iff.mp H; obtain ⟨⟨t140, t141⟩, A80, H⟩ := H; replace H : (if t141 = true then (if 0 ≤ t140 then (if t140 < (t136.length : Int) then (some (a0_0, (t136.set (t140 : Int).toNat (⟨a1_0, a1_1, a1_2⟩ : S26)), 0)) else (none)) else (none)) else ((qM.f t136 t140 (([(⟨a1_0, a1_1, a1_2⟩ : S26)] : List (S26)))).bind fun t146 => (if (t146.length : Int) > 64 then (some (0, ([] : List (S26)), 8)) else (some (a0_0, t146, 0))))) = some (r1, r2, r3) := H; have A8 := zA.mk A80; clear A80; by_cases c9 : t141 = true
   ·
    subst c9; replace H : (if 0 ≤ t140 then (if t140 < (t136.length : Int) then (some (a0_0, (t136.set (t140 : Int).toNat (⟨a1_0, a1_1, a1_2⟩ : S26)), 0)) else (none)) else (none)) = some (r1, r2, r3) := by rw [if_pos rfl] at H; exact H
    by_cases c10 : 0 ≤ t140
    ·
     rw [if_pos c10] at H; have c10b0 : decide (0 ≤ t140) = true := decide_eq_true c10; clear c10; by_cases c11 : t140 < (t136.length : Int)
     ·
      rw [if_pos c11] at H; have c11b0 : decide (t140 < (t136.length : Int)) = true := decide_eq_true c11; clear c11; obtain ⟨y142, hy142⟩ : ∃ y_ : List (S26), y_ = (t136.set (t140 : Int).toNat (⟨a1_0, a1_1, a1_2⟩ : S26)) := ⟨_, rfl⟩; replace H : (some (a0_0, y142, 0)) = some (r1, r2, r3) := by first | (rw [hy142]; with_reducible exact H) | (have H2_ := (Option.bind_some _ _).symm.trans H; rw [hy142]; with_reducible exact H2_) | (have H2_ := (Option.bind_some _ _).symm.trans H; with_reducible exact H2_) | with_reducible exact H | (rw [hy142]; exact H) | exact H
      have Ny142 := zA.mk hy142; clear hy142; simp only [Option.some.injEq, Prod.mk.injEq] at H; obtain ⟨rfl, rfl, rfl⟩ := H; go_enter Tryz.func16, Tryz.ntmps16
      try go_wp2_with (first | ((with_reducible refine wF (N := 2) rfl ?_); refine wA ?hg (N := 2) ?hd (cs := #[.int .i64 a0_0, .slice A0_1 l0_1.length c0_1]) (t := 24) ?hr ?_; (case hd => rfl); (case hg => rfl); (case hr => first | (go_simp; done) | (go_simp; rfl)); intro vX hg w13 hbox hb; have n0_ := zA.mk (zF (eG HB.out) hb); have n1_ := zA.mk (hbox); have n2_ := zA.mk ((by rw [hg]; exact (zE (eG HB.out)) : w.heap.size ≤ vX)); have n3_ := zA.mk ((by rw [hg]; exact (zE (eG HB.out)) : w.heap.size ≤ vX)); clear HB; have HB := n0_; have wG := n1_; have zVH := n2_; have zHU := n3_; have zKU := geI zHU; clear n0_ n1_ n2_ n3_; clear hb hbox hg) | ((with_reducible refine wF (N := 3) rfl ?_); refine wA ?hg (N := 3) ?hd (cs := #[.int .i64 a1_0, .int .i64 a1_1, .int .i64 a1_2]) (t := 26) ?hr ?_; (case hd => rfl); (case hg => rfl); (case hr => first | (go_simp; done) | (go_simp; rfl)); intro vN hg w14 hbox hb; have n0_ := zA.mk (zG (bG wG.out) hb); have n1_ := zA.mk (zF (eG HB.out) hb); have n2_ := zA.mk (hbox); have n3_ := zA.mk ((by rw [hg]; exact (zE (eG HB.out)) : w.heap.size ≤ vN)); have n4_ := zA.mk ((by rw [hg]; exact (zE (eG HB.out)) : w.heap.size ≤ vN)); have n5_ := zA.mk ((by rw [hg]; exact Nat.ne_of_lt (wC (bG wG.out)) : vX ≠ vN)); have n6_ := zA.mk ((by rw [hg]; exact Nat.ne_of_gt (wC (bG wG.out)) : vN ≠ vX)); clear wG; clear HB; have wG := n0_; have HB := n1_; have wL := n2_; have zVG := n3_; have zHT := n4_; have zKT := geI zHT; have jW := n5_; have jV := n6_; clear n0_ n1_ n2_ n3_ n4_ n5_ n6_; clear hb hbox hg) | ((with_reducible refine wF (N := 4) rfl ?_); refine wA ?hg (N := 4) ?hd (cs := #[.int .i64 0, .slice none 0 0]) (t := 24) ?hr ?_; (case hd => rfl); (case hg => rfl); (case hr => first | (go_simp; done) | (go_simp; rfl)); intro qX hg w15 hbox hb; have n0_ := zA.mk (zG (bG wG.out) hb); have n1_ := zA.mk (zG (bG wL.out) hb); have n2_ := zA.mk (zF (eG HB.out) hb); have n3_ := zA.mk (hbox); have n4_ := zA.mk ((by rw [hg]; exact (zE (eG HB.out)) : w.heap.size ≤ qX)); have n5_ := zA.mk ((by rw [hg]; exact (zE (eG HB.out)) : w.heap.size ≤ qX)); have n6_ := zA.mk ((by rw [hg]; exact Nat.ne_of_lt (wC (bG wG.out)) : vX ≠ qX)); have n7_ := zA.mk ((by rw [hg]; exact Nat.ne_of_gt (wC (bG wG.out)) : qX ≠ vX)); have n8_ := zA.mk ((by rw [hg]; exact Nat.ne_of_lt (wC (bG wL.out)) : vN ≠ qX)); have n9_ := zA.mk ((by rw [hg]; exact Nat.ne_of_gt (wC (bG wL.out)) : qX ≠ vN)); clear wG; clear wL; clear HB; have wG := n0_; have wL := n1_; have HB := n2_; have vE := n3_; have GW133 := n4_; have zQB := n5_; have zVU := geI zQB; have zBK := n6_; have zBI := n7_; have zBJ := n8_; have zBH := n9_; clear n0_ n1_ n2_ n3_ n4_ n5_ n6_ n7_ n8_ n9_; clear hb hbox hg; have hnb16 := jW.out; have hnc16 := jV.out; have hnb17 := zBK.out; have hnc17 := zBI.out; have zHL : w15.cell? ⟨vX, 0, none⟩ = some (.int .i64 a0_0) := (zC wG.out 0).trans rfl; have zHK : w15.cell? ⟨vX, 1, none⟩ = some (.slice A0_1 l0_1.length c0_1) := (zC wG.out 1).trans rfl; have zHF := zB wG.out 0; have zHE := zB wG.out 1) | ((with_reducible refine zQ (f := 41) rfl ?_); refine vB (some 11) rfl rfl Tryz.func41 (by kernel_rfl) rfl #[.agg #[.int .i64 a0_0, .slice A0_1 l0_1.length c0_1]] rfl (by (try simp only [List.map_toArray, List.map_cons, List.map_nil]); first | done | rfl | (simp only [List.length_drop, List.length_take]; rfl)) ?_; (with_reducible refine (vJ.calls k a0_0 _ _ l0_1 true _ ?side1 ?side2 A3.out).mono ?_); (case side1 => repeat (first | exact (Kd.qW HR0_1.out HB.out) | (with_reducible refine Kd.vZ ?_ _) | (with_reducible refine Kd.vY ?_ _) | (with_reducible refine Kd.qU ?_))); (case side2 => exact HC0_1.out); rintro e w19 ⟨rfl, hb⟩; refine ⟨_, rfl, ?_⟩; have n0_ := zA.mk (zG (bG wG.out) hb); have n1_ := zA.mk (zG (bG wL.out) hb); have n2_ := zA.mk (zG (bG vE.out) hb); have n3_ := zA.mk (zF (eG HB.out) hb); clear wG; clear wL; clear vE; clear HB; have wG := n0_; have wL := n1_; have vE := n2_; have HB := n3_; clear n0_ n1_ n2_ n3_; (try clear hb); (try clear hb2); (try clear hk); (try clear hi); have hnb20 := zBJ.out; have hnc20 := zBH.out; have wAM : w19.cell? ⟨vN, 0, none⟩ = some (.int .i64 a1_0) := (zC wL.out 0).trans rfl; have wAL : w19.cell? ⟨vN, 1, none⟩ = some (.int .i64 a1_1) := (zC wL.out 1).trans rfl; have hcz21_2 : w19.cell? ⟨vN, 2, none⟩ = some (.int .i64 a1_2) := (zC wL.out 2).trans rfl; have zZS := zB wL.out 0; have zZR := zB wL.out 1; have hfz21_2 := zB wL.out 2) | ((with_reducible refine zQ (f := 36) rfl ?_); refine vB (some 16) rfl rfl Tryz.func36 (by kernel_rfl) rfl #[.agg #[.int .i64 a1_0, .int .i64 a1_1, .int .i64 a1_2]] rfl (by (try simp only [List.map_toArray, List.map_cons, List.map_nil]); first | done | rfl | (simp only [List.length_drop, List.length_take]; rfl)) ?_; (with_reducible refine (qP.calls a1_0 a1_1 a1_2 true _ A5.out).mono ?_); rintro e w22 ⟨rfl, hb⟩; refine ⟨_, rfl, ?_⟩; have n0_ := zA.mk (zG (bG wG.out) hb); have n1_ := zA.mk (zG (bG wL.out) hb); have n2_ := zA.mk (zG (bG vE.out) hb); have n3_ := zA.mk (zF (eG HB.out) hb); clear wG; clear wL; clear vE; clear HB; have wG := n0_; have wL := n1_; have vE := n2_; have HB := n3_; clear n0_ n1_ n2_ n3_; (try clear hb); (try clear hb2); (try clear hk); (try clear hi)))
      have n0_ := zA.mk (yX wG.out); have n1_ := zA.mk (yX wL.out); have n2_ := zA.mk (yX vE.out); have n3_ := zA.mk (yB HB.out); clear wG; clear wL; clear vE; clear HB; have wG := n0_; have wL := n1_; have vE := n2_; have HB := n3_; clear n0_ n1_ n2_ n3_; refine zBS (n := 8) (S := fun w' => w'.cell? ⟨vX, 0, none⟩ = some (.int .i64 a0_0) ∧ w'.cell? ⟨vX, 1, none⟩ = some (.slice A0_1 l0_1.length c0_1)) (ds := []) #[false, false, false, false, false, false, false, false] (by kernel_rfl) rfl rfl ⟨(zC wG.out 0).trans rfl, (zC wG.out 1).trans rfl⟩ (fun hHeld => ?_); refine uF qR.tab5 qR.zXC (fun HT_ HW_ => ?_)
      generalize w22.drew = w23 at wG wL vE HB hHeld ⊢; refine vD (i := 0) (N := some 19) (v := ?_) (a' := ?_) #[true, false, false, false, false, false, false, false] rfl rfl (wM HT_.out (by kernel_rfl)) (fun _ _ _ h => h) (Or.inl ⟨by rfl, ?_⟩) ?_ ?_; rotate_left
      · intro w'; go_simp; with_reducible rfl
      rotate_left
      · simp only [Act.put, sIA, sC0, sCS, wJ, wK]; rfl
      refine vD (i := 2) (N := some 21) (v := ?_) (a' := ?_) #[true, false, true, false, false, false, false, false] rfl rfl (wM HT_.out (by kernel_rfl)) (fun _ _ _ h => h) (Or.inl ⟨by rfl, ?_⟩) ?_ ?_; rotate_left
      · intro w'; go_simp; with_reducible rfl
      rotate_left
      · simp only [Act.put, sIA, sC0, sCS, wJ, wK]; rfl
      refine kL (i := 1) (N := some 20) (v := ?_) (a' := ?_) #[true, true, true, false, false, false, false, false] rfl rfl (qY HT_.out HW_.out (by kernel_rfl)) (fun _ _ _ h => h) (Or.inl ⟨by rfl, ?_⟩) hHeld ?_ ?_; rotate_left
      · rintro w' ⟨s0, s1⟩; go_simp; with_reducible rfl
      rotate_left
      · simp only [Act.put, sIA, sC0, sCS, wJ, wK]; rfl
      refine kL (i := 3) (N := some 22) (v := ?_) (a' := ?_) #[true, true, true, true, false, false, false, false] rfl rfl (qY HT_.out HW_.out (by kernel_rfl)) (fun _ _ _ h => h) (Or.inl ⟨by rfl, ?_⟩) hHeld ?_ ?_; rotate_left
      · rintro w' ⟨s0, s1⟩; go_simp; with_reducible rfl
      rotate_left
      · simp only [Act.put, sIA, sC0, sCS, wJ, wK]; rfl
      refine join_ (σ := Value × Nat) 1 #[true, true, true, true, true, true, true, false] (fun s_ => [(23, s_.1), (6, .pointer (some ⟨s_.2, 0, none⟩)), (24, .agg #[.int .i64 a0_0, s_.1])]) (fun s_ w' => (w'.cell? ⟨vX, 0, none⟩ = some (.int .i64 a0_0) ∧ w'.cell? ⟨vX, 1, none⟩ = some (.slice A0_1 l0_1.length c0_1)) ∧ (Kd.R k26 26 w' w.heap.size (fun k_ => k_ ≠ vN) s_.1 t136) ∧ (w'.heap[vX]? = some (.cells #[.int .i64 a0_0, .slice A0_1 l0_1.length c0_1] 24 (0, 0))) ∧ (w'.heap[vN]? = some (.cells #[.int .i64 a1_0, .int .i64 a1_1, .int .i64 a1_2] 26 (0, 0))) ∧ (w'.heap[qX]? = some (.cells #[.int .i64 0, .slice none 0 0] 24 (0, 0))) ∧ (w'.heap[s_.2]? = some (.cells #[.int .i64 0, .slice none 0 0] 24 (0, 0))) ∧ (w.heap.size ≤ s_.2) ∧ (w.heap.size ≤ s_.2) ∧ (vX ≠ s_.2) ∧ (s_.2 ≠ vX) ∧ (vN ≠ s_.2) ∧ (s_.2 ≠ vN) ∧ (qX ≠ s_.2) ∧ (s_.2 ≠ qX) ∧ (Below w.heap.size w w')) ?_ ?_; rotate_left
      ·
       intro hCont; refine two_ (i := 4) (j := 6) (Ni := some 23) (Nj := some 6) #[true, true, true, true, true, false, false, false] #[true, true, true, true, false, false, true, false] rfl rfl rfl rfl (zQG HT_.out (by kernel_rfl)) (by decide) (by decide) (fun K hK => ?_) (fun K hK => ?_)
       ·
        skip
        refine zDC Tryz.func38 (by kernel_rfl) rfl #[.slice A0_1 l0_1.length c0_1] (by rfl) rfl rfl (by (try simp only [List.map_toArray, List.map_cons, List.map_nil]); first | done | rfl | (simp only [List.length_drop, List.length_take]; rfl)) ?_; with_reducible refine (qC.calls _ _ l0_1 t136 _ ?side1 ?side2 A7.out).mono ?_
        (case side1 => repeat (first | exact (Kd.qW HR0_1.out HB.out) | (with_reducible refine Kd.vZ ?_ _) | (with_reducible refine Kd.vY ?_ _) | (with_reducible refine Kd.qU ?_)))
        (case side2 => exact HC0_1.out)
        rintro e w24 ⟨v137, rfl, ho0, hb⟩; refine ⟨_, rfl, ?_⟩; have n0_ := zA.mk (Kd.yK (Kd.zBM ho0 (bG wL.out)) (zE (eG HB.out))); have n1_ := zA.mk (zG (bG wG.out) hb); have n2_ := zA.mk (zG (bG wL.out) hb); have n3_ := zA.mk (zG (bG vE.out) hb); have n4_ := zA.mk (zF (eG HB.out) hb); clear wG; clear wL; clear vE; clear HB; have yD := n0_; have wG := n1_; have wL := n2_; have vE := n3_; have HB := n4_; clear n0_ n1_ n2_ n3_ n4_; (try clear hb)
        (try clear hb2)
        (try clear hk)
        (try clear hi)
        (try clear ho0)
        obtain ⟨Ao25, co25, eo25⟩ := Kd.vG yD.out; (first | subst eo25 | (injection eo25 with f1_ f2_ f3_; have f4_ := f1_.symm; have f5_ := f3_.symm; clear f1_ f2_ f3_; subst f4_; subst f5_))
        refine hK.out _ _ ⟨(zC wG.out 0).trans rfl, (zC wG.out 1).trans rfl⟩ (fun hHeld => ?_); clear hK K; refine uB (a' := ?_) ?_ ?_; rotate_left
        ·
         show Act.put _ (some 23) _ = _
         simp only [Act.put, sIA, sC0, sCS, wJ, wK]; rfl
        refine vD (i := 5) (N := some 24) (v := ?_) (a' := ?_) #[true, true, true, true, true, true, false, false] rfl rfl (wM HT_.out (by kernel_rfl)) (fun _ _ _ h => h) (Or.inl ⟨by rfl, ?_⟩) ?_ ?_; rotate_left
        · intro w'; go_simp; with_reducible rfl
        rotate_left
        · simp only [Act.put, sIA, sC0, sCS, wJ, wK]; rfl
        refine one_ (i := 6) (N := some 6) #[true, true, true, true, true, true, true, false] rfl rfl (kH HT_.out (by kernel_rfl)) (by decide) (fun K hK => ?_); refine zGK ?hg (N := 6) ?hd (cs := #[.int .i64 0, .slice none 0 0]) (t := 24) ?hr ?_; (case hd => rfl); (case hg => rfl); (case hr => first | (go_simp; done) | (go_simp; rfl))
        intro wY hg w26 hbox hb; have n0_ := zA.mk (Kd.wB (rG yD.out) hb); have n1_ := zA.mk (zG (bG wG.out) hb); have n2_ := zA.mk (zG (bG wL.out) hb); have n3_ := zA.mk (zG (bG vE.out) hb); have n4_ := zA.mk (zF (eG HB.out) hb); have n5_ := zA.mk (hbox); have n6_ := zA.mk ((by rw [hg]; exact (zE (eG HB.out)) : w.heap.size ≤ wY)); have n7_ := zA.mk ((by rw [hg]; exact (zE (eG HB.out)) : w.heap.size ≤ wY)); have n8_ := zA.mk ((by rw [hg]; exact Nat.ne_of_lt (wC (bG wG.out)) : vX ≠ wY)); have n9_ := zA.mk ((by rw [hg]; exact Nat.ne_of_gt (wC (bG wG.out)) : wY ≠ vX)); have n10_ := zA.mk ((by rw [hg]; exact Nat.ne_of_lt (wC (bG wL.out)) : vN ≠ wY)); have n11_ := zA.mk ((by rw [hg]; exact Nat.ne_of_gt (wC (bG wL.out)) : wY ≠ vN)); have n12_ := zA.mk ((by rw [hg]; exact Nat.ne_of_lt (wC (bG vE.out)) : qX ≠ wY)); have n13_ := zA.mk ((by rw [hg]; exact Nat.ne_of_gt (wC (bG vE.out)) : wY ≠ qX)); clear yD; clear wG; clear wL; clear vE; clear HB; have yD := n0_; have wG := n1_; have wL := n2_; have vE := n3_; have HB := n4_; have vU := n5_; have zGF := n6_; have zBL := n7_; have zFF := geI zBL
        have vW := n8_; have yS := n9_; have qS := n10_; have yR := n11_; have qN := n12_; have yQ := n13_; clear n0_ n1_ n2_ n3_ n4_ n5_ n6_ n7_ n8_ n9_ n10_ n11_ n12_ n13_; clear hb hbox hg; refine hK.out _ _ ⟨(zC wG.out 0).trans rfl, (zC wG.out 1).trans rfl⟩ (fun hHeld => ?_); clear hK K; refine uB (a' := ?_) ?_ ?_; rotate_left
        ·
         show Act.put _ (some 6) _ = _
         simp only [Act.put, sIA, sC0, sCS, wJ, wK]; rfl
        exact uB (by simp only [zCG, Act.put, sIA, sC0, sCS]) (hCont (.slice Ao25 t136.length co25, wY) _ ⟨hHeld, (by (with_reducible repeat (first | apply Kd.zT | apply Kd.zS | apply Kd.wD)); exact Kd.wQ yD.out (fun _ hk => hk.2)), (bG wG.out), (bG wL.out), (bG vE.out), (bG vU.out), zGF.out, zBL.out, vW.out, yS.out, qS.out, yR.out, qN.out, yQ.out, (eG HB.out)⟩)
       ·
        skip
        refine zGK ?hg (N := 6) ?hd (cs := #[.int .i64 0, .slice none 0 0]) (t := 24) ?hr ?_; (case hd => rfl); (case hg => rfl); (case hr => first | (go_simp; done) | (go_simp; rfl))
        intro wY hg w24 hbox hb; have n0_ := zA.mk (zG (bG wG.out) hb); have n1_ := zA.mk (zG (bG wL.out) hb); have n2_ := zA.mk (zG (bG vE.out) hb); have n3_ := zA.mk (zF (eG HB.out) hb); have n4_ := zA.mk (hbox); have n5_ := zA.mk ((by rw [hg]; exact (zE (eG HB.out)) : w.heap.size ≤ wY)); have n6_ := zA.mk ((by rw [hg]; exact (zE (eG HB.out)) : w.heap.size ≤ wY)); have n7_ := zA.mk ((by rw [hg]; exact Nat.ne_of_lt (wC (bG wG.out)) : vX ≠ wY)); have n8_ := zA.mk ((by rw [hg]; exact Nat.ne_of_gt (wC (bG wG.out)) : wY ≠ vX)); have n9_ := zA.mk ((by rw [hg]; exact Nat.ne_of_lt (wC (bG wL.out)) : vN ≠ wY)); have n10_ := zA.mk ((by rw [hg]; exact Nat.ne_of_gt (wC (bG wL.out)) : wY ≠ vN)); have n11_ := zA.mk ((by rw [hg]; exact Nat.ne_of_lt (wC (bG vE.out)) : qX ≠ wY)); have n12_ := zA.mk ((by rw [hg]; exact Nat.ne_of_gt (wC (bG vE.out)) : wY ≠ qX)); clear wG; clear wL; clear vE; clear HB; have wG := n0_; have wL := n1_; have vE := n2_; have HB := n3_; have vU := n4_; have zGF := n5_; have zBL := n6_; have zFF := geI zBL
        have vW := n7_; have yS := n8_; have qS := n9_; have yR := n10_; have qN := n11_; have yQ := n12_; clear n0_ n1_ n2_ n3_ n4_ n5_ n6_ n7_ n8_ n9_ n10_ n11_ n12_; clear hb hbox hg; refine hK.out _ _ ⟨(zC wG.out 0).trans rfl, (zC wG.out 1).trans rfl⟩ (fun hHeld => ?_); clear hK K; refine uB (a' := ?_) ?_ ?_; rotate_left
        ·
         show Act.put _ (some 6) _ = _
         simp only [Act.put, sIA, sC0, sCS, wJ, wK]; rfl
        refine one_ (i := 4) (N := some 23) #[true, true, true, true, true, false, true, false] rfl rfl (kH HT_.out (by kernel_rfl)) (by decide) (fun K hK => ?_); refine zDC Tryz.func38 (by kernel_rfl) rfl #[.slice A0_1 l0_1.length c0_1] (by rfl) rfl rfl (by (try simp only [List.map_toArray, List.map_cons, List.map_nil]); first | done | rfl | (simp only [List.length_drop, List.length_take]; rfl)) ?_; with_reducible refine (qC.calls _ _ l0_1 t136 _ ?side1 ?side2 A7.out).mono ?_
        (case side1 => repeat (first | exact (Kd.qW HR0_1.out HB.out) | (with_reducible refine Kd.vZ ?_ _) | (with_reducible refine Kd.vY ?_ _) | (with_reducible refine Kd.qU ?_)))
        (case side2 => exact HC0_1.out)
        rintro e w25 ⟨v137, rfl, ho0, hb⟩; refine ⟨_, rfl, ?_⟩; have n0_ := zA.mk (Kd.yK (Kd.zBM ho0 (bG wL.out)) (zE (eG HB.out))); have n1_ := zA.mk (zG (bG wG.out) hb); have n2_ := zA.mk (zG (bG wL.out) hb); have n3_ := zA.mk (zG (bG vE.out) hb); have n4_ := zA.mk (zG (bG vU.out) hb); have n5_ := zA.mk (zF (eG HB.out) hb); clear wG; clear wL; clear vE; clear vU; clear HB; have yD := n0_; have wG := n1_; have wL := n2_; have vE := n3_; have vU := n4_; have HB := n5_; clear n0_ n1_ n2_ n3_ n4_ n5_; (try clear hb)
        (try clear hb2)
        (try clear hk)
        (try clear hi)
        (try clear ho0)
        obtain ⟨Ao26, co26, eo26⟩ := Kd.vG yD.out; (first | subst eo26 | (injection eo26 with f1_ f2_ f3_; have f4_ := f1_.symm; have f5_ := f3_.symm; clear f1_ f2_ f3_; subst f4_; subst f5_))
        refine hK.out _ _ ⟨(zC wG.out 0).trans rfl, (zC wG.out 1).trans rfl⟩ (fun hHeld => ?_); clear hK K; refine uB (a' := ?_) ?_ ?_; rotate_left
        ·
         show Act.put _ (some 23) _ = _
         simp only [Act.put, sIA, sC0, sCS, wJ, wK]; rfl
        refine vD (i := 5) (N := some 24) (v := ?_) (a' := ?_) #[true, true, true, true, true, true, true, false] rfl rfl (wM HT_.out (by kernel_rfl)) (fun _ _ _ h => h) (Or.inl ⟨by rfl, ?_⟩) ?_ ?_; rotate_left
        · intro w'; go_simp; with_reducible rfl
        rotate_left
        · simp only [Act.put, sIA, sC0, sCS, wJ, wK]; rfl
        exact uB (by simp only [zCG, Act.put, sIA, sC0, sCS]) (hCont (.slice Ao26 t136.length co26, wY) _ ⟨hHeld, (by (with_reducible repeat (first | apply Kd.zT | apply Kd.zS | apply Kd.wD)); exact Kd.wQ yD.out (fun _ hk => hk.2)), (bG wG.out), (bG wL.out), (bG vE.out), (bG vU.out), zGF.out, zBL.out, vW.out, yS.out, qS.out, yR.out, qN.out, yQ.out, (eG HB.out)⟩)
      rintro ⟨v137, wY⟩ w27 ⟨hS_, h0_, h1_, h2_, h3_, h4_, h5_, h6_, h7_, h8_, h9_, h10_, h11_, h12_, h13_⟩; have n0_ : zA (Kd.R k26 26 w27 w.heap.size (fun k_ => k_ ≠ vN) v137 t136) := ⟨h0_⟩; have n1_ : zA (w27.heap[vX]? = some (.cells #[.int .i64 a0_0, .slice A0_1 l0_1.length c0_1] 24 (0, 0))) := ⟨h1_⟩; have n2_ : zA (w27.heap[vN]? = some (.cells #[.int .i64 a1_0, .int .i64 a1_1, .int .i64 a1_2] 26 (0, 0))) := ⟨h2_⟩; have n3_ : zA (w27.heap[qX]? = some (.cells #[.int .i64 0, .slice none 0 0] 24 (0, 0))) := ⟨h3_⟩; have n4_ : zA (w27.heap[wY]? = some (.cells #[.int .i64 0, .slice none 0 0] 24 (0, 0))) := ⟨h4_⟩; have n5_ : zA (w.heap.size ≤ wY) := ⟨h5_⟩; have n6_ : zA (w.heap.size ≤ wY) := ⟨h6_⟩; have n7_ : zA (vX ≠ wY) := ⟨h7_⟩; have n8_ : zA (wY ≠ vX) := ⟨h8_⟩; have n9_ : zA (vN ≠ wY) := ⟨h9_⟩; have n10_ : zA (wY ≠ vN) := ⟨h10_⟩; have n11_ : zA (qX ≠ wY) := ⟨h11_⟩; have n12_ : zA (wY ≠ qX) := ⟨h12_⟩; have n13_ : zA (Below w.heap.size w w27) := ⟨h13_⟩; clear wG; clear wL; clear vE; clear HB; clear h0_ h1_ h2_ h3_ h4_ h5_ h6_ h7_ h8_ h9_ h10_ h11_ h12_ h13_; have yD := n0_; have wG := n1_; have wL := n2_; have vE := n3_; have vU := n4_; have zGF := n5_; have zBL := n6_; have zFF := geI zBL
      have vW := n7_; have yS := n8_; have qS := n9_; have yR := n10_; have qN := n11_; have yQ := n12_; have HB := n13_; clear n0_ n1_ n2_ n3_ n4_ n5_ n6_ n7_ n8_ n9_ n10_ n11_ n12_ n13_; have hHeld : w27.cell? ⟨vX, 0, none⟩ = some (.int .i64 a0_0) ∧ w27.cell? ⟨vX, 1, none⟩ = some (.slice A0_1 l0_1.length c0_1) := hS_; obtain ⟨Ao28, co28, eo28⟩ := Kd.vG yD.out; (first | subst eo28 | (injection eo28 with f1_ f2_ f3_; have f4_ := f1_.symm; have f5_ := f3_.symm; clear f1_ f2_ f3_; subst f4_; subst f5_))
      refine uB (a' := ?_) ?_ ?_; rotate_left
      · simp only [zCG, Act.put, sIA, sC0, sCS]; rfl
      refine one_ (i := 7) (N := none) #[true, true, true, true, true, true, true, true] rfl rfl (kH HT_.out (by kernel_rfl)) (by decide) (fun K hK => ?_); have hs29 : w27.cell? ⟨wY, 0, none⟩ = some (.int .i64 0) := (zC vU.out 0).trans rfl; have hfs29 := zB vU.out 0; have hns29_0 := vW.out; have hns29_1 := qS.out; have hns29_2 := qN.out; have hms29_0 := yS.out; have hms29_1 := yR.out; have hms29_2 := yQ.out; have hs30 : w27.cell? ⟨wY, 1, none⟩ = some (.slice none 0 0) := (zC vU.out 1).trans rfl; have hfs30 := zB vU.out 1; have hns30_0 := vW.out; have hns30_1 := qS.out; have hns30_2 := qN.out; have hms30_0 := yS.out; have hms30_1 := yR.out; have hms30_2 := yQ.out; refine skip_ (w1 := ?_) (by rfl) rfl ?_ ?_; rotate_left
      · go_simp; rfl
      refine hK.out _ _ ⟨((cell_far (p := ⟨wY, _, none⟩) vW.out _).trans (((cell_far (p := ⟨wY, _, none⟩) vW.out _).trans (hHeld.1)))), ((cell_far (p := ⟨wY, _, none⟩) vW.out _).trans (((cell_far (p := ⟨wY, _, none⟩) vW.out _).trans (hHeld.2))))⟩ (fun hHeld => ?_); clear hK K; refine zFQ (zAL HT_.out (by kernel_rfl)) ?_; have hnb31 := yS.out; have hnc31 := vW.out; have hnb32 := yR.out; have hnc32 := qS.out; have hnb33 := yQ.out; have hnc33 := qN.out; have zPI : w27.cell? ⟨wY, 0, none⟩ = some (.int .i64 0) := (zC vU.out 0).trans rfl; have zPH : w27.cell? ⟨wY, 1, none⟩ = some (.slice none 0 0) := (zC vU.out 1).trans rfl; have zOR := zB vU.out 0; have zOQ := zB vU.out 1; have zUH : w27.cell? ⟨vN, 0, none⟩ = some (.int .i64 a1_0) := (zC wL.out 0).trans rfl; have zUG : w27.cell? ⟨vN, 1, none⟩ = some (.int .i64 a1_1) := (zC wL.out 1).trans rfl; have zUF : w27.cell? ⟨vN, 2, none⟩ = some (.int .i64 a1_2) := (zC wL.out 2).trans rfl; have zTF := zB wL.out 0; have zTE := zB wL.out 1; have zTD := zB wL.out 2; try go_wp2_with (first | ((with_reducible refine zQ (f := 42) rfl ?_); refine vB (some 29) rfl rfl Tryz.func42 (by kernel_rfl) rfl #[.slice Ao28 t136.length co28, .agg #[.int .i64 a1_0, .int .i64 a1_1, .int .i64 a1_2], .func (.func 37) #[] #[]] rfl (by (try simp only [List.map_toArray, List.map_cons, List.map_nil]); first | done | rfl | (simp only [List.length_drop, List.length_take]; rfl)) ?_; (with_reducible refine (zZ.calls k _ _ t136 a1_0 a1_1 a1_2 t140 true _ ?side1 ?side2 A8.out).mono ?_); (case side1 => refine (Kd.zU (e := 26) (base := w.heap.size) (ok := fun k_ => k_ ≠ vN) (n := t136.length) (c := co28) ?_).2.2; exact (by (with_reducible repeat (first | apply Kd.zT | apply Kd.zS | apply Kd.wD)); exact (Kd.wQ (Kd.wO (p := ⟨wY, 1, none⟩) (Kd.wO (p := ⟨wY, 0, none⟩) (Kd.vL yD.out vU.out (by decide)) (fun _ hk => hk.2) (.int .i64 a0_0)) (fun _ hk => hk.2) (.slice Ao28 t136.length co28)) (fun _ h_ => h_.1)))); (case side2 => exact (Kd.zU yD.out).2.1); rintro e w36 ⟨rfl, hb⟩; refine ⟨_, rfl, ?_⟩; have n0_ := zA.mk (Kd.wB (by (with_reducible repeat (first | apply Kd.zT | apply Kd.zS | apply Kd.wD)); exact (Kd.wQ (Kd.wO (p := ⟨wY, 1, none⟩) (Kd.wO (p := ⟨wY, 0, none⟩) (Kd.vL yD.out vU.out (by decide)) (fun _ hk => hk.2) (.int .i64 a0_0)) (fun _ hk => hk.2) (.slice Ao28 t136.length co28)) (fun _ h_ => h_.1))) hb); have n1_ := zA.mk (zG (g := vX) (o := .cells #[.int .i64 a0_0, .slice A0_1 l0_1.length c0_1] 24 (0, 0)) (by (with_reducible repeat first | apply bN | apply bD | apply bA); refine zV ?_ vW.out _; (with_reducible repeat first | apply bN | apply bD | apply bA); refine zV ?_ vW.out _; (with_reducible repeat first | apply bN | apply bD | apply bA); exact wG.out) hb); have n2_ := zA.mk (zG (g := vN) (o := .cells #[.int .i64 a1_0, .int .i64 a1_1, .int .i64 a1_2] 26 (0, 0)) (by (with_reducible repeat first | apply bN | apply bD | apply bA); refine zV ?_ qS.out _; (with_reducible repeat first | apply bN | apply bD | apply bA); refine zV ?_ qS.out _; (with_reducible repeat first | apply bN | apply bD | apply bA); exact wL.out) hb); have n3_ := zA.mk (zG (g := qX) (o := .cells #[.int .i64 0, .slice none 0 0] 24 (0, 0)) (by (with_reducible repeat first | apply bN | apply bD | apply bA); refine zV ?_ qN.out _; (with_reducible repeat first | apply bN | apply bD | apply bA); refine zV ?_ qN.out _; (with_reducible repeat first | apply bN | apply bD | apply bA); exact vE.out) hb); have n4_ := zA.mk (zG (g := wY) (o := .cells #[.int .i64 a0_0, .slice Ao28 t136.length co28] 24 (0, 0)) (by (with_reducible repeat first | apply bN | apply bD | apply bA); refine wE (cs := #[.int .i64 a0_0, .slice none 0 0]) ?_ 1 _ rfl; (with_reducible repeat first | apply bN | apply bD | apply bA); refine wE (cs := #[.int .i64 0, .slice none 0 0]) ?_ 0 _ rfl; (with_reducible repeat first | apply bN | apply bD | apply bA); exact vU.out) hb); have n5_ := zA.mk (zF (eG HB.out) hb); clear yD; clear wG; clear wL; clear vE; clear vU; clear HB; have yD := n0_; have wG := n1_; have wL := n2_; have vE := n3_; have vU := n4_; have HB := n5_; clear n0_ n1_ n2_ n3_ n4_ n5_; (try clear hb); (try clear hb2); (try clear hk); (try clear hi); have wAA : w36.cell? ⟨wY, 0, none⟩ = some (.int .i64 a0_0) := (zC vU.out 0).trans rfl; have zZZ : w36.cell? ⟨wY, 1, none⟩ = some (.slice Ao28 t136.length co28) := (zC vU.out 1).trans rfl; have zZG := zB vU.out 0; have zZF := zB vU.out 1; have hcz38_0 : w36.cell? ⟨vN, 0, none⟩ = some (.int .i64 a1_0) := (zC wL.out 0).trans rfl; have hcz38_1 : w36.cell? ⟨vN, 1, none⟩ = some (.int .i64 a1_1) := (zC wL.out 1).trans rfl; have hcz38_2 : w36.cell? ⟨vN, 2, none⟩ = some (.int .i64 a1_2) := (zC wL.out 2).trans rfl; have hfz38_0 := zB wL.out 0; have hfz38_1 := zB wL.out 1; have hfz38_2 := zB wL.out 2; have p12 : 0 ≤ (t140 : Int) := of_decide_eq_true (by first | (with_reducible assumption) | assumption); have q12 : (t140 : Int) < ((t136.length : Int) : Int) := of_decide_eq_true (by first | (with_reducible assumption) | assumption); obtain ⟨go12, co12, eo12, gb12, gl12, cl12, HG12⟩ := Kd.R_form yD.out (by omega); (first | cases eo12 | (injection eo12 with ea_ en_ ec_; (first | subst ea_ | (injection ea_ with ea_; subst ea_)); subst ec_; clear en_)); have GB12 := zA.mk gb12; have GG12 := zA.mk HG12; clear gb12 gl12 HG12; obtain ⟨ce12, hcl12, hM12, hcc12, hfr12⟩ := Kd.wBC yD.out z26 (t140 : Int) p12 q12; obtain rfl := zKR hM12; have hx12_0 : w36.cell? ⟨go12, (t140 : Int).toNat * 3, none⟩ = some (.int .i64 ((zH t136 t140).f0)) := hcc12 0 _ rfl; have hx12_1 : w36.cell? ⟨go12, (t140 : Int).toNat * 3 + 1, none⟩ = some (.int .i64 ((zH t136 t140).f1)) := hcc12 1 _ rfl; have hx12_2 : w36.cell? ⟨go12, (t140 : Int).toNat * 3 + 2, none⟩ = some (.int .i64 ((zH t136 t140).f2)) := hcc12 2 _ rfl; have hf12_0 : w36.frozen? ⟨go12, (t140 : Int).toNat * 3, none⟩ = false := hfr12 0; have hf12_1 : w36.frozen? ⟨go12, (t140 : Int).toNat * 3 + 1, none⟩ = false := hfr12 1; have hf12_2 : w36.frozen? ⟨go12, (t140 : Int).toNat * 3 + 2, none⟩ = false := hfr12 2; clear hcl12 hcc12 hfr12 hM12; replace p12 := eq_true p12; replace q12 := eq_true q12; have HX39 := zA.mk (show Kd.R k26 26 w36 w.heap.size (fun k_ => k_ ≠ vN) (.slice (some ⟨go12, 0, none⟩) t136.length co28) t136 from (rG yD.out)); obtain ⟨ce39, hcl39, hM39, hcc39, hfr39⟩ := Kd.wBC HX39.out z26 (t140 : Int) (of_decide_eq_true (by first | (with_reducible assumption) | assumption)) (by have h_ : (t140 : Int) < ((t136.length : Int) : Int) := of_decide_eq_true (by first | (with_reducible assumption) | assumption); first | exact h_ | (have e_ := (Kd.zU yD.out).1; omega) | simpa using h_); obtain rfl := zKR hM39; have HP39 := Kd.R_seg HX39.out (t140 : Int) (of_decide_eq_true (by first | (with_reducible assumption) | assumption)) (by have h_ : (t140 : Int) < ((t136.length : Int) : Int) := of_decide_eq_true (by first | (with_reducible assumption) | assumption); first | exact h_ | (have e_ := (Kd.zU yD.out).1; omega) | simpa using h_) (seg := [.int .i64 a1_0, .int .i64 a1_1, .int .i64 a1_2]) (j := 0) hcl39 hcc39 (show 3 ≤ 3 from by decide) (x' := (⟨a1_0, a1_1, a1_2⟩ : S26)) (jL _ _ _ (⟨a1_0, a1_1, a1_2⟩ : S26) ) (fun _ hk => hk); have hx39_0 := hcc39 0 _ rfl; (try simp only [show (k26).sz = 3 from rfl, Nat.mul_one, Nat.add_zero] at hx39_0); have hf39_0 := hfr39 0; (try simp only [show (k26).sz = 3 from rfl, Nat.mul_one, Nat.add_zero] at hf39_0); have hx39_1 := hcc39 1 _ rfl; (try simp only [show (k26).sz = 3 from rfl, Nat.mul_one, Nat.add_zero] at hx39_1); have hf39_1 := hfr39 1; (try simp only [show (k26).sz = 3 from rfl, Nat.mul_one, Nat.add_zero] at hf39_1); have hx39_2 := hcc39 2 _ rfl; (try simp only [show (k26).sz = 3 from rfl, Nat.mul_one, Nat.add_zero] at hx39_2); have hf39_2 := hfr39 2; (try simp only [show (k26).sz = 3 from rfl, Nat.mul_one, Nat.add_zero] at hf39_2); clear hcl39 hcc39 hfr39 hM39) | ((with_reducible refine zWU (t := 26) (p := 37) rfl ?_); refine zRM (t := 26) (p := 37) (v := ?vo_w40) (w1 := (((w36.setCell ⟨go12, (t140 : Int).toNat * 3, none⟩ (.int .i64 a1_0)).setCell ⟨go12, (t140 : Int).toNat * 3 + 1, none⟩ (.int .i64 a1_1)).setCell ⟨go12, (t140 : Int).toNat * 3 + 2, none⟩ (.int .i64 a1_2))) ?hg ?ho ?hn ?hr ?_; (case ho => rfl); (case hg => rfl); (case hn => rfl); (case hr => first | (go_simp; done) | (go_simp; rfl)); intro w40 hw; have hg : w36.grownBy w40 (some go12) := (by rw [hw]; exact HP39.2); have hp_ : Kd.R k26 26 w40 w.heap.size (fun k_ => k_ ≠ vN) (.slice (some ⟨go12, 0, none⟩) t136.length co28) y142 := (by rw [hw, Ny142.out]; exact HP39.1); clear HP39; have n0_ := zA.mk (wZ (bG wG.out) hg (Kd.R_ne yD.out wG.out (by decide))); have n1_ := zA.mk (wZ (bG wL.out) hg (Kd.R_away yD.out (fun _ hk => hk))); have n2_ := zA.mk (wZ (bG vE.out) hg (Kd.R_ne yD.out vE.out (by decide))); have n3_ := zA.mk (hp_); have n4_ := zA.mk (wZ (bG vU.out) hg (Kd.R_ne yD.out vU.out (by decide))); have n5_ := zA.mk ((by rw [hw]; exact zIU (zIU (zIU (HB.out) GB12.out) GB12.out) GB12.out : Below w.heap.size w w40)); clear wG; clear wL; clear vE; clear yD; clear vU; clear HB; have wG := n0_; have wL := n1_; have vE := n2_; have yD := n3_; have vU := n4_; have HB := n5_; clear n0_ n1_ n2_ n3_ n4_ n5_; clear hg hw hp_; have hcz41_0 : w40.cell? ⟨wY, 0, none⟩ = some (.int .i64 a0_0) := (zC vU.out 0).trans rfl; have hcz41_1 : w40.cell? ⟨wY, 1, none⟩ = some (.slice (some ⟨go12, 0, none⟩) t136.length co28) := (zC vU.out 1).trans rfl; have hfz41_0 := zB vU.out 0; have hfz41_1 := zB vU.out 1; have zZX : w40.cell? ⟨qX, 0, none⟩ = some (.int .i64 0) := (zC vE.out 0).trans rfl; have zZW : w40.cell? ⟨qX, 1, none⟩ = some (.slice none 0 0) := (zC vE.out 1).trans rfl; have zZD := zB vE.out 0; have zZC := zB vE.out 1))
      refine bodyPost_ret (jE rfl _ _ qX 24 #[.int .i64 a0_0, .slice (some ⟨go12, 0, none⟩) t136.length co28] (0, 0) _ rfl (by (with_reducible repeat first | apply bN | apply bD | apply bA); refine wE (cs := #[.int .i64 a0_0, .slice none 0 0]) ?_ 1 _ rfl; (with_reducible repeat first | apply bN | apply bD | apply bA); refine wE (cs := #[.int .i64 0, .slice none 0 0]) ?_ 0 _ rfl; (with_reducible repeat first | apply bN | apply bD | apply bA); exact vE.out) Tryz.underlying24 rfl (by kernel_rfl)) rfl ?_; exact ⟨_, by first | rfl | (simp [zN, zM] <;> rfl) | (simp [*, zN, zM] <;> rfl), by (with_reducible repeat (first | apply Kd.zT | apply Kd.zS | apply Kd.wD)); exact Kd.wQ (Kd.wO (p := ⟨qX, 1, none⟩) (Kd.wO (p := ⟨qX, 0, none⟩) (Kd.vL yD.out vE.out (by decide)) (fun _ hk => hk.2) (.int .i64 a0_0)) (fun _ hk => hk.2) (.slice (some ⟨go12, 0, none⟩) t136.length co28)) (fun _ hk => trivial), eG HB.out⟩
     · rw [if_neg c11] at H; exact absurd H (by simp)
    · rw [if_neg c10] at H; exact absurd H (by simp)
   ·
    replace c9 := Bool.eq_false_iff.mpr c9; subst c9; replace H : ((qM.f t136 t140 (([(⟨a1_0, a1_1, a1_2⟩ : S26)] : List (S26)))).bind fun t146 => (if (t146.length : Int) > 64 then (some (0, ([] : List (S26)), 8)) else (some (a0_0, t146, 0)))) = some (r1, r2, r3) := by rw [if_neg (show ¬ (false = true) by decide)] at H; exact H
    obtain ⟨y143, hy143⟩ : ∃ y_ : List (S26), y_ = (([(⟨a1_0, a1_1, a1_2⟩ : S26)] : List (S26))) := ⟨_, rfl⟩; replace H : ((qM.f t136 t140 y143).bind fun t146 => (if (t146.length : Int) > 64 then (some (0, ([] : List (S26)), 8)) else (some (a0_0, t146, 0)))) = some (r1, r2, r3) := by first | (rw [hy143]; with_reducible exact H) | (have H2_ := (Option.bind_some _ _).symm.trans H; rw [hy143]; with_reducible exact H2_) | (have H2_ := (Option.bind_some _ _).symm.trans H; with_reducible exact H2_) | with_reducible exact H | (rw [hy143]; exact H) | exact H
    have Ny143 := zA.mk hy143; clear hy143; replace H := Option.bind_eq_some_iff.mp H; obtain ⟨t146, A430, H⟩ := H; replace H : (if (t146.length : Int) > 64 then (some (0, ([] : List (S26)), 8)) else (some (a0_0, t146, 0))) = some (r1, r2, r3) := H; have A43 := zA.mk A430; clear A430; by_cases c44 : (t146.length : Int) > 64
    ·
     rw [if_pos c44] at H; have c44b0 : decide (64 < (t146.length : Int)) = true := decide_eq_true c44; have c44b1 : decide (64 < t146.length) = true := decide_eq_true (by omega); clear c44; simp only [Option.some.injEq, Prod.mk.injEq] at H; obtain ⟨rfl, rfl, rfl⟩ := H; go_enter Tryz.func16, Tryz.ntmps16
     try go_wp2_with (first | ((with_reducible refine wF (N := 2) rfl ?_); refine wA ?hg (N := 2) ?hd (cs := #[.int .i64 a0_0, .slice A0_1 l0_1.length c0_1]) (t := 24) ?hr ?_; (case hd => rfl); (case hg => rfl); (case hr => first | (go_simp; done) | (go_simp; rfl)); intro vX hg w45 hbox hb; have n0_ := zA.mk (zF (eG HB.out) hb); have n1_ := zA.mk (hbox); have n2_ := zA.mk ((by rw [hg]; exact (zE (eG HB.out)) : w.heap.size ≤ vX)); have n3_ := zA.mk ((by rw [hg]; exact (zE (eG HB.out)) : w.heap.size ≤ vX)); clear HB; have HB := n0_; have wG := n1_; have zVH := n2_; have zHU := n3_; have zKU := geI zHU; clear n0_ n1_ n2_ n3_; clear hb hbox hg) | ((with_reducible refine wF (N := 3) rfl ?_); refine wA ?hg (N := 3) ?hd (cs := #[.int .i64 a1_0, .int .i64 a1_1, .int .i64 a1_2]) (t := 26) ?hr ?_; (case hd => rfl); (case hg => rfl); (case hr => first | (go_simp; done) | (go_simp; rfl)); intro vN hg w46 hbox hb; have n0_ := zA.mk (zG (bG wG.out) hb); have n1_ := zA.mk (zF (eG HB.out) hb); have n2_ := zA.mk (hbox); have n3_ := zA.mk ((by rw [hg]; exact (zE (eG HB.out)) : w.heap.size ≤ vN)); have n4_ := zA.mk ((by rw [hg]; exact (zE (eG HB.out)) : w.heap.size ≤ vN)); have n5_ := zA.mk ((by rw [hg]; exact Nat.ne_of_lt (wC (bG wG.out)) : vX ≠ vN)); have n6_ := zA.mk ((by rw [hg]; exact Nat.ne_of_gt (wC (bG wG.out)) : vN ≠ vX)); clear wG; clear HB; have wG := n0_; have HB := n1_; have wL := n2_; have zVG := n3_; have zHT := n4_; have zKT := geI zHT; have jW := n5_; have jV := n6_; clear n0_ n1_ n2_ n3_ n4_ n5_ n6_; clear hb hbox hg) | ((with_reducible refine wF (N := 4) rfl ?_); refine wA ?hg (N := 4) ?hd (cs := #[.int .i64 0, .slice none 0 0]) (t := 24) ?hr ?_; (case hd => rfl); (case hg => rfl); (case hr => first | (go_simp; done) | (go_simp; rfl)); intro qX hg w47 hbox hb; have n0_ := zA.mk (zG (bG wG.out) hb); have n1_ := zA.mk (zG (bG wL.out) hb); have n2_ := zA.mk (zF (eG HB.out) hb); have n3_ := zA.mk (hbox); have n4_ := zA.mk ((by rw [hg]; exact (zE (eG HB.out)) : w.heap.size ≤ qX)); have n5_ := zA.mk ((by rw [hg]; exact (zE (eG HB.out)) : w.heap.size ≤ qX)); have n6_ := zA.mk ((by rw [hg]; exact Nat.ne_of_lt (wC (bG wG.out)) : vX ≠ qX)); have n7_ := zA.mk ((by rw [hg]; exact Nat.ne_of_gt (wC (bG wG.out)) : qX ≠ vX)); have n8_ := zA.mk ((by rw [hg]; exact Nat.ne_of_lt (wC (bG wL.out)) : vN ≠ qX)); have n9_ := zA.mk ((by rw [hg]; exact Nat.ne_of_gt (wC (bG wL.out)) : qX ≠ vN)); clear wG; clear wL; clear HB; have wG := n0_; have wL := n1_; have HB := n2_; have vE := n3_; have GW133 := n4_; have zQB := n5_; have zVU := geI zQB; have zBK := n6_; have zBI := n7_; have zBJ := n8_; have zBH := n9_; clear n0_ n1_ n2_ n3_ n4_ n5_ n6_ n7_ n8_ n9_; clear hb hbox hg; have hnb48 := jW.out; have hnc48 := jV.out; have hnb49 := zBK.out; have hnc49 := zBI.out; have hcz50_0 : w47.cell? ⟨vX, 0, none⟩ = some (.int .i64 a0_0) := (zC wG.out 0).trans rfl; have hcz50_1 : w47.cell? ⟨vX, 1, none⟩ = some (.slice A0_1 l0_1.length c0_1) := (zC wG.out 1).trans rfl; have hfz50_0 := zB wG.out 0; have hfz50_1 := zB wG.out 1) | ((with_reducible refine zQ (f := 41) rfl ?_); refine vB (some 11) rfl rfl Tryz.func41 (by kernel_rfl) rfl #[.agg #[.int .i64 a0_0, .slice A0_1 l0_1.length c0_1]] rfl (by (try simp only [List.map_toArray, List.map_cons, List.map_nil]); first | done | rfl | (simp only [List.length_drop, List.length_take]; rfl)) ?_; (with_reducible refine (vJ.calls k a0_0 _ _ l0_1 true _ ?side1 ?side2 A3.out).mono ?_); (case side1 => repeat (first | exact (Kd.qW HR0_1.out HB.out) | (with_reducible refine Kd.vZ ?_ _) | (with_reducible refine Kd.vY ?_ _) | (with_reducible refine Kd.qU ?_))); (case side2 => exact HC0_1.out); rintro e w51 ⟨rfl, hb⟩; refine ⟨_, rfl, ?_⟩; have n0_ := zA.mk (zG (bG wG.out) hb); have n1_ := zA.mk (zG (bG wL.out) hb); have n2_ := zA.mk (zG (bG vE.out) hb); have n3_ := zA.mk (zF (eG HB.out) hb); clear wG; clear wL; clear vE; clear HB; have wG := n0_; have wL := n1_; have vE := n2_; have HB := n3_; clear n0_ n1_ n2_ n3_; (try clear hb); (try clear hb2); (try clear hk); (try clear hi); have hnb52 := zBJ.out; have hnc52 := zBH.out; have zPG : w51.cell? ⟨vN, 0, none⟩ = some (.int .i64 a1_0) := (zC wL.out 0).trans rfl; have zPF : w51.cell? ⟨vN, 1, none⟩ = some (.int .i64 a1_1) := (zC wL.out 1).trans rfl; have hcz53_2 : w51.cell? ⟨vN, 2, none⟩ = some (.int .i64 a1_2) := (zC wL.out 2).trans rfl; have zOP := zB wL.out 0; have zOO := zB wL.out 1; have hfz53_2 := zB wL.out 2) | ((with_reducible refine zQ (f := 36) rfl ?_); refine vB (some 16) rfl rfl Tryz.func36 (by kernel_rfl) rfl #[.agg #[.int .i64 a1_0, .int .i64 a1_1, .int .i64 a1_2]] rfl (by (try simp only [List.map_toArray, List.map_cons, List.map_nil]); first | done | rfl | (simp only [List.length_drop, List.length_take]; rfl)) ?_; (with_reducible refine (qP.calls a1_0 a1_1 a1_2 true _ A5.out).mono ?_); rintro e w54 ⟨rfl, hb⟩; refine ⟨_, rfl, ?_⟩; have n0_ := zA.mk (zG (bG wG.out) hb); have n1_ := zA.mk (zG (bG wL.out) hb); have n2_ := zA.mk (zG (bG vE.out) hb); have n3_ := zA.mk (zF (eG HB.out) hb); clear wG; clear wL; clear vE; clear HB; have wG := n0_; have wL := n1_; have vE := n2_; have HB := n3_; clear n0_ n1_ n2_ n3_; (try clear hb); (try clear hb2); (try clear hk); (try clear hi)))
     have n0_ := zA.mk (yX wG.out); have n1_ := zA.mk (yX wL.out); have n2_ := zA.mk (yX vE.out); have n3_ := zA.mk (yB HB.out); clear wG; clear wL; clear vE; clear HB; have wG := n0_; have wL := n1_; have vE := n2_; have HB := n3_; clear n0_ n1_ n2_ n3_; refine zBS (n := 8) (S := fun w' => w'.cell? ⟨vX, 0, none⟩ = some (.int .i64 a0_0) ∧ w'.cell? ⟨vX, 1, none⟩ = some (.slice A0_1 l0_1.length c0_1)) (ds := []) #[false, false, false, false, false, false, false, false] (by kernel_rfl) rfl rfl ⟨(zC wG.out 0).trans rfl, (zC wG.out 1).trans rfl⟩ (fun hHeld => ?_); refine uF qR.tab5 qR.zXC (fun HT_ HW_ => ?_)
     generalize w54.drew = w55 at wG wL vE HB hHeld ⊢; refine vD (i := 0) (N := some 19) (v := ?_) (a' := ?_) #[true, false, false, false, false, false, false, false] rfl rfl (wM HT_.out (by kernel_rfl)) (fun _ _ _ h => h) (Or.inl ⟨by rfl, ?_⟩) ?_ ?_; rotate_left
     · intro w'; go_simp; with_reducible rfl
     rotate_left
     · simp only [Act.put, sIA, sC0, sCS, wJ, wK]; rfl
     refine vD (i := 2) (N := some 21) (v := ?_) (a' := ?_) #[true, false, true, false, false, false, false, false] rfl rfl (wM HT_.out (by kernel_rfl)) (fun _ _ _ h => h) (Or.inl ⟨by rfl, ?_⟩) ?_ ?_; rotate_left
     · intro w'; go_simp; with_reducible rfl
     rotate_left
     · simp only [Act.put, sIA, sC0, sCS, wJ, wK]; rfl
     refine kL (i := 1) (N := some 20) (v := ?_) (a' := ?_) #[true, true, true, false, false, false, false, false] rfl rfl (qY HT_.out HW_.out (by kernel_rfl)) (fun _ _ _ h => h) (Or.inl ⟨by rfl, ?_⟩) hHeld ?_ ?_; rotate_left
     · rintro w' ⟨s0, s1⟩; go_simp; with_reducible rfl
     rotate_left
     · simp only [Act.put, sIA, sC0, sCS, wJ, wK]; rfl
     refine kL (i := 3) (N := some 22) (v := ?_) (a' := ?_) #[true, true, true, true, false, false, false, false] rfl rfl (qY HT_.out HW_.out (by kernel_rfl)) (fun _ _ _ h => h) (Or.inl ⟨by rfl, ?_⟩) hHeld ?_ ?_; rotate_left
     · rintro w' ⟨s0, s1⟩; go_simp; with_reducible rfl
     rotate_left
     · simp only [Act.put, sIA, sC0, sCS, wJ, wK]; rfl
     refine join_ (σ := Value × Nat) 1 #[true, true, true, true, true, true, true, false] (fun s_ => [(23, s_.1), (6, .pointer (some ⟨s_.2, 0, none⟩)), (24, .agg #[.int .i64 a0_0, s_.1])]) (fun s_ w' => (w'.cell? ⟨vX, 0, none⟩ = some (.int .i64 a0_0) ∧ w'.cell? ⟨vX, 1, none⟩ = some (.slice A0_1 l0_1.length c0_1)) ∧ (Kd.R k26 26 w' w.heap.size (fun k_ => k_ ≠ vN) s_.1 t136) ∧ (w'.heap[vX]? = some (.cells #[.int .i64 a0_0, .slice A0_1 l0_1.length c0_1] 24 (0, 0))) ∧ (w'.heap[vN]? = some (.cells #[.int .i64 a1_0, .int .i64 a1_1, .int .i64 a1_2] 26 (0, 0))) ∧ (w'.heap[qX]? = some (.cells #[.int .i64 0, .slice none 0 0] 24 (0, 0))) ∧ (w'.heap[s_.2]? = some (.cells #[.int .i64 0, .slice none 0 0] 24 (0, 0))) ∧ (w.heap.size ≤ s_.2) ∧ (w.heap.size ≤ s_.2) ∧ (vX ≠ s_.2) ∧ (s_.2 ≠ vX) ∧ (vN ≠ s_.2) ∧ (s_.2 ≠ vN) ∧ (qX ≠ s_.2) ∧ (s_.2 ≠ qX) ∧ (Below w.heap.size w w')) ?_ ?_; rotate_left
     ·
      intro hCont; refine two_ (i := 4) (j := 6) (Ni := some 23) (Nj := some 6) #[true, true, true, true, true, false, false, false] #[true, true, true, true, false, false, true, false] rfl rfl rfl rfl (zQG HT_.out (by kernel_rfl)) (by decide) (by decide) (fun K hK => ?_) (fun K hK => ?_)
      ·
       skip
       refine zDC Tryz.func38 (by kernel_rfl) rfl #[.slice A0_1 l0_1.length c0_1] (by rfl) rfl rfl (by (try simp only [List.map_toArray, List.map_cons, List.map_nil]); first | done | rfl | (simp only [List.length_drop, List.length_take]; rfl)) ?_; with_reducible refine (qC.calls _ _ l0_1 t136 _ ?side1 ?side2 A7.out).mono ?_
       (case side1 => repeat (first | exact (Kd.qW HR0_1.out HB.out) | (with_reducible refine Kd.vZ ?_ _) | (with_reducible refine Kd.vY ?_ _) | (with_reducible refine Kd.qU ?_)))
       (case side2 => exact HC0_1.out)
       rintro e w56 ⟨v137, rfl, ho0, hb⟩; refine ⟨_, rfl, ?_⟩; have n0_ := zA.mk (Kd.yK (Kd.zBM ho0 (bG wL.out)) (zE (eG HB.out))); have n1_ := zA.mk (zG (bG wG.out) hb); have n2_ := zA.mk (zG (bG wL.out) hb); have n3_ := zA.mk (zG (bG vE.out) hb); have n4_ := zA.mk (zF (eG HB.out) hb); clear wG; clear wL; clear vE; clear HB; have yD := n0_; have wG := n1_; have wL := n2_; have vE := n3_; have HB := n4_; clear n0_ n1_ n2_ n3_ n4_; (try clear hb)
       (try clear hb2)
       (try clear hk)
       (try clear hi)
       (try clear ho0)
       obtain ⟨Ao57, co57, eo57⟩ := Kd.vG yD.out; (first | subst eo57 | (injection eo57 with f1_ f2_ f3_; have f4_ := f1_.symm; have f5_ := f3_.symm; clear f1_ f2_ f3_; subst f4_; subst f5_))
       refine hK.out _ _ ⟨(zC wG.out 0).trans rfl, (zC wG.out 1).trans rfl⟩ (fun hHeld => ?_); clear hK K; refine uB (a' := ?_) ?_ ?_; rotate_left
       ·
        show Act.put _ (some 23) _ = _
        simp only [Act.put, sIA, sC0, sCS, wJ, wK]; rfl
       refine vD (i := 5) (N := some 24) (v := ?_) (a' := ?_) #[true, true, true, true, true, true, false, false] rfl rfl (wM HT_.out (by kernel_rfl)) (fun _ _ _ h => h) (Or.inl ⟨by rfl, ?_⟩) ?_ ?_; rotate_left
       · intro w'; go_simp; with_reducible rfl
       rotate_left
       · simp only [Act.put, sIA, sC0, sCS, wJ, wK]; rfl
       refine one_ (i := 6) (N := some 6) #[true, true, true, true, true, true, true, false] rfl rfl (kH HT_.out (by kernel_rfl)) (by decide) (fun K hK => ?_); refine zGK ?hg (N := 6) ?hd (cs := #[.int .i64 0, .slice none 0 0]) (t := 24) ?hr ?_; (case hd => rfl); (case hg => rfl); (case hr => first | (go_simp; done) | (go_simp; rfl))
       intro wY hg w58 hbox hb; have n0_ := zA.mk (Kd.wB (rG yD.out) hb); have n1_ := zA.mk (zG (bG wG.out) hb); have n2_ := zA.mk (zG (bG wL.out) hb); have n3_ := zA.mk (zG (bG vE.out) hb); have n4_ := zA.mk (zF (eG HB.out) hb); have n5_ := zA.mk (hbox); have n6_ := zA.mk ((by rw [hg]; exact (zE (eG HB.out)) : w.heap.size ≤ wY)); have n7_ := zA.mk ((by rw [hg]; exact (zE (eG HB.out)) : w.heap.size ≤ wY)); have n8_ := zA.mk ((by rw [hg]; exact Nat.ne_of_lt (wC (bG wG.out)) : vX ≠ wY)); have n9_ := zA.mk ((by rw [hg]; exact Nat.ne_of_gt (wC (bG wG.out)) : wY ≠ vX)); have n10_ := zA.mk ((by rw [hg]; exact Nat.ne_of_lt (wC (bG wL.out)) : vN ≠ wY)); have n11_ := zA.mk ((by rw [hg]; exact Nat.ne_of_gt (wC (bG wL.out)) : wY ≠ vN)); have n12_ := zA.mk ((by rw [hg]; exact Nat.ne_of_lt (wC (bG vE.out)) : qX ≠ wY)); have n13_ := zA.mk ((by rw [hg]; exact Nat.ne_of_gt (wC (bG vE.out)) : wY ≠ qX)); clear yD; clear wG; clear wL; clear vE; clear HB; have yD := n0_; have wG := n1_; have wL := n2_; have vE := n3_; have HB := n4_; have vU := n5_; have zGF := n6_; have zBL := n7_; have zFF := geI zBL
       have vW := n8_; have yS := n9_; have qS := n10_; have yR := n11_; have qN := n12_; have yQ := n13_; clear n0_ n1_ n2_ n3_ n4_ n5_ n6_ n7_ n8_ n9_ n10_ n11_ n12_ n13_; clear hb hbox hg; refine hK.out _ _ ⟨(zC wG.out 0).trans rfl, (zC wG.out 1).trans rfl⟩ (fun hHeld => ?_); clear hK K; refine uB (a' := ?_) ?_ ?_; rotate_left
       ·
        show Act.put _ (some 6) _ = _
        simp only [Act.put, sIA, sC0, sCS, wJ, wK]; rfl
       exact uB (by simp only [zCG, Act.put, sIA, sC0, sCS]) (hCont (.slice Ao57 t136.length co57, wY) _ ⟨hHeld, (by (with_reducible repeat (first | apply Kd.zT | apply Kd.zS | apply Kd.wD)); exact Kd.wQ yD.out (fun _ hk => hk.2)), (bG wG.out), (bG wL.out), (bG vE.out), (bG vU.out), zGF.out, zBL.out, vW.out, yS.out, qS.out, yR.out, qN.out, yQ.out, (eG HB.out)⟩)
      ·
       skip
       refine zGK ?hg (N := 6) ?hd (cs := #[.int .i64 0, .slice none 0 0]) (t := 24) ?hr ?_; (case hd => rfl); (case hg => rfl); (case hr => first | (go_simp; done) | (go_simp; rfl))
       intro wY hg w56 hbox hb; have n0_ := zA.mk (zG (bG wG.out) hb); have n1_ := zA.mk (zG (bG wL.out) hb); have n2_ := zA.mk (zG (bG vE.out) hb); have n3_ := zA.mk (zF (eG HB.out) hb); have n4_ := zA.mk (hbox); have n5_ := zA.mk ((by rw [hg]; exact (zE (eG HB.out)) : w.heap.size ≤ wY)); have n6_ := zA.mk ((by rw [hg]; exact (zE (eG HB.out)) : w.heap.size ≤ wY)); have n7_ := zA.mk ((by rw [hg]; exact Nat.ne_of_lt (wC (bG wG.out)) : vX ≠ wY)); have n8_ := zA.mk ((by rw [hg]; exact Nat.ne_of_gt (wC (bG wG.out)) : wY ≠ vX)); have n9_ := zA.mk ((by rw [hg]; exact Nat.ne_of_lt (wC (bG wL.out)) : vN ≠ wY)); have n10_ := zA.mk ((by rw [hg]; exact Nat.ne_of_gt (wC (bG wL.out)) : wY ≠ vN)); have n11_ := zA.mk ((by rw [hg]; exact Nat.ne_of_lt (wC (bG vE.out)) : qX ≠ wY)); have n12_ := zA.mk ((by rw [hg]; exact Nat.ne_of_gt (wC (bG vE.out)) : wY ≠ qX)); clear wG; clear wL; clear vE; clear HB; have wG := n0_; have wL := n1_; have vE := n2_; have HB := n3_; have vU := n4_; have zGF := n5_; have zBL := n6_; have zFF := geI zBL
       have vW := n7_; have yS := n8_; have qS := n9_; have yR := n10_; have qN := n11_; have yQ := n12_; clear n0_ n1_ n2_ n3_ n4_ n5_ n6_ n7_ n8_ n9_ n10_ n11_ n12_; clear hb hbox hg; refine hK.out _ _ ⟨(zC wG.out 0).trans rfl, (zC wG.out 1).trans rfl⟩ (fun hHeld => ?_); clear hK K; refine uB (a' := ?_) ?_ ?_; rotate_left
       ·
        show Act.put _ (some 6) _ = _
        simp only [Act.put, sIA, sC0, sCS, wJ, wK]; rfl
       refine one_ (i := 4) (N := some 23) #[true, true, true, true, true, false, true, false] rfl rfl (kH HT_.out (by kernel_rfl)) (by decide) (fun K hK => ?_); refine zDC Tryz.func38 (by kernel_rfl) rfl #[.slice A0_1 l0_1.length c0_1] (by rfl) rfl rfl (by (try simp only [List.map_toArray, List.map_cons, List.map_nil]); first | done | rfl | (simp only [List.length_drop, List.length_take]; rfl)) ?_; with_reducible refine (qC.calls _ _ l0_1 t136 _ ?side1 ?side2 A7.out).mono ?_
       (case side1 => repeat (first | exact (Kd.qW HR0_1.out HB.out) | (with_reducible refine Kd.vZ ?_ _) | (with_reducible refine Kd.vY ?_ _) | (with_reducible refine Kd.qU ?_)))
       (case side2 => exact HC0_1.out)
       rintro e w57 ⟨v137, rfl, ho0, hb⟩; refine ⟨_, rfl, ?_⟩; have n0_ := zA.mk (Kd.yK (Kd.zBM ho0 (bG wL.out)) (zE (eG HB.out))); have n1_ := zA.mk (zG (bG wG.out) hb); have n2_ := zA.mk (zG (bG wL.out) hb); have n3_ := zA.mk (zG (bG vE.out) hb); have n4_ := zA.mk (zG (bG vU.out) hb); have n5_ := zA.mk (zF (eG HB.out) hb); clear wG; clear wL; clear vE; clear vU; clear HB; have yD := n0_; have wG := n1_; have wL := n2_; have vE := n3_; have vU := n4_; have HB := n5_; clear n0_ n1_ n2_ n3_ n4_ n5_; (try clear hb)
       (try clear hb2)
       (try clear hk)
       (try clear hi)
       (try clear ho0)
       obtain ⟨Ao58, co58, eo58⟩ := Kd.vG yD.out; (first | subst eo58 | (injection eo58 with f1_ f2_ f3_; have f4_ := f1_.symm; have f5_ := f3_.symm; clear f1_ f2_ f3_; subst f4_; subst f5_))
       refine hK.out _ _ ⟨(zC wG.out 0).trans rfl, (zC wG.out 1).trans rfl⟩ (fun hHeld => ?_); clear hK K; refine uB (a' := ?_) ?_ ?_; rotate_left
       ·
        show Act.put _ (some 23) _ = _
        simp only [Act.put, sIA, sC0, sCS, wJ, wK]; rfl
       refine vD (i := 5) (N := some 24) (v := ?_) (a' := ?_) #[true, true, true, true, true, true, true, false] rfl rfl (wM HT_.out (by kernel_rfl)) (fun _ _ _ h => h) (Or.inl ⟨by rfl, ?_⟩) ?_ ?_; rotate_left
       · intro w'; go_simp; with_reducible rfl
       rotate_left
       · simp only [Act.put, sIA, sC0, sCS, wJ, wK]; rfl
       exact uB (by simp only [zCG, Act.put, sIA, sC0, sCS]) (hCont (.slice Ao58 t136.length co58, wY) _ ⟨hHeld, (by (with_reducible repeat (first | apply Kd.zT | apply Kd.zS | apply Kd.wD)); exact Kd.wQ yD.out (fun _ hk => hk.2)), (bG wG.out), (bG wL.out), (bG vE.out), (bG vU.out), zGF.out, zBL.out, vW.out, yS.out, qS.out, yR.out, qN.out, yQ.out, (eG HB.out)⟩)
     rintro ⟨v137, wY⟩ w59 ⟨hS_, h0_, h1_, h2_, h3_, h4_, h5_, h6_, h7_, h8_, h9_, h10_, h11_, h12_, h13_⟩; have n0_ : zA (Kd.R k26 26 w59 w.heap.size (fun k_ => k_ ≠ vN) v137 t136) := ⟨h0_⟩; have n1_ : zA (w59.heap[vX]? = some (.cells #[.int .i64 a0_0, .slice A0_1 l0_1.length c0_1] 24 (0, 0))) := ⟨h1_⟩; have n2_ : zA (w59.heap[vN]? = some (.cells #[.int .i64 a1_0, .int .i64 a1_1, .int .i64 a1_2] 26 (0, 0))) := ⟨h2_⟩; have n3_ : zA (w59.heap[qX]? = some (.cells #[.int .i64 0, .slice none 0 0] 24 (0, 0))) := ⟨h3_⟩; have n4_ : zA (w59.heap[wY]? = some (.cells #[.int .i64 0, .slice none 0 0] 24 (0, 0))) := ⟨h4_⟩; have n5_ : zA (w.heap.size ≤ wY) := ⟨h5_⟩; have n6_ : zA (w.heap.size ≤ wY) := ⟨h6_⟩; have n7_ : zA (vX ≠ wY) := ⟨h7_⟩; have n8_ : zA (wY ≠ vX) := ⟨h8_⟩; have n9_ : zA (vN ≠ wY) := ⟨h9_⟩; have n10_ : zA (wY ≠ vN) := ⟨h10_⟩; have n11_ : zA (qX ≠ wY) := ⟨h11_⟩; have n12_ : zA (wY ≠ qX) := ⟨h12_⟩; have n13_ : zA (Below w.heap.size w w59) := ⟨h13_⟩; clear wG; clear wL; clear vE; clear HB; clear h0_ h1_ h2_ h3_ h4_ h5_ h6_ h7_ h8_ h9_ h10_ h11_ h12_ h13_; have yD := n0_; have wG := n1_; have wL := n2_; have vE := n3_; have vU := n4_; have zGF := n5_; have zBL := n6_; have zFF := geI zBL
     have vW := n7_; have yS := n8_; have qS := n9_; have yR := n10_; have qN := n11_; have yQ := n12_; have HB := n13_; clear n0_ n1_ n2_ n3_ n4_ n5_ n6_ n7_ n8_ n9_ n10_ n11_ n12_ n13_; have hHeld : w59.cell? ⟨vX, 0, none⟩ = some (.int .i64 a0_0) ∧ w59.cell? ⟨vX, 1, none⟩ = some (.slice A0_1 l0_1.length c0_1) := hS_; obtain ⟨Ao60, co60, eo60⟩ := Kd.vG yD.out; (first | subst eo60 | (injection eo60 with f1_ f2_ f3_; have f4_ := f1_.symm; have f5_ := f3_.symm; clear f1_ f2_ f3_; subst f4_; subst f5_))
     refine uB (a' := ?_) ?_ ?_; rotate_left
     · simp only [zCG, Act.put, sIA, sC0, sCS]; rfl
     refine one_ (i := 7) (N := none) #[true, true, true, true, true, true, true, true] rfl rfl (kH HT_.out (by kernel_rfl)) (by decide) (fun K hK => ?_); have hs61 : w59.cell? ⟨wY, 0, none⟩ = some (.int .i64 0) := (zC vU.out 0).trans rfl; have hfs61 := zB vU.out 0; have hns61_0 := vW.out; have hns61_1 := qS.out; have hns61_2 := qN.out; have hms61_0 := yS.out; have hms61_1 := yR.out; have hms61_2 := yQ.out; have hs62 : w59.cell? ⟨wY, 1, none⟩ = some (.slice none 0 0) := (zC vU.out 1).trans rfl; have hfs62 := zB vU.out 1; have hns62_0 := vW.out; have hns62_1 := qS.out; have hns62_2 := qN.out; have hms62_0 := yS.out; have hms62_1 := yR.out; have hms62_2 := yQ.out; refine skip_ (w1 := ?_) (by rfl) rfl ?_ ?_; rotate_left
     · go_simp; rfl
     refine hK.out _ _ ⟨((cell_far (p := ⟨wY, _, none⟩) vW.out _).trans (((cell_far (p := ⟨wY, _, none⟩) vW.out _).trans (hHeld.1)))), ((cell_far (p := ⟨wY, _, none⟩) vW.out _).trans (((cell_far (p := ⟨wY, _, none⟩) vW.out _).trans (hHeld.2))))⟩ (fun hHeld => ?_); clear hK K; refine zFQ (zAL HT_.out (by kernel_rfl)) ?_; have hnb63 := yS.out; have hnc63 := vW.out; have hnb64 := yR.out; have hnc64 := qS.out; have hnb65 := yQ.out; have hnc65 := qN.out; have hcz66_0 : w59.cell? ⟨wY, 0, none⟩ = some (.int .i64 0) := (zC vU.out 0).trans rfl; have hcz66_1 : w59.cell? ⟨wY, 1, none⟩ = some (.slice none 0 0) := (zC vU.out 1).trans rfl; have hfz66_0 := zB vU.out 0; have hfz66_1 := zB vU.out 1; have zPC : w59.cell? ⟨vN, 0, none⟩ = some (.int .i64 a1_0) := (zC wL.out 0).trans rfl; have zPB : w59.cell? ⟨vN, 1, none⟩ = some (.int .i64 a1_1) := (zC wL.out 1).trans rfl; have hcz67_2 : w59.cell? ⟨vN, 2, none⟩ = some (.int .i64 a1_2) := (zC wL.out 2).trans rfl; have zOL := zB wL.out 0; have zOK := zB wL.out 1; have hfz67_2 := zB wL.out 2; try go_wp2_with (first | ((with_reducible refine zQ (f := 42) rfl ?_); refine vB (some 29) rfl rfl Tryz.func42 (by kernel_rfl) rfl #[.slice Ao60 t136.length co60, .agg #[.int .i64 a1_0, .int .i64 a1_1, .int .i64 a1_2], .func (.func 37) #[] #[]] rfl (by (try simp only [List.map_toArray, List.map_cons, List.map_nil]); first | done | rfl | (simp only [List.length_drop, List.length_take]; rfl)) ?_; (with_reducible refine (zZ.calls k _ _ t136 a1_0 a1_1 a1_2 t140 false _ ?side1 ?side2 A8.out).mono ?_); (case side1 => refine (Kd.zU (e := 26) (base := w.heap.size) (ok := fun k_ => k_ ≠ vN) (n := t136.length) (c := co60) ?_).2.2; exact (by (with_reducible repeat (first | apply Kd.zT | apply Kd.zS | apply Kd.wD)); exact (Kd.wQ (Kd.wO (p := ⟨wY, 1, none⟩) (Kd.wO (p := ⟨wY, 0, none⟩) (Kd.vL yD.out vU.out (by decide)) (fun _ hk => hk.2) (.int .i64 a0_0)) (fun _ hk => hk.2) (.slice Ao60 t136.length co60)) (fun _ h_ => h_.1)))); (case side2 => exact (Kd.zU yD.out).2.1); rintro e w68 ⟨rfl, hb⟩; refine ⟨_, rfl, ?_⟩; have n0_ := zA.mk (Kd.wB (by (with_reducible repeat (first | apply Kd.zT | apply Kd.zS | apply Kd.wD)); exact (Kd.wQ (Kd.wO (p := ⟨wY, 1, none⟩) (Kd.wO (p := ⟨wY, 0, none⟩) (Kd.vL yD.out vU.out (by decide)) (fun _ hk => hk.2) (.int .i64 a0_0)) (fun _ hk => hk.2) (.slice Ao60 t136.length co60)) (fun _ h_ => h_.1))) hb); have n1_ := zA.mk (zG (g := vX) (o := .cells #[.int .i64 a0_0, .slice A0_1 l0_1.length c0_1] 24 (0, 0)) (by (with_reducible repeat first | apply bN | apply bD | apply bA); refine zV ?_ vW.out _; (with_reducible repeat first | apply bN | apply bD | apply bA); refine zV ?_ vW.out _; (with_reducible repeat first | apply bN | apply bD | apply bA); exact wG.out) hb); have n2_ := zA.mk (zG (g := vN) (o := .cells #[.int .i64 a1_0, .int .i64 a1_1, .int .i64 a1_2] 26 (0, 0)) (by (with_reducible repeat first | apply bN | apply bD | apply bA); refine zV ?_ qS.out _; (with_reducible repeat first | apply bN | apply bD | apply bA); refine zV ?_ qS.out _; (with_reducible repeat first | apply bN | apply bD | apply bA); exact wL.out) hb); have n3_ := zA.mk (zG (g := qX) (o := .cells #[.int .i64 0, .slice none 0 0] 24 (0, 0)) (by (with_reducible repeat first | apply bN | apply bD | apply bA); refine zV ?_ qN.out _; (with_reducible repeat first | apply bN | apply bD | apply bA); refine zV ?_ qN.out _; (with_reducible repeat first | apply bN | apply bD | apply bA); exact vE.out) hb); have n4_ := zA.mk (zG (g := wY) (o := .cells #[.int .i64 a0_0, .slice Ao60 t136.length co60] 24 (0, 0)) (by (with_reducible repeat first | apply bN | apply bD | apply bA); refine wE (cs := #[.int .i64 a0_0, .slice none 0 0]) ?_ 1 _ rfl; (with_reducible repeat first | apply bN | apply bD | apply bA); refine wE (cs := #[.int .i64 0, .slice none 0 0]) ?_ 0 _ rfl; (with_reducible repeat first | apply bN | apply bD | apply bA); exact vU.out) hb); have n5_ := zA.mk (zF (eG HB.out) hb); clear yD; clear wG; clear wL; clear vE; clear vU; clear HB; have yD := n0_; have wG := n1_; have wL := n2_; have vE := n3_; have vU := n4_; have HB := n5_; clear n0_ n1_ n2_ n3_ n4_ n5_; (try clear hb); (try clear hb2); (try clear hk); (try clear hi); have hcz69_0 : w68.cell? ⟨wY, 0, none⟩ = some (.int .i64 a0_0) := (zC vU.out 0).trans rfl; have hcz69_1 : w68.cell? ⟨wY, 1, none⟩ = some (.slice Ao60 t136.length co60) := (zC vU.out 1).trans rfl; have hfz69_0 := zB vU.out 0; have hfz69_1 := zB vU.out 1; have zPA : w68.cell? ⟨vN, 0, none⟩ = some (.int .i64 a1_0) := (zC wL.out 0).trans rfl; have zOZ : w68.cell? ⟨vN, 1, none⟩ = some (.int .i64 a1_1) := (zC wL.out 1).trans rfl; have hcz70_2 : w68.cell? ⟨vN, 2, none⟩ = some (.int .i64 a1_2) := (zC wL.out 2).trans rfl; have zOJ := zB wL.out 0; have zOI := zB wL.out 1; have hfz70_2 := zB wL.out 2) | ((with_reducible refine wF (N := 43) rfl ?_); refine Kd.zVD k26 _ 26 ?hg (N := 43) ?hd (xs := ([(⟨a1_0, a1_1, a1_2⟩ : S26)] : List (S26))) (inner := [.int .i64 a1_0, .int .i64 a1_1, .int .i64 a1_2]) (ok := fun _ => True) (okp := fun _ => True) ?hr ?hp (fun _ hk => hk) trivial (Below.refl _ _) (Nat.le_refl _) (by simp) ?_; (case hd => rfl); (case hg => rfl); (case hr => first | (go_simp; done) | (go_simp; rfl)); (case hp => exact (Reps.c3 (show Kd.M k26 _ _ _ (⟨a1_0, a1_1, a1_2⟩ : S26) [.int .i64 a1_0, .int .i64 a1_1, .int .i64 a1_2] from (jL _ _ _ (⟨a1_0, a1_1, a1_2⟩ : S26) )) (Reps.none _ _))); intro v144 w71 ho72 hb hg_ hnew_; clear hg_ hnew_; (first | rw [← Ny143.out] at ho72 | (simp only [Int.reduceToNat] at ho72; rw [← Ny143.out] at ho72)); have n0_ := zA.mk (Kd.wX (rG yD.out) (Kd.qI ho72) hb); have n1_ := zA.mk (Kd.yK (Kd.zBM (Kd.qH ho72 (Kd.R_lt (rG yD.out))) (bG wL.out)) (zE (eG HB.out))); have n2_ := zA.mk (zG (bG wG.out) hb); have n3_ := zA.mk (zG (bG wL.out) hb); have n4_ := zA.mk (zG (bG vE.out) hb); have n5_ := zA.mk (zG (bG vU.out) hb); have n6_ := zA.mk (zF (eG HB.out) hb); clear yD; clear wG; clear wL; clear vE; clear vU; clear HB; have yD := n0_; have zVF := n1_; have wG := n2_; have wL := n3_; have vE := n4_; have vU := n5_; have HB := n6_; clear n0_ n1_ n2_ n3_ n4_ n5_ n6_; clear hb ho72; obtain ⟨Ao73, co73, eo73⟩ := Kd.vG zVF.out; subst eo73) | ((with_reducible refine zQ (f := 43) rfl ?_); refine vB (some 44) rfl rfl Tryz.func43 (by kernel_rfl) rfl #[.slice Ao60 t136.length co60, .int .i64 t140, .slice Ao73 y143.length co73] rfl (by (try simp only [List.map_toArray, List.map_cons, List.map_nil]); first | done | rfl | (simp only [List.length_drop, List.length_take]; rfl)) ?_; (refine (qM.own yD.out zVF.out (fun k hk => by first | exact hk.1.2 | exact hk.2 | exact hk.1.1.2) (zE HB.out) A43.out).mono ?_); rintro e w74 ⟨v147, rfl, ho0, hgr⟩; refine ⟨_, rfl, ?_⟩; have n0_ := zA.mk ho0; have m0_ := zA.mk (wZ wG.out hgr (Kd.R_ne yD.out wG.out (by decide))); have m1_ := zA.mk (wZ wL.out hgr (fun e => by have h_ := yD.out.1 _ e.symm; first | exact h_ rfl | exact h_.1 rfl | exact h_.1.1 rfl)); have m2_ := zA.mk (wZ vE.out hgr (Kd.R_ne yD.out vE.out (by decide))); have m3_ := zA.mk (wZ vU.out hgr (Kd.R_ne yD.out vU.out (by decide))); have n1_ := zA.mk (HB.out.grown hgr (zE HB.out) (fun k e => zAS (zPY yD.out) k e)); clear yD; clear zVF; clear wG; clear wL; clear vE; clear vU; clear HB; have HO148 := n0_; have wG := m0_; have wL := m1_; have vE := m2_; have vU := m3_; have HB := n1_; clear n0_ n1_; (try clear ho0); clear hgr; obtain ⟨Ao75, co75, eo75⟩ := Kd.vG HO148.out; subst eo75; have hcz76_0 : w74.cell? ⟨wY, 0, none⟩ = some (.int .i64 a0_0) := (zC vU.out 0).trans rfl; have hcz76_1 : w74.cell? ⟨wY, 1, none⟩ = some (.slice Ao60 t136.length co60) := (zC vU.out 1).trans rfl; have hfz76_0 := zB vU.out 0; have hfz76_1 := zB vU.out 1; have zOY : w74.cell? ⟨qX, 0, none⟩ = some (.int .i64 0) := (zC vE.out 0).trans rfl; have zOX : w74.cell? ⟨qX, 1, none⟩ = some (.slice none 0 0) := (zC vE.out 1).trans rfl; have zOH := zB vE.out 0; have zOG := zB vE.out 1))
     refine bodyPost_ret (jE rfl _ _ qX 24 #[.int .i64 0, .slice none 0 0] (0, 0) _ rfl (by (with_reducible repeat first | apply bN | apply bD | apply bA); refine wE (cs := #[.int .i64 0, .slice none 0 0]) ?_ 1 _ rfl; (with_reducible repeat first | apply bN | apply bD | apply bA); refine wE (cs := #[.int .i64 0, .slice none 0 0]) ?_ 0 _ rfl; (with_reducible repeat first | apply bN | apply bD | apply bA); refine zV ?_ qN.out _; (with_reducible repeat first | apply bN | apply bD | apply bA); exact vE.out) Tryz.underlying24 rfl (by kernel_rfl)) rfl ?_; exact ⟨_, by first | rfl | (simp [zN, zM] <;> rfl) | (simp [*, zN, zM] <;> rfl), by first | exact Kd.zHS _ _ _ _ _ | exact Kd.zMP _ _ _ _ _ | exact Kd.zML _ _ _ _ _ | exact Kd.zMO _ _ _ _ _ | exact Kd.zMN _ _ _ _ _, eG HB.out⟩
    ·
     rw [if_neg c44] at H; have c44b0 : decide (64 < (t146.length : Int)) = false := decide_eq_false c44; have c44b1 : decide (64 < t146.length) = false := decide_eq_false (by omega); clear c44; simp only [Option.some.injEq, Prod.mk.injEq] at H; obtain ⟨rfl, rfl, rfl⟩ := H; go_enter Tryz.func16, Tryz.ntmps16
     try go_wp2_with (first | ((with_reducible refine wF (N := 2) rfl ?_); refine wA ?hg (N := 2) ?hd (cs := #[.int .i64 a0_0, .slice A0_1 l0_1.length c0_1]) (t := 24) ?hr ?_; (case hd => rfl); (case hg => rfl); (case hr => first | (go_simp; done) | (go_simp; rfl)); intro vX hg w78 hbox hb; have n0_ := zA.mk (zF (eG HB.out) hb); have n1_ := zA.mk (hbox); have n2_ := zA.mk ((by rw [hg]; exact (zE (eG HB.out)) : w.heap.size ≤ vX)); have n3_ := zA.mk ((by rw [hg]; exact (zE (eG HB.out)) : w.heap.size ≤ vX)); clear HB; have HB := n0_; have wG := n1_; have zVH := n2_; have zHU := n3_; have zKU := geI zHU; clear n0_ n1_ n2_ n3_; clear hb hbox hg) | ((with_reducible refine wF (N := 3) rfl ?_); refine wA ?hg (N := 3) ?hd (cs := #[.int .i64 a1_0, .int .i64 a1_1, .int .i64 a1_2]) (t := 26) ?hr ?_; (case hd => rfl); (case hg => rfl); (case hr => first | (go_simp; done) | (go_simp; rfl)); intro vN hg w79 hbox hb; have n0_ := zA.mk (zG (bG wG.out) hb); have n1_ := zA.mk (zF (eG HB.out) hb); have n2_ := zA.mk (hbox); have n3_ := zA.mk ((by rw [hg]; exact (zE (eG HB.out)) : w.heap.size ≤ vN)); have n4_ := zA.mk ((by rw [hg]; exact (zE (eG HB.out)) : w.heap.size ≤ vN)); have n5_ := zA.mk ((by rw [hg]; exact Nat.ne_of_lt (wC (bG wG.out)) : vX ≠ vN)); have n6_ := zA.mk ((by rw [hg]; exact Nat.ne_of_gt (wC (bG wG.out)) : vN ≠ vX)); clear wG; clear HB; have wG := n0_; have HB := n1_; have wL := n2_; have zVG := n3_; have zHT := n4_; have zKT := geI zHT; have jW := n5_; have jV := n6_; clear n0_ n1_ n2_ n3_ n4_ n5_ n6_; clear hb hbox hg) | ((with_reducible refine wF (N := 4) rfl ?_); refine wA ?hg (N := 4) ?hd (cs := #[.int .i64 0, .slice none 0 0]) (t := 24) ?hr ?_; (case hd => rfl); (case hg => rfl); (case hr => first | (go_simp; done) | (go_simp; rfl)); intro qX hg w80 hbox hb; have n0_ := zA.mk (zG (bG wG.out) hb); have n1_ := zA.mk (zG (bG wL.out) hb); have n2_ := zA.mk (zF (eG HB.out) hb); have n3_ := zA.mk (hbox); have n4_ := zA.mk ((by rw [hg]; exact (zE (eG HB.out)) : w.heap.size ≤ qX)); have n5_ := zA.mk ((by rw [hg]; exact (zE (eG HB.out)) : w.heap.size ≤ qX)); have n6_ := zA.mk ((by rw [hg]; exact Nat.ne_of_lt (wC (bG wG.out)) : vX ≠ qX)); have n7_ := zA.mk ((by rw [hg]; exact Nat.ne_of_gt (wC (bG wG.out)) : qX ≠ vX)); have n8_ := zA.mk ((by rw [hg]; exact Nat.ne_of_lt (wC (bG wL.out)) : vN ≠ qX)); have n9_ := zA.mk ((by rw [hg]; exact Nat.ne_of_gt (wC (bG wL.out)) : qX ≠ vN)); clear wG; clear wL; clear HB; have wG := n0_; have wL := n1_; have HB := n2_; have vE := n3_; have GW133 := n4_; have zQB := n5_; have zVU := geI zQB; have zBK := n6_; have zBI := n7_; have zBJ := n8_; have zBH := n9_; clear n0_ n1_ n2_ n3_ n4_ n5_ n6_ n7_ n8_ n9_; clear hb hbox hg; have hnb81 := jW.out; have hnc81 := jV.out; have hnb82 := zBK.out; have hnc82 := zBI.out; have hcz83_0 : w80.cell? ⟨vX, 0, none⟩ = some (.int .i64 a0_0) := (zC wG.out 0).trans rfl; have hcz83_1 : w80.cell? ⟨vX, 1, none⟩ = some (.slice A0_1 l0_1.length c0_1) := (zC wG.out 1).trans rfl; have hfz83_0 := zB wG.out 0; have hfz83_1 := zB wG.out 1) | ((with_reducible refine zQ (f := 41) rfl ?_); refine vB (some 11) rfl rfl Tryz.func41 (by kernel_rfl) rfl #[.agg #[.int .i64 a0_0, .slice A0_1 l0_1.length c0_1]] rfl (by (try simp only [List.map_toArray, List.map_cons, List.map_nil]); first | done | rfl | (simp only [List.length_drop, List.length_take]; rfl)) ?_; (with_reducible refine (vJ.calls k a0_0 _ _ l0_1 true _ ?side1 ?side2 A3.out).mono ?_); (case side1 => repeat (first | exact (Kd.qW HR0_1.out HB.out) | (with_reducible refine Kd.vZ ?_ _) | (with_reducible refine Kd.vY ?_ _) | (with_reducible refine Kd.qU ?_))); (case side2 => exact HC0_1.out); rintro e w84 ⟨rfl, hb⟩; refine ⟨_, rfl, ?_⟩; have n0_ := zA.mk (zG (bG wG.out) hb); have n1_ := zA.mk (zG (bG wL.out) hb); have n2_ := zA.mk (zG (bG vE.out) hb); have n3_ := zA.mk (zF (eG HB.out) hb); clear wG; clear wL; clear vE; clear HB; have wG := n0_; have wL := n1_; have vE := n2_; have HB := n3_; clear n0_ n1_ n2_ n3_; (try clear hb); (try clear hb2); (try clear hk); (try clear hi); have hnb85 := zBJ.out; have hnc85 := zBH.out; have hcz86_0 : w84.cell? ⟨vN, 0, none⟩ = some (.int .i64 a1_0) := (zC wL.out 0).trans rfl; have hcz86_1 : w84.cell? ⟨vN, 1, none⟩ = some (.int .i64 a1_1) := (zC wL.out 1).trans rfl; have hcz86_2 : w84.cell? ⟨vN, 2, none⟩ = some (.int .i64 a1_2) := (zC wL.out 2).trans rfl; have hfz86_0 := zB wL.out 0; have hfz86_1 := zB wL.out 1; have hfz86_2 := zB wL.out 2) | ((with_reducible refine zQ (f := 36) rfl ?_); refine vB (some 16) rfl rfl Tryz.func36 (by kernel_rfl) rfl #[.agg #[.int .i64 a1_0, .int .i64 a1_1, .int .i64 a1_2]] rfl (by (try simp only [List.map_toArray, List.map_cons, List.map_nil]); first | done | rfl | (simp only [List.length_drop, List.length_take]; rfl)) ?_; (with_reducible refine (qP.calls a1_0 a1_1 a1_2 true _ A5.out).mono ?_); rintro e w87 ⟨rfl, hb⟩; refine ⟨_, rfl, ?_⟩; have n0_ := zA.mk (zG (bG wG.out) hb); have n1_ := zA.mk (zG (bG wL.out) hb); have n2_ := zA.mk (zG (bG vE.out) hb); have n3_ := zA.mk (zF (eG HB.out) hb); clear wG; clear wL; clear vE; clear HB; have wG := n0_; have wL := n1_; have vE := n2_; have HB := n3_; clear n0_ n1_ n2_ n3_; (try clear hb); (try clear hb2); (try clear hk); (try clear hi)))
     have n0_ := zA.mk (yX wG.out); have n1_ := zA.mk (yX wL.out); have n2_ := zA.mk (yX vE.out); have n3_ := zA.mk (yB HB.out); clear wG; clear wL; clear vE; clear HB; have wG := n0_; have wL := n1_; have vE := n2_; have HB := n3_; clear n0_ n1_ n2_ n3_; refine zBS (n := 8) (S := fun w' => w'.cell? ⟨vX, 0, none⟩ = some (.int .i64 a0_0) ∧ w'.cell? ⟨vX, 1, none⟩ = some (.slice A0_1 l0_1.length c0_1)) (ds := []) #[false, false, false, false, false, false, false, false] (by kernel_rfl) rfl rfl ⟨(zC wG.out 0).trans rfl, (zC wG.out 1).trans rfl⟩ (fun hHeld => ?_); refine uF qR.tab5 qR.zXC (fun HT_ HW_ => ?_)
     generalize w87.drew = w88 at wG wL vE HB hHeld ⊢; refine vD (i := 0) (N := some 19) (v := ?_) (a' := ?_) #[true, false, false, false, false, false, false, false] rfl rfl (wM HT_.out (by kernel_rfl)) (fun _ _ _ h => h) (Or.inl ⟨by rfl, ?_⟩) ?_ ?_; rotate_left
     · intro w'; go_simp; with_reducible rfl
     rotate_left
     · simp only [Act.put, sIA, sC0, sCS, wJ, wK]; rfl
     refine vD (i := 2) (N := some 21) (v := ?_) (a' := ?_) #[true, false, true, false, false, false, false, false] rfl rfl (wM HT_.out (by kernel_rfl)) (fun _ _ _ h => h) (Or.inl ⟨by rfl, ?_⟩) ?_ ?_; rotate_left
     · intro w'; go_simp; with_reducible rfl
     rotate_left
     · simp only [Act.put, sIA, sC0, sCS, wJ, wK]; rfl
     refine kL (i := 1) (N := some 20) (v := ?_) (a' := ?_) #[true, true, true, false, false, false, false, false] rfl rfl (qY HT_.out HW_.out (by kernel_rfl)) (fun _ _ _ h => h) (Or.inl ⟨by rfl, ?_⟩) hHeld ?_ ?_; rotate_left
     · rintro w' ⟨s0, s1⟩; go_simp; with_reducible rfl
     rotate_left
     · simp only [Act.put, sIA, sC0, sCS, wJ, wK]; rfl
     refine kL (i := 3) (N := some 22) (v := ?_) (a' := ?_) #[true, true, true, true, false, false, false, false] rfl rfl (qY HT_.out HW_.out (by kernel_rfl)) (fun _ _ _ h => h) (Or.inl ⟨by rfl, ?_⟩) hHeld ?_ ?_; rotate_left
     · rintro w' ⟨s0, s1⟩; go_simp; with_reducible rfl
     rotate_left
     · simp only [Act.put, sIA, sC0, sCS, wJ, wK]; rfl
     refine join_ (σ := Value × Nat) 1 #[true, true, true, true, true, true, true, false] (fun s_ => [(23, s_.1), (6, .pointer (some ⟨s_.2, 0, none⟩)), (24, .agg #[.int .i64 a0_0, s_.1])]) (fun s_ w' => (w'.cell? ⟨vX, 0, none⟩ = some (.int .i64 a0_0) ∧ w'.cell? ⟨vX, 1, none⟩ = some (.slice A0_1 l0_1.length c0_1)) ∧ (Kd.R k26 26 w' w.heap.size (fun k_ => k_ ≠ vN) s_.1 t136) ∧ (w'.heap[vX]? = some (.cells #[.int .i64 a0_0, .slice A0_1 l0_1.length c0_1] 24 (0, 0))) ∧ (w'.heap[vN]? = some (.cells #[.int .i64 a1_0, .int .i64 a1_1, .int .i64 a1_2] 26 (0, 0))) ∧ (w'.heap[qX]? = some (.cells #[.int .i64 0, .slice none 0 0] 24 (0, 0))) ∧ (w'.heap[s_.2]? = some (.cells #[.int .i64 0, .slice none 0 0] 24 (0, 0))) ∧ (w.heap.size ≤ s_.2) ∧ (w.heap.size ≤ s_.2) ∧ (vX ≠ s_.2) ∧ (s_.2 ≠ vX) ∧ (vN ≠ s_.2) ∧ (s_.2 ≠ vN) ∧ (qX ≠ s_.2) ∧ (s_.2 ≠ qX) ∧ (Below w.heap.size w w')) ?_ ?_; rotate_left
     ·
      intro hCont; refine two_ (i := 4) (j := 6) (Ni := some 23) (Nj := some 6) #[true, true, true, true, true, false, false, false] #[true, true, true, true, false, false, true, false] rfl rfl rfl rfl (zQG HT_.out (by kernel_rfl)) (by decide) (by decide) (fun K hK => ?_) (fun K hK => ?_)
      ·
       skip
       refine zDC Tryz.func38 (by kernel_rfl) rfl #[.slice A0_1 l0_1.length c0_1] (by rfl) rfl rfl (by (try simp only [List.map_toArray, List.map_cons, List.map_nil]); first | done | rfl | (simp only [List.length_drop, List.length_take]; rfl)) ?_; with_reducible refine (qC.calls _ _ l0_1 t136 _ ?side1 ?side2 A7.out).mono ?_
       (case side1 => repeat (first | exact (Kd.qW HR0_1.out HB.out) | (with_reducible refine Kd.vZ ?_ _) | (with_reducible refine Kd.vY ?_ _) | (with_reducible refine Kd.qU ?_)))
       (case side2 => exact HC0_1.out)
       rintro e w89 ⟨v137, rfl, ho0, hb⟩; refine ⟨_, rfl, ?_⟩; have n0_ := zA.mk (Kd.yK (Kd.zBM ho0 (bG wL.out)) (zE (eG HB.out))); have n1_ := zA.mk (zG (bG wG.out) hb); have n2_ := zA.mk (zG (bG wL.out) hb); have n3_ := zA.mk (zG (bG vE.out) hb); have n4_ := zA.mk (zF (eG HB.out) hb); clear wG; clear wL; clear vE; clear HB; have yD := n0_; have wG := n1_; have wL := n2_; have vE := n3_; have HB := n4_; clear n0_ n1_ n2_ n3_ n4_; (try clear hb)
       (try clear hb2)
       (try clear hk)
       (try clear hi)
       (try clear ho0)
       obtain ⟨Ao90, co90, eo90⟩ := Kd.vG yD.out; (first | subst eo90 | (injection eo90 with f1_ f2_ f3_; have f4_ := f1_.symm; have f5_ := f3_.symm; clear f1_ f2_ f3_; subst f4_; subst f5_))
       refine hK.out _ _ ⟨(zC wG.out 0).trans rfl, (zC wG.out 1).trans rfl⟩ (fun hHeld => ?_); clear hK K; refine uB (a' := ?_) ?_ ?_; rotate_left
       ·
        show Act.put _ (some 23) _ = _
        simp only [Act.put, sIA, sC0, sCS, wJ, wK]; rfl
       refine vD (i := 5) (N := some 24) (v := ?_) (a' := ?_) #[true, true, true, true, true, true, false, false] rfl rfl (wM HT_.out (by kernel_rfl)) (fun _ _ _ h => h) (Or.inl ⟨by rfl, ?_⟩) ?_ ?_; rotate_left
       · intro w'; go_simp; with_reducible rfl
       rotate_left
       · simp only [Act.put, sIA, sC0, sCS, wJ, wK]; rfl
       refine one_ (i := 6) (N := some 6) #[true, true, true, true, true, true, true, false] rfl rfl (kH HT_.out (by kernel_rfl)) (by decide) (fun K hK => ?_); refine zGK ?hg (N := 6) ?hd (cs := #[.int .i64 0, .slice none 0 0]) (t := 24) ?hr ?_; (case hd => rfl); (case hg => rfl); (case hr => first | (go_simp; done) | (go_simp; rfl))
       intro wY hg w91 hbox hb; have n0_ := zA.mk (Kd.wB (rG yD.out) hb); have n1_ := zA.mk (zG (bG wG.out) hb); have n2_ := zA.mk (zG (bG wL.out) hb); have n3_ := zA.mk (zG (bG vE.out) hb); have n4_ := zA.mk (zF (eG HB.out) hb); have n5_ := zA.mk (hbox); have n6_ := zA.mk ((by rw [hg]; exact (zE (eG HB.out)) : w.heap.size ≤ wY)); have n7_ := zA.mk ((by rw [hg]; exact (zE (eG HB.out)) : w.heap.size ≤ wY)); have n8_ := zA.mk ((by rw [hg]; exact Nat.ne_of_lt (wC (bG wG.out)) : vX ≠ wY)); have n9_ := zA.mk ((by rw [hg]; exact Nat.ne_of_gt (wC (bG wG.out)) : wY ≠ vX)); have n10_ := zA.mk ((by rw [hg]; exact Nat.ne_of_lt (wC (bG wL.out)) : vN ≠ wY)); have n11_ := zA.mk ((by rw [hg]; exact Nat.ne_of_gt (wC (bG wL.out)) : wY ≠ vN)); have n12_ := zA.mk ((by rw [hg]; exact Nat.ne_of_lt (wC (bG vE.out)) : qX ≠ wY)); have n13_ := zA.mk ((by rw [hg]; exact Nat.ne_of_gt (wC (bG vE.out)) : wY ≠ qX)); clear yD; clear wG; clear wL; clear vE; clear HB; have yD := n0_; have wG := n1_; have wL := n2_; have vE := n3_; have HB := n4_; have vU := n5_; have zGF := n6_; have zBL := n7_; have zFF := geI zBL
       have vW := n8_; have yS := n9_; have qS := n10_; have yR := n11_; have qN := n12_; have yQ := n13_; clear n0_ n1_ n2_ n3_ n4_ n5_ n6_ n7_ n8_ n9_ n10_ n11_ n12_ n13_; clear hb hbox hg; refine hK.out _ _ ⟨(zC wG.out 0).trans rfl, (zC wG.out 1).trans rfl⟩ (fun hHeld => ?_); clear hK K; refine uB (a' := ?_) ?_ ?_; rotate_left
       ·
        show Act.put _ (some 6) _ = _
        simp only [Act.put, sIA, sC0, sCS, wJ, wK]; rfl
       exact uB (by simp only [zCG, Act.put, sIA, sC0, sCS]) (hCont (.slice Ao90 t136.length co90, wY) _ ⟨hHeld, (by (with_reducible repeat (first | apply Kd.zT | apply Kd.zS | apply Kd.wD)); exact Kd.wQ yD.out (fun _ hk => hk.2)), (bG wG.out), (bG wL.out), (bG vE.out), (bG vU.out), zGF.out, zBL.out, vW.out, yS.out, qS.out, yR.out, qN.out, yQ.out, (eG HB.out)⟩)
      ·
       skip
       refine zGK ?hg (N := 6) ?hd (cs := #[.int .i64 0, .slice none 0 0]) (t := 24) ?hr ?_; (case hd => rfl); (case hg => rfl); (case hr => first | (go_simp; done) | (go_simp; rfl))
       intro wY hg w89 hbox hb; have n0_ := zA.mk (zG (bG wG.out) hb); have n1_ := zA.mk (zG (bG wL.out) hb); have n2_ := zA.mk (zG (bG vE.out) hb); have n3_ := zA.mk (zF (eG HB.out) hb); have n4_ := zA.mk (hbox); have n5_ := zA.mk ((by rw [hg]; exact (zE (eG HB.out)) : w.heap.size ≤ wY)); have n6_ := zA.mk ((by rw [hg]; exact (zE (eG HB.out)) : w.heap.size ≤ wY)); have n7_ := zA.mk ((by rw [hg]; exact Nat.ne_of_lt (wC (bG wG.out)) : vX ≠ wY)); have n8_ := zA.mk ((by rw [hg]; exact Nat.ne_of_gt (wC (bG wG.out)) : wY ≠ vX)); have n9_ := zA.mk ((by rw [hg]; exact Nat.ne_of_lt (wC (bG wL.out)) : vN ≠ wY)); have n10_ := zA.mk ((by rw [hg]; exact Nat.ne_of_gt (wC (bG wL.out)) : wY ≠ vN)); have n11_ := zA.mk ((by rw [hg]; exact Nat.ne_of_lt (wC (bG vE.out)) : qX ≠ wY)); have n12_ := zA.mk ((by rw [hg]; exact Nat.ne_of_gt (wC (bG vE.out)) : wY ≠ qX)); clear wG; clear wL; clear vE; clear HB; have wG := n0_; have wL := n1_; have vE := n2_; have HB := n3_; have vU := n4_; have zGF := n5_; have zBL := n6_; have zFF := geI zBL
       have vW := n7_; have yS := n8_; have qS := n9_; have yR := n10_; have qN := n11_; have yQ := n12_; clear n0_ n1_ n2_ n3_ n4_ n5_ n6_ n7_ n8_ n9_ n10_ n11_ n12_; clear hb hbox hg; refine hK.out _ _ ⟨(zC wG.out 0).trans rfl, (zC wG.out 1).trans rfl⟩ (fun hHeld => ?_); clear hK K; refine uB (a' := ?_) ?_ ?_; rotate_left
       ·
        show Act.put _ (some 6) _ = _
        simp only [Act.put, sIA, sC0, sCS, wJ, wK]; rfl
       refine one_ (i := 4) (N := some 23) #[true, true, true, true, true, false, true, false] rfl rfl (kH HT_.out (by kernel_rfl)) (by decide) (fun K hK => ?_); refine zDC Tryz.func38 (by kernel_rfl) rfl #[.slice A0_1 l0_1.length c0_1] (by rfl) rfl rfl (by (try simp only [List.map_toArray, List.map_cons, List.map_nil]); first | done | rfl | (simp only [List.length_drop, List.length_take]; rfl)) ?_; with_reducible refine (qC.calls _ _ l0_1 t136 _ ?side1 ?side2 A7.out).mono ?_
       (case side1 => repeat (first | exact (Kd.qW HR0_1.out HB.out) | (with_reducible refine Kd.vZ ?_ _) | (with_reducible refine Kd.vY ?_ _) | (with_reducible refine Kd.qU ?_)))
       (case side2 => exact HC0_1.out)
       rintro e w90 ⟨v137, rfl, ho0, hb⟩; refine ⟨_, rfl, ?_⟩; have n0_ := zA.mk (Kd.yK (Kd.zBM ho0 (bG wL.out)) (zE (eG HB.out))); have n1_ := zA.mk (zG (bG wG.out) hb); have n2_ := zA.mk (zG (bG wL.out) hb); have n3_ := zA.mk (zG (bG vE.out) hb); have n4_ := zA.mk (zG (bG vU.out) hb); have n5_ := zA.mk (zF (eG HB.out) hb); clear wG; clear wL; clear vE; clear vU; clear HB; have yD := n0_; have wG := n1_; have wL := n2_; have vE := n3_; have vU := n4_; have HB := n5_; clear n0_ n1_ n2_ n3_ n4_ n5_; (try clear hb)
       (try clear hb2)
       (try clear hk)
       (try clear hi)
       (try clear ho0)
       obtain ⟨Ao91, co91, eo91⟩ := Kd.vG yD.out; (first | subst eo91 | (injection eo91 with f1_ f2_ f3_; have f4_ := f1_.symm; have f5_ := f3_.symm; clear f1_ f2_ f3_; subst f4_; subst f5_))
       refine hK.out _ _ ⟨(zC wG.out 0).trans rfl, (zC wG.out 1).trans rfl⟩ (fun hHeld => ?_); clear hK K; refine uB (a' := ?_) ?_ ?_; rotate_left
       ·
        show Act.put _ (some 23) _ = _
        simp only [Act.put, sIA, sC0, sCS, wJ, wK]; rfl
       refine vD (i := 5) (N := some 24) (v := ?_) (a' := ?_) #[true, true, true, true, true, true, true, false] rfl rfl (wM HT_.out (by kernel_rfl)) (fun _ _ _ h => h) (Or.inl ⟨by rfl, ?_⟩) ?_ ?_; rotate_left
       · intro w'; go_simp; with_reducible rfl
       rotate_left
       · simp only [Act.put, sIA, sC0, sCS, wJ, wK]; rfl
       exact uB (by simp only [zCG, Act.put, sIA, sC0, sCS]) (hCont (.slice Ao91 t136.length co91, wY) _ ⟨hHeld, (by (with_reducible repeat (first | apply Kd.zT | apply Kd.zS | apply Kd.wD)); exact Kd.wQ yD.out (fun _ hk => hk.2)), (bG wG.out), (bG wL.out), (bG vE.out), (bG vU.out), zGF.out, zBL.out, vW.out, yS.out, qS.out, yR.out, qN.out, yQ.out, (eG HB.out)⟩)
     rintro ⟨v137, wY⟩ w92 ⟨hS_, h0_, h1_, h2_, h3_, h4_, h5_, h6_, h7_, h8_, h9_, h10_, h11_, h12_, h13_⟩; have n0_ : zA (Kd.R k26 26 w92 w.heap.size (fun k_ => k_ ≠ vN) v137 t136) := ⟨h0_⟩; have n1_ : zA (w92.heap[vX]? = some (.cells #[.int .i64 a0_0, .slice A0_1 l0_1.length c0_1] 24 (0, 0))) := ⟨h1_⟩; have n2_ : zA (w92.heap[vN]? = some (.cells #[.int .i64 a1_0, .int .i64 a1_1, .int .i64 a1_2] 26 (0, 0))) := ⟨h2_⟩; have n3_ : zA (w92.heap[qX]? = some (.cells #[.int .i64 0, .slice none 0 0] 24 (0, 0))) := ⟨h3_⟩; have n4_ : zA (w92.heap[wY]? = some (.cells #[.int .i64 0, .slice none 0 0] 24 (0, 0))) := ⟨h4_⟩; have n5_ : zA (w.heap.size ≤ wY) := ⟨h5_⟩; have n6_ : zA (w.heap.size ≤ wY) := ⟨h6_⟩; have n7_ : zA (vX ≠ wY) := ⟨h7_⟩; have n8_ : zA (wY ≠ vX) := ⟨h8_⟩; have n9_ : zA (vN ≠ wY) := ⟨h9_⟩; have n10_ : zA (wY ≠ vN) := ⟨h10_⟩; have n11_ : zA (qX ≠ wY) := ⟨h11_⟩; have n12_ : zA (wY ≠ qX) := ⟨h12_⟩; have n13_ : zA (Below w.heap.size w w92) := ⟨h13_⟩; clear wG; clear wL; clear vE; clear HB; clear h0_ h1_ h2_ h3_ h4_ h5_ h6_ h7_ h8_ h9_ h10_ h11_ h12_ h13_; have yD := n0_; have wG := n1_; have wL := n2_; have vE := n3_; have vU := n4_; have zGF := n5_; have zBL := n6_; have zFF := geI zBL
     have vW := n7_; have yS := n8_; have qS := n9_; have yR := n10_; have qN := n11_; have yQ := n12_; have HB := n13_; clear n0_ n1_ n2_ n3_ n4_ n5_ n6_ n7_ n8_ n9_ n10_ n11_ n12_ n13_; have hHeld : w92.cell? ⟨vX, 0, none⟩ = some (.int .i64 a0_0) ∧ w92.cell? ⟨vX, 1, none⟩ = some (.slice A0_1 l0_1.length c0_1) := hS_; obtain ⟨Ao93, co93, eo93⟩ := Kd.vG yD.out; (first | subst eo93 | (injection eo93 with f1_ f2_ f3_; have f4_ := f1_.symm; have f5_ := f3_.symm; clear f1_ f2_ f3_; subst f4_; subst f5_))
     refine uB (a' := ?_) ?_ ?_; rotate_left
     · simp only [zCG, Act.put, sIA, sC0, sCS]; rfl
     refine one_ (i := 7) (N := none) #[true, true, true, true, true, true, true, true] rfl rfl (kH HT_.out (by kernel_rfl)) (by decide) (fun K hK => ?_); have hs94 : w92.cell? ⟨wY, 0, none⟩ = some (.int .i64 0) := (zC vU.out 0).trans rfl; have hfs94 := zB vU.out 0; have hns94_0 := vW.out; have hns94_1 := qS.out; have hns94_2 := qN.out; have hms94_0 := yS.out; have hms94_1 := yR.out; have hms94_2 := yQ.out; have hs95 : w92.cell? ⟨wY, 1, none⟩ = some (.slice none 0 0) := (zC vU.out 1).trans rfl; have hfs95 := zB vU.out 1; have hns95_0 := vW.out; have hns95_1 := qS.out; have hns95_2 := qN.out; have hms95_0 := yS.out; have hms95_1 := yR.out; have hms95_2 := yQ.out; refine skip_ (w1 := ?_) (by rfl) rfl ?_ ?_; rotate_left
     · go_simp; rfl
     refine hK.out _ _ ⟨((cell_far (p := ⟨wY, _, none⟩) vW.out _).trans (((cell_far (p := ⟨wY, _, none⟩) vW.out _).trans (hHeld.1)))), ((cell_far (p := ⟨wY, _, none⟩) vW.out _).trans (((cell_far (p := ⟨wY, _, none⟩) vW.out _).trans (hHeld.2))))⟩ (fun hHeld => ?_); clear hK K; refine zFQ (zAL HT_.out (by kernel_rfl)) ?_; have hnb96 := yS.out; have hnc96 := vW.out; have hnb97 := yR.out; have hnc97 := qS.out; have hnb98 := yQ.out; have hnc98 := qN.out; have hcz99_0 : w92.cell? ⟨wY, 0, none⟩ = some (.int .i64 0) := (zC vU.out 0).trans rfl; have hcz99_1 : w92.cell? ⟨wY, 1, none⟩ = some (.slice none 0 0) := (zC vU.out 1).trans rfl; have hfz99_0 := zB vU.out 0; have hfz99_1 := zB vU.out 1; have hcz100_0 : w92.cell? ⟨vN, 0, none⟩ = some (.int .i64 a1_0) := (zC wL.out 0).trans rfl; have hcz100_1 : w92.cell? ⟨vN, 1, none⟩ = some (.int .i64 a1_1) := (zC wL.out 1).trans rfl; have hcz100_2 : w92.cell? ⟨vN, 2, none⟩ = some (.int .i64 a1_2) := (zC wL.out 2).trans rfl; have hfz100_0 := zB wL.out 0; have hfz100_1 := zB wL.out 1; have hfz100_2 := zB wL.out 2; try go_wp2_with (first | ((with_reducible refine zQ (f := 42) rfl ?_); refine vB (some 29) rfl rfl Tryz.func42 (by kernel_rfl) rfl #[.slice Ao93 t136.length co93, .agg #[.int .i64 a1_0, .int .i64 a1_1, .int .i64 a1_2], .func (.func 37) #[] #[]] rfl (by (try simp only [List.map_toArray, List.map_cons, List.map_nil]); first | done | rfl | (simp only [List.length_drop, List.length_take]; rfl)) ?_; (with_reducible refine (zZ.calls k _ _ t136 a1_0 a1_1 a1_2 t140 false _ ?side1 ?side2 A8.out).mono ?_); (case side1 => refine (Kd.zU (e := 26) (base := w.heap.size) (ok := fun k_ => k_ ≠ vN) (n := t136.length) (c := co93) ?_).2.2; exact (by (with_reducible repeat (first | apply Kd.zT | apply Kd.zS | apply Kd.wD)); exact (Kd.wQ (Kd.wO (p := ⟨wY, 1, none⟩) (Kd.wO (p := ⟨wY, 0, none⟩) (Kd.vL yD.out vU.out (by decide)) (fun _ hk => hk.2) (.int .i64 a0_0)) (fun _ hk => hk.2) (.slice Ao93 t136.length co93)) (fun _ h_ => h_.1)))); (case side2 => exact (Kd.zU yD.out).2.1); rintro e w101 ⟨rfl, hb⟩; refine ⟨_, rfl, ?_⟩; have n0_ := zA.mk (Kd.wB (by (with_reducible repeat (first | apply Kd.zT | apply Kd.zS | apply Kd.wD)); exact (Kd.wQ (Kd.wO (p := ⟨wY, 1, none⟩) (Kd.wO (p := ⟨wY, 0, none⟩) (Kd.vL yD.out vU.out (by decide)) (fun _ hk => hk.2) (.int .i64 a0_0)) (fun _ hk => hk.2) (.slice Ao93 t136.length co93)) (fun _ h_ => h_.1))) hb); have n1_ := zA.mk (zG (g := vX) (o := .cells #[.int .i64 a0_0, .slice A0_1 l0_1.length c0_1] 24 (0, 0)) (by (with_reducible repeat first | apply bN | apply bD | apply bA); refine zV ?_ vW.out _; (with_reducible repeat first | apply bN | apply bD | apply bA); refine zV ?_ vW.out _; (with_reducible repeat first | apply bN | apply bD | apply bA); exact wG.out) hb); have n2_ := zA.mk (zG (g := vN) (o := .cells #[.int .i64 a1_0, .int .i64 a1_1, .int .i64 a1_2] 26 (0, 0)) (by (with_reducible repeat first | apply bN | apply bD | apply bA); refine zV ?_ qS.out _; (with_reducible repeat first | apply bN | apply bD | apply bA); refine zV ?_ qS.out _; (with_reducible repeat first | apply bN | apply bD | apply bA); exact wL.out) hb); have n3_ := zA.mk (zG (g := qX) (o := .cells #[.int .i64 0, .slice none 0 0] 24 (0, 0)) (by (with_reducible repeat first | apply bN | apply bD | apply bA); refine zV ?_ qN.out _; (with_reducible repeat first | apply bN | apply bD | apply bA); refine zV ?_ qN.out _; (with_reducible repeat first | apply bN | apply bD | apply bA); exact vE.out) hb); have n4_ := zA.mk (zG (g := wY) (o := .cells #[.int .i64 a0_0, .slice Ao93 t136.length co93] 24 (0, 0)) (by (with_reducible repeat first | apply bN | apply bD | apply bA); refine wE (cs := #[.int .i64 a0_0, .slice none 0 0]) ?_ 1 _ rfl; (with_reducible repeat first | apply bN | apply bD | apply bA); refine wE (cs := #[.int .i64 0, .slice none 0 0]) ?_ 0 _ rfl; (with_reducible repeat first | apply bN | apply bD | apply bA); exact vU.out) hb); have n5_ := zA.mk (zF (eG HB.out) hb); clear yD; clear wG; clear wL; clear vE; clear vU; clear HB; have yD := n0_; have wG := n1_; have wL := n2_; have vE := n3_; have vU := n4_; have HB := n5_; clear n0_ n1_ n2_ n3_ n4_ n5_; (try clear hb); (try clear hb2); (try clear hk); (try clear hi); have hcz102_0 : w101.cell? ⟨wY, 0, none⟩ = some (.int .i64 a0_0) := (zC vU.out 0).trans rfl; have hcz102_1 : w101.cell? ⟨wY, 1, none⟩ = some (.slice Ao93 t136.length co93) := (zC vU.out 1).trans rfl; have hfz102_0 := zB vU.out 0; have hfz102_1 := zB vU.out 1; have hcz103_0 : w101.cell? ⟨vN, 0, none⟩ = some (.int .i64 a1_0) := (zC wL.out 0).trans rfl; have hcz103_1 : w101.cell? ⟨vN, 1, none⟩ = some (.int .i64 a1_1) := (zC wL.out 1).trans rfl; have hcz103_2 : w101.cell? ⟨vN, 2, none⟩ = some (.int .i64 a1_2) := (zC wL.out 2).trans rfl; have hfz103_0 := zB wL.out 0; have hfz103_1 := zB wL.out 1; have hfz103_2 := zB wL.out 2) | ((with_reducible refine wF (N := 43) rfl ?_); refine Kd.zVD k26 _ 26 ?hg (N := 43) ?hd (xs := ([(⟨a1_0, a1_1, a1_2⟩ : S26)] : List (S26))) (inner := [.int .i64 a1_0, .int .i64 a1_1, .int .i64 a1_2]) (ok := fun _ => True) (okp := fun _ => True) ?hr ?hp (fun _ hk => hk) trivial (Below.refl _ _) (Nat.le_refl _) (by simp) ?_; (case hd => rfl); (case hg => rfl); (case hr => first | (go_simp; done) | (go_simp; rfl)); (case hp => exact (Reps.c3 (show Kd.M k26 _ _ _ (⟨a1_0, a1_1, a1_2⟩ : S26) [.int .i64 a1_0, .int .i64 a1_1, .int .i64 a1_2] from (jL _ _ _ (⟨a1_0, a1_1, a1_2⟩ : S26) )) (Reps.none _ _))); intro v144 w104 ho105 hb hg_ hnew_; clear hg_ hnew_; (first | rw [← Ny143.out] at ho105 | (simp only [Int.reduceToNat] at ho105; rw [← Ny143.out] at ho105)); have n0_ := zA.mk (Kd.wX (rG yD.out) (Kd.qI ho105) hb); have n1_ := zA.mk (Kd.yK (Kd.zBM (Kd.qH ho105 (Kd.R_lt (rG yD.out))) (bG wL.out)) (zE (eG HB.out))); have n2_ := zA.mk (zG (bG wG.out) hb); have n3_ := zA.mk (zG (bG wL.out) hb); have n4_ := zA.mk (zG (bG vE.out) hb); have n5_ := zA.mk (zG (bG vU.out) hb); have n6_ := zA.mk (zF (eG HB.out) hb); clear yD; clear wG; clear wL; clear vE; clear vU; clear HB; have yD := n0_; have zVF := n1_; have wG := n2_; have wL := n3_; have vE := n4_; have vU := n5_; have HB := n6_; clear n0_ n1_ n2_ n3_ n4_ n5_ n6_; clear hb ho105; obtain ⟨Ao106, co106, eo106⟩ := Kd.vG zVF.out; subst eo106) | ((with_reducible refine zQ (f := 43) rfl ?_); refine vB (some 44) rfl rfl Tryz.func43 (by kernel_rfl) rfl #[.slice Ao93 t136.length co93, .int .i64 t140, .slice Ao106 y143.length co106] rfl (by (try simp only [List.map_toArray, List.map_cons, List.map_nil]); first | done | rfl | (simp only [List.length_drop, List.length_take]; rfl)) ?_; (refine (qM.own yD.out zVF.out (fun k hk => by first | exact hk.1.2 | exact hk.2 | exact hk.1.1.2) (zE HB.out) A43.out).mono ?_); rintro e w107 ⟨v147, rfl, ho0, hgr⟩; refine ⟨_, rfl, ?_⟩; have n0_ := zA.mk ho0; have m0_ := zA.mk (wZ wG.out hgr (Kd.R_ne yD.out wG.out (by decide))); have m1_ := zA.mk (wZ wL.out hgr (fun e => by have h_ := yD.out.1 _ e.symm; first | exact h_ rfl | exact h_.1 rfl | exact h_.1.1 rfl)); have m2_ := zA.mk (wZ vE.out hgr (Kd.R_ne yD.out vE.out (by decide))); have m3_ := zA.mk (wZ vU.out hgr (Kd.R_ne yD.out vU.out (by decide))); have n1_ := zA.mk (HB.out.grown hgr (zE HB.out) (fun k e => zAS (zPY yD.out) k e)); clear yD; clear zVF; clear wG; clear wL; clear vE; clear vU; clear HB; have HO148 := n0_; have wG := m0_; have wL := m1_; have vE := m2_; have vU := m3_; have HB := n1_; clear n0_ n1_; (try clear ho0); clear hgr; obtain ⟨Ao108, co108, eo108⟩ := Kd.vG HO148.out; subst eo108; have zPN : w107.cell? ⟨wY, 0, none⟩ = some (.int .i64 a0_0) := (zC vU.out 0).trans rfl; have zPM : w107.cell? ⟨wY, 1, none⟩ = some (.slice Ao93 t136.length co93) := (zC vU.out 1).trans rfl; have zOW := zB vU.out 0; have zOV := zB vU.out 1; have zPL : w107.cell? ⟨qX, 0, none⟩ = some (.int .i64 0) := (zC vE.out 0).trans rfl; have zPK : w107.cell? ⟨qX, 1, none⟩ = some (.slice none 0 0) := (zC vE.out 1).trans rfl; have zOU := zB vE.out 0; have zOT := zB vE.out 1))
     refine bodyPost_ret (jE rfl _ _ qX 24 #[.int .i64 a0_0, .slice Ao108 t146.length co108] (0, 0) _ rfl (by (with_reducible repeat first | apply bN | apply bD | apply bA); refine wE (cs := #[.int .i64 a0_0, .slice none 0 0]) ?_ 1 _ rfl; (with_reducible repeat first | apply bN | apply bD | apply bA); refine wE (cs := #[.int .i64 0, .slice none 0 0]) ?_ 0 _ rfl; (with_reducible repeat first | apply bN | apply bD | apply bA); refine zV ?_ qN.out _; (with_reducible repeat first | apply bN | apply bD | apply bA); exact vE.out) Tryz.underlying24 rfl (by kernel_rfl)) rfl ?_; exact ⟨_, by first | rfl | (simp [zN, zM] <;> rfl) | (simp [*, zN, zM] <;> rfl), by (with_reducible repeat (first | apply Kd.zT | apply Kd.zS | apply Kd.wD)); exact Kd.wQ (Kd.wO (p := ⟨qX, 1, none⟩) (Kd.wO (p := ⟨qX, 0, none⟩) (Kd.wO (p := ⟨wY, 1, none⟩) (Kd.vL (Kd.vL HO148.out vU.out (by decide)) vE.out (by decide)) (fun _ hk => hk.1.2) (.slice Ao108 t146.length co108)) (fun _ hk => hk.2) (.int .i64 a0_0)) (fun _ hk => hk.2) (.slice Ao108 t146.length co108)) (fun _ hk => trivial), eG HB.out⟩
  ·
   replace c6 := Bool.eq_false_iff.mpr c6; subst c6; replace H : (some (0, ([] : List (S26)), 2)) = some (r1, r2, r3) := by rw [if_neg (show ¬ (false = true) by decide)] at H; exact H
   simp only [Option.some.injEq, Prod.mk.injEq] at H; obtain ⟨rfl, rfl, rfl⟩ := H; go_enter Tryz.func16, Tryz.ntmps16
   go_wp2_with (first | ((with_reducible refine wF (N := 2) rfl ?_); refine wA ?hg (N := 2) ?hd (cs := #[.int .i64 a0_0, .slice A0_1 l0_1.length c0_1]) (t := 24) ?hr ?_; (case hd => rfl); (case hg => rfl); (case hr => first | (go_simp; done) | (go_simp; rfl)); intro vX hg w111 hbox hb; have n0_ := zA.mk (zF (eG HB.out) hb); have n1_ := zA.mk (hbox); have n2_ := zA.mk ((by rw [hg]; exact (zE (eG HB.out)) : w.heap.size ≤ vX)); have n3_ := zA.mk ((by rw [hg]; exact (zE (eG HB.out)) : w.heap.size ≤ vX)); clear HB; have HB := n0_; have wG := n1_; have zVH := n2_; have zHU := n3_; have zKU := geI zHU; clear n0_ n1_ n2_ n3_; clear hb hbox hg) | ((with_reducible refine wF (N := 3) rfl ?_); refine wA ?hg (N := 3) ?hd (cs := #[.int .i64 a1_0, .int .i64 a1_1, .int .i64 a1_2]) (t := 26) ?hr ?_; (case hd => rfl); (case hg => rfl); (case hr => first | (go_simp; done) | (go_simp; rfl)); intro vN hg w112 hbox hb; have n0_ := zA.mk (zG (bG wG.out) hb); have n1_ := zA.mk (zF (eG HB.out) hb); have n2_ := zA.mk (hbox); have n3_ := zA.mk ((by rw [hg]; exact (zE (eG HB.out)) : w.heap.size ≤ vN)); have n4_ := zA.mk ((by rw [hg]; exact (zE (eG HB.out)) : w.heap.size ≤ vN)); have n5_ := zA.mk ((by rw [hg]; exact Nat.ne_of_lt (wC (bG wG.out)) : vX ≠ vN)); have n6_ := zA.mk ((by rw [hg]; exact Nat.ne_of_gt (wC (bG wG.out)) : vN ≠ vX)); clear wG; clear HB; have wG := n0_; have HB := n1_; have wL := n2_; have zVG := n3_; have zHT := n4_; have zKT := geI zHT; have jW := n5_; have jV := n6_; clear n0_ n1_ n2_ n3_ n4_ n5_ n6_; clear hb hbox hg) | ((with_reducible refine wF (N := 4) rfl ?_); refine wA ?hg (N := 4) ?hd (cs := #[.int .i64 0, .slice none 0 0]) (t := 24) ?hr ?_; (case hd => rfl); (case hg => rfl); (case hr => first | (go_simp; done) | (go_simp; rfl)); intro qX hg w113 hbox hb; have n0_ := zA.mk (zG (bG wG.out) hb); have n1_ := zA.mk (zG (bG wL.out) hb); have n2_ := zA.mk (zF (eG HB.out) hb); have n3_ := zA.mk (hbox); have n4_ := zA.mk ((by rw [hg]; exact (zE (eG HB.out)) : w.heap.size ≤ qX)); have n5_ := zA.mk ((by rw [hg]; exact (zE (eG HB.out)) : w.heap.size ≤ qX)); have n6_ := zA.mk ((by rw [hg]; exact Nat.ne_of_lt (wC (bG wG.out)) : vX ≠ qX)); have n7_ := zA.mk ((by rw [hg]; exact Nat.ne_of_gt (wC (bG wG.out)) : qX ≠ vX)); have n8_ := zA.mk ((by rw [hg]; exact Nat.ne_of_lt (wC (bG wL.out)) : vN ≠ qX)); have n9_ := zA.mk ((by rw [hg]; exact Nat.ne_of_gt (wC (bG wL.out)) : qX ≠ vN)); clear wG; clear wL; clear HB; have wG := n0_; have wL := n1_; have HB := n2_; have vE := n3_; have GW133 := n4_; have zQB := n5_; have zVU := geI zQB; have zBK := n6_; have zBI := n7_; have zBJ := n8_; have zBH := n9_; clear n0_ n1_ n2_ n3_ n4_ n5_ n6_ n7_ n8_ n9_; clear hb hbox hg; have hnb114 := jW.out; have hnc114 := jV.out; have hnb115 := zBK.out; have hnc115 := zBI.out; have hcz116_0 : w113.cell? ⟨vX, 0, none⟩ = some (.int .i64 a0_0) := (zC wG.out 0).trans rfl; have hcz116_1 : w113.cell? ⟨vX, 1, none⟩ = some (.slice A0_1 l0_1.length c0_1) := (zC wG.out 1).trans rfl; have hfz116_0 := zB wG.out 0; have hfz116_1 := zB wG.out 1) | ((with_reducible refine zQ (f := 41) rfl ?_); refine vB (some 11) rfl rfl Tryz.func41 (by kernel_rfl) rfl #[.agg #[.int .i64 a0_0, .slice A0_1 l0_1.length c0_1]] rfl (by (try simp only [List.map_toArray, List.map_cons, List.map_nil]); first | done | rfl | (simp only [List.length_drop, List.length_take]; rfl)) ?_; (with_reducible refine (vJ.calls k a0_0 _ _ l0_1 true _ ?side1 ?side2 A3.out).mono ?_); (case side1 => repeat (first | exact (Kd.qW HR0_1.out HB.out) | (with_reducible refine Kd.vZ ?_ _) | (with_reducible refine Kd.vY ?_ _) | (with_reducible refine Kd.qU ?_))); (case side2 => exact HC0_1.out); rintro e w117 ⟨rfl, hb⟩; refine ⟨_, rfl, ?_⟩; have n0_ := zA.mk (zG (bG wG.out) hb); have n1_ := zA.mk (zG (bG wL.out) hb); have n2_ := zA.mk (zG (bG vE.out) hb); have n3_ := zA.mk (zF (eG HB.out) hb); clear wG; clear wL; clear vE; clear HB; have wG := n0_; have wL := n1_; have vE := n2_; have HB := n3_; clear n0_ n1_ n2_ n3_; (try clear hb); (try clear hb2); (try clear hk); (try clear hi); have hnb118 := zBJ.out; have hnc118 := zBH.out; have hcz119_0 : w117.cell? ⟨vN, 0, none⟩ = some (.int .i64 a1_0) := (zC wL.out 0).trans rfl; have hcz119_1 : w117.cell? ⟨vN, 1, none⟩ = some (.int .i64 a1_1) := (zC wL.out 1).trans rfl; have hcz119_2 : w117.cell? ⟨vN, 2, none⟩ = some (.int .i64 a1_2) := (zC wL.out 2).trans rfl; have hfz119_0 := zB wL.out 0; have hfz119_1 := zB wL.out 1; have hfz119_2 := zB wL.out 2) | ((with_reducible refine zQ (f := 36) rfl ?_); refine vB (some 16) rfl rfl Tryz.func36 (by kernel_rfl) rfl #[.agg #[.int .i64 a1_0, .int .i64 a1_1, .int .i64 a1_2]] rfl (by (try simp only [List.map_toArray, List.map_cons, List.map_nil]); first | done | rfl | (simp only [List.length_drop, List.length_take]; rfl)) ?_; (with_reducible refine (qP.calls a1_0 a1_1 a1_2 false _ A5.out).mono ?_); rintro e w120 ⟨rfl, hb⟩; refine ⟨_, rfl, ?_⟩; have n0_ := zA.mk (zG (bG wG.out) hb); have n1_ := zA.mk (zG (bG wL.out) hb); have n2_ := zA.mk (zG (bG vE.out) hb); have n3_ := zA.mk (zF (eG HB.out) hb); clear wG; clear wL; clear vE; clear HB; have wG := n0_; have wL := n1_; have vE := n2_; have HB := n3_; clear n0_ n1_ n2_ n3_; (try clear hb); (try clear hb2); (try clear hk); (try clear hi); have hcz121_0 : w120.cell? ⟨qX, 0, none⟩ = some (.int .i64 0) := (zC vE.out 0).trans rfl; have hcz121_1 : w120.cell? ⟨qX, 1, none⟩ = some (.slice none 0 0) := (zC vE.out 1).trans rfl; have hfz121_0 := zB vE.out 0; have hfz121_1 := zB vE.out 1))
   refine bodyPost_ret (jE rfl _ _ qX 24 #[.int .i64 0, .slice none 0 0] (0, 0) _ rfl (by (with_reducible repeat first | apply bN | apply bD | apply bA); refine wE (cs := #[.int .i64 0, .slice none 0 0]) ?_ 1 _ rfl; (with_reducible repeat first | apply bN | apply bD | apply bA); refine wE (cs := #[.int .i64 0, .slice none 0 0]) ?_ 0 _ rfl; (with_reducible repeat first | apply bN | apply bD | apply bA); exact vE.out) Tryz.underlying24 rfl (by kernel_rfl)) rfl ?_; exact ⟨_, by first | rfl | (simp [zN, zM] <;> rfl) | (simp [*, zN, zM] <;> rfl), by first | exact Kd.zHS _ _ _ _ _ | exact Kd.zMP _ _ _ _ _ | exact Kd.zML _ _ _ _ _ | exact Kd.zMO _ _ _ _ _ | exact Kd.zMN _ _ _ _ _, eG HB.out⟩
 ·
  replace c4 := Bool.eq_false_iff.mpr c4; subst c4; replace H : (some (0, ([] : List (S26)), 1)) = some (r1, r2, r3) := by rw [if_neg (show ¬ (false = true) by decide)] at H; exact H
  simp only [Option.some.injEq, Prod.mk.injEq] at H; obtain ⟨rfl, rfl, rfl⟩ := H; go_enter Tryz.func16, Tryz.ntmps16
  go_wp2_with (first | ((with_reducible refine wF (N := 2) rfl ?_); refine wA ?hg (N := 2) ?hd (cs := #[.int .i64 a0_0, .slice A0_1 l0_1.length c0_1]) (t := 24) ?hr ?_; (case hd => rfl); (case hg => rfl); (case hr => first | (go_simp; done) | (go_simp; rfl)); intro vX hg w122 hbox hb; have n0_ := zA.mk (zF (eG HB.out) hb); have n1_ := zA.mk (hbox); have n2_ := zA.mk ((by rw [hg]; exact (zE (eG HB.out)) : w.heap.size ≤ vX)); have n3_ := zA.mk ((by rw [hg]; exact (zE (eG HB.out)) : w.heap.size ≤ vX)); clear HB; have HB := n0_; have wG := n1_; have zVH := n2_; have zHU := n3_; have zKU := geI zHU; clear n0_ n1_ n2_ n3_; clear hb hbox hg) | ((with_reducible refine wF (N := 3) rfl ?_); refine wA ?hg (N := 3) ?hd (cs := #[.int .i64 a1_0, .int .i64 a1_1, .int .i64 a1_2]) (t := 26) ?hr ?_; (case hd => rfl); (case hg => rfl); (case hr => first | (go_simp; done) | (go_simp; rfl)); intro vN hg w123 hbox hb; have n0_ := zA.mk (zG (bG wG.out) hb); have n1_ := zA.mk (zF (eG HB.out) hb); have n2_ := zA.mk (hbox); have n3_ := zA.mk ((by rw [hg]; exact (zE (eG HB.out)) : w.heap.size ≤ vN)); have n4_ := zA.mk ((by rw [hg]; exact (zE (eG HB.out)) : w.heap.size ≤ vN)); have n5_ := zA.mk ((by rw [hg]; exact Nat.ne_of_lt (wC (bG wG.out)) : vX ≠ vN)); have n6_ := zA.mk ((by rw [hg]; exact Nat.ne_of_gt (wC (bG wG.out)) : vN ≠ vX)); clear wG; clear HB; have wG := n0_; have HB := n1_; have wL := n2_; have zVG := n3_; have zHT := n4_; have zKT := geI zHT; have jW := n5_; have jV := n6_; clear n0_ n1_ n2_ n3_ n4_ n5_ n6_; clear hb hbox hg) | ((with_reducible refine wF (N := 4) rfl ?_); refine wA ?hg (N := 4) ?hd (cs := #[.int .i64 0, .slice none 0 0]) (t := 24) ?hr ?_; (case hd => rfl); (case hg => rfl); (case hr => first | (go_simp; done) | (go_simp; rfl)); intro qX hg w124 hbox hb; have n0_ := zA.mk (zG (bG wG.out) hb); have n1_ := zA.mk (zG (bG wL.out) hb); have n2_ := zA.mk (zF (eG HB.out) hb); have n3_ := zA.mk (hbox); have n4_ := zA.mk ((by rw [hg]; exact (zE (eG HB.out)) : w.heap.size ≤ qX)); have n5_ := zA.mk ((by rw [hg]; exact (zE (eG HB.out)) : w.heap.size ≤ qX)); have n6_ := zA.mk ((by rw [hg]; exact Nat.ne_of_lt (wC (bG wG.out)) : vX ≠ qX)); have n7_ := zA.mk ((by rw [hg]; exact Nat.ne_of_gt (wC (bG wG.out)) : qX ≠ vX)); have n8_ := zA.mk ((by rw [hg]; exact Nat.ne_of_lt (wC (bG wL.out)) : vN ≠ qX)); have n9_ := zA.mk ((by rw [hg]; exact Nat.ne_of_gt (wC (bG wL.out)) : qX ≠ vN)); clear wG; clear wL; clear HB; have wG := n0_; have wL := n1_; have HB := n2_; have vE := n3_; have GW133 := n4_; have zQB := n5_; have zVU := geI zQB; have zBK := n6_; have zBI := n7_; have zBJ := n8_; have zBH := n9_; clear n0_ n1_ n2_ n3_ n4_ n5_ n6_ n7_ n8_ n9_; clear hb hbox hg; have hnb125 := jW.out; have hnc125 := jV.out; have hnb126 := zBK.out; have hnc126 := zBI.out; have hcz127_0 : w124.cell? ⟨vX, 0, none⟩ = some (.int .i64 a0_0) := (zC wG.out 0).trans rfl; have hcz127_1 : w124.cell? ⟨vX, 1, none⟩ = some (.slice A0_1 l0_1.length c0_1) := (zC wG.out 1).trans rfl; have hfz127_0 := zB wG.out 0; have hfz127_1 := zB wG.out 1) | ((with_reducible refine zQ (f := 41) rfl ?_); refine vB (some 11) rfl rfl Tryz.func41 (by kernel_rfl) rfl #[.agg #[.int .i64 a0_0, .slice A0_1 l0_1.length c0_1]] rfl (by (try simp only [List.map_toArray, List.map_cons, List.map_nil]); first | done | rfl | (simp only [List.length_drop, List.length_take]; rfl)) ?_; (with_reducible refine (vJ.calls k a0_0 _ _ l0_1 false _ ?side1 ?side2 A3.out).mono ?_); (case side1 => repeat (first | exact (Kd.qW HR0_1.out HB.out) | (with_reducible refine Kd.vZ ?_ _) | (with_reducible refine Kd.vY ?_ _) | (with_reducible refine Kd.qU ?_))); (case side2 => exact HC0_1.out); rintro e w128 ⟨rfl, hb⟩; refine ⟨_, rfl, ?_⟩; have n0_ := zA.mk (zG (bG wG.out) hb); have n1_ := zA.mk (zG (bG wL.out) hb); have n2_ := zA.mk (zG (bG vE.out) hb); have n3_ := zA.mk (zF (eG HB.out) hb); clear wG; clear wL; clear vE; clear HB; have wG := n0_; have wL := n1_; have vE := n2_; have HB := n3_; clear n0_ n1_ n2_ n3_; (try clear hb); (try clear hb2); (try clear hk); (try clear hi); have hnb129 := zBH.out; have hnc129 := zBJ.out; have hcz130_0 : w128.cell? ⟨qX, 0, none⟩ = some (.int .i64 0) := (zC vE.out 0).trans rfl; have hcz130_1 : w128.cell? ⟨qX, 1, none⟩ = some (.slice none 0 0) := (zC vE.out 1).trans rfl; have hfz130_0 := zB vE.out 0; have hfz130_1 := zB vE.out 1))
  refine bodyPost_ret (jE rfl _ _ qX 24 #[.int .i64 0, .slice none 0 0] (0, 0) _ rfl (by (with_reducible repeat first | apply bN | apply bD | apply bA); refine wE (cs := #[.int .i64 0, .slice none 0 0]) ?_ 1 _ rfl; (with_reducible repeat first | apply bN | apply bD | apply bA); refine wE (cs := #[.int .i64 0, .slice none 0 0]) ?_ 0 _ rfl; (with_reducible repeat first | apply bN | apply bD | apply bA); exact vE.out) Tryz.underlying24 rfl (by kernel_rfl)) rfl ?_; exact ⟨_, by first | rfl | (simp [zN, zM] <;> rfl) | (simp [*, zN, zM] <;> rfl), by first | exact Kd.zHS _ _ _ _ _ | exact Kd.zMP _ _ _ _ _ | exact Kd.zML _ _ _ _ _ | exact Kd.zMO _ _ _ _ _ | exact Kd.zMN _ _ _ _ _, eG HB.out⟩
end Go.Proofs.YtholbmidciapdaaGreatDoor.Pr
