/-
The law TariffChecks returns true for every input that can be read as data, and leaves its arguments as they were: the row, and the card that ties the listed variables to the program's text.
No condition of its own beyond those that the given row prints.
-/
import Derived.Shelf.Spec.BitsCarry
import Derived.HandedShaped
import Derived.Handed
import Derived.Test.YtholbmidciapdaaGreatDoorCards
import Derived.Test.YtholbmidciapdaaGreatDoorTie
import Derived.ProofKit
import Derived.OpenShut
import Derived.ShutString
import Derived.ChangeOld
import Derived.SizedLaws
import Derived.LaidMore
import Derived.Lay
import Derived.MakeChecks
import Derived.SevenTiedAt
import Derived.LaidSub
import Derived.LaidOnce
import Derived.Stop.Joined
import Derived.Stop.LaidErr
import Derived.Test.YtholbmidciapdaaGreatDoorTariffChecksF
set_option linter.unusedVariables false
set_option linter.unusedSimpArgs false
namespace Go.Proofs.YtholbmidciapdaaGreatDoor.Pr
open Go.RowKit Go.Proofs.YtholbmidciapdaaGreatDoorW.PrintWords Go.Proofs.YtholbmidciapdaaGreatDoorW.PrintLast Go.Proofs.YtholbmidciapdaaGreatDoorW.PrintMore Go.Proofs.YtholbmidciapdaaGreatDoor.X
attribute [local go_sem] max2_int min2_int max_two min_two max_three min_three max_four min_four   -- for this text's walks alone
set_option linter.unusedVariables false
set_option linter.unusedSimpArgs false
def spilelaw46_TariffChecks.j0 : Nat → Bool → Int → List (S26) → Int → Int → Int → Option (Bool)
 | 0, _, _, _, _, _, _ => none
 | k + 1, x19, x305000, x305001, x306000, x306001, x306002 => if x19 = true then ((spilelaw46_awake.f).bind fun t308 => (some t308)) else ((spilelaw46_cp.f x305000 x305001).bind fun bt309 => ((tariff_Check.f k bt309.1 bt309.2).bind fun bt313 => ((spileref46_Check.f k x305000 x305001).bind fun bt315 => ((spilelaw46_cp.f x305000 x305001).bind fun bt317 => ((tariff_Insert.f k bt317.1 bt317.2 x306000 x306001 x306002).bind fun bt321 => ((spileref46_Insert.f k x305000 x305001 x306000 x306001 x306002).bind fun bt327 => (if bt313.1 = bt315.1 then (if bt313.2 = bt315.2 then ((spileref46_Same.f k bt321.1 bt321.2.1 bt327.1 bt327.2.1).bind fun t333 => (if t333 = true then (some (bt321.2.2 == bt327.2.2)) else (some false))) else (some false)) else (some false))))))))
def spilelaw46_TariffChecks.f (k : Nat) (a0_0 : Int) (l0_1 : List (S26)) (a1_0 : Int) (a1_1 : Int) (a1_2 : Int) : Option (Bool) := (spilelaw46_awake.f).bind fun t306 => (if t306 = true then ((spileref46_Few.f a0_0 l0_1).bind fun t307 => (spilelaw46_TariffChecks.j0 k (!t307) a0_0 l0_1 a1_0 a1_1 a1_2)) else (spilelaw46_TariffChecks.j0 k true a0_0 l0_1 a1_0 a1_1 a1_2))
def spilelaw46_TariffChecks.T5 : Bool × List (List Nat × List Nat) := (true, [([], []), ([0], [0]), ([], []), ([1, 2, 1], [1, 2]), ([3], [3]), ([4], [4]), ([4], [4]), ([], []), ([7, 5, 3, 0, 1, 2, 3, 4, 5, 7], [5, 7]), ([6, 8, 0, 1, 2, 3, 4, 5, 6, 7, 8], [6])])
def spilelaw46_TariffChecks.B5 : List Nat := [0, 1, 0, 7, 15, 31, 31, 0, 191, 511]
theorem spilelaw46_TariffChecks.tab5 : rtab .any (opsOf Tryz.f3 5) = spilelaw46_TariffChecks.T5 := by kernel_rfl
theorem spilelaw46_TariffChecks.bits5 : waitsOk spilelaw46_TariffChecks.T5.2 spilelaw46_TariffChecks.B5 = true := by kernel_rfl
set_option maxHeartbeats 8000000 in
set_option maxRecDepth 100000 in
theorem spilelaw46_TariffChecks.calls (k : Nat) (a0_0 : Int) (A0_1 : Option Addr) (c0_1 : Nat) (l0_1 : List (S26)) (a1_0 : Int) (a1_1 : Int) (a1_2 : Int) (r : Bool) (w : World) (hr0_1 : Kd.C k26 w A0_1 l0_1.length l0_1) (hc0_1 : l0_1.length ≤ c0_1) (hG : GI w) (hr_ : r = true) (h : spilelaw46_TariffChecks.f k a0_0 l0_1 a1_0 a1_1 a1_2 = some r) :
  Calls Tryz.prog 3 #[.agg #[.int .i64 a0_0, .slice A0_1 l0_1.length c0_1], .agg #[.int .i64 a1_0, .int .i64 a1_1, .int .i64 a1_2]] w fun e w' => e = .returned (.bool r) ∧ Below w.heap.size w w' := by
 have hu24 := Tryz.underlying24; have hu26 := Tryz.underlying26; have HR0_1 := Aside0.mk hr0_1; have HC0_1 := Aside0.mk hc0_1; clear hr0_1 hc0_1; have HG := Aside0.mk hG; clear hG; have HB := Aside0.mk (Below.refl w.heap.size w); have H : ((spilelaw46_awake.f).bind fun t306 => (if t306 = true then ((spileref46_Few.f a0_0 l0_1).bind fun t307 => (spilelaw46_TariffChecks.j0 k (!t307) a0_0 l0_1 a1_0 a1_1 a1_2)) else (spilelaw46_TariffChecks.j0 k true a0_0 l0_1 a1_0 a1_1 a1_2))) = some r := h; clear h; have HC3 := Aside0.mk H; clear H; go_enter Tryz.func3, Tryz.ntmps3
 go_upto_region 1 with (first | ((with_reducible refine gate_dst (N := 2) rfl ?_); refine box_event ?hg (N := 2) ?hd (cs := #[.int .i64 a0_0, .slice A0_1 l0_1.length c0_1]) (t := 24) ?hr ?_; (case hd => rfl); (case hg => rfl); (case hr => first | (go_simp; done) | (go_simp; rfl)); intro gb304 hg w4 hbox hb; have n0_ := Aside0.mk (below_step (eG HB.out) hb); have n1_ := Aside0.mk (hbox); have n2_ := Aside0.mk ((by rw [hg]; exact (below_size (eG HB.out)) : w.heap.size ≤ gb304)); have n3_ := Aside0.mk ((by rw [hg]; exact (below_size (eG HB.out)) : w.heap.size ≤ gb304)); clear HB; have HB := n0_; have BK304 := n1_; have GW304 := n2_; have GE304 := n3_; have ig304_ := geI GE304; clear n0_ n1_ n2_ n3_; clear hb hbox hg) | ((with_reducible refine gate_dst (N := 3) rfl ?_); refine box_event ?hg (N := 3) ?hd (cs := #[.int .i64 a1_0, .int .i64 a1_1, .int .i64 a1_2]) (t := 26) ?hr ?_; (case hd => rfl); (case hg => rfl); (case hr => first | (go_simp; done) | (go_simp; rfl)); intro gb305 hg w5 hbox hb; have n0_ := Aside0.mk (blk_below (bG BK304.out) hb); have n1_ := Aside0.mk (below_step (eG HB.out) hb); have n2_ := Aside0.mk (hbox); have n3_ := Aside0.mk ((by rw [hg]; exact (below_size (eG HB.out)) : w.heap.size ≤ gb305)); have n4_ := Aside0.mk ((by rw [hg]; exact (below_size (eG HB.out)) : w.heap.size ≤ gb305)); have n5_ := Aside0.mk ((by rw [hg]; exact Nat.ne_of_lt (blk_lt (bG BK304.out)) : gb304 ≠ gb305)); have n6_ := Aside0.mk ((by rw [hg]; exact Nat.ne_of_gt (blk_lt (bG BK304.out)) : gb305 ≠ gb304)); clear BK304; clear HB; have BK304 := n0_; have HB := n1_; have BK305 := n2_; have GW305 := n3_; have GE305 := n4_; have ig305_ := geI GE305; have NB304_305 := n5_; have NB305_304 := n6_; clear n0_ n1_ n2_ n3_ n4_ n5_ n6_; clear hb hbox hg))
 (try simp only [Act.put, sIA, sC0, sCS])
 go_cut [19] (fun v19 wc => ∃ (kq : Nat) (x19_2 : Bool), v19 = .bool x19_2 ∧ Aside0 (spilelaw46_TariffChecks.j0 kq x19_2 a0_0 l0_1 a1_0 a1_1 a1_2 = some r) ∧ Aside0 (kq ≤ k) ∧ Aside0 (wc.heap[gb304]? = some (.cells #[.int .i64 a0_0, (.slice A0_1 l0_1.length c0_1)] 24 (0, 0))) ∧ Aside0 (wc.heap[gb305]? = some (.cells #[.int .i64 a1_0, .int .i64 a1_1, .int .i64 a1_2] 26 (0, 0))) ∧ Aside0 (Below w.heap.size w wc))
 case first =>
  have H := HC3.out; clear HC3; replace H := Option.bind_eq_some_iff.mp H; obtain ⟨t306, A60, H⟩ := H; replace H : (if t306 = true then ((spileref46_Few.f a0_0 l0_1).bind fun t307 => (spilelaw46_TariffChecks.j0 k (!t307) a0_0 l0_1 a1_0 a1_1 a1_2)) else (spilelaw46_TariffChecks.j0 k true a0_0 l0_1 a1_0 a1_1 a1_2)) = some r := H; have A6 := Aside0.mk A60; clear A60; by_cases c7 : t306 = true
  ·
   subst c7; replace H : ((spileref46_Few.f a0_0 l0_1).bind fun t307 => (spilelaw46_TariffChecks.j0 k (!t307) a0_0 l0_1 a1_0 a1_1 a1_2)) = some r := by rw [if_pos rfl] at H; exact H
   replace H := Option.bind_eq_some_iff.mp H; obtain ⟨t307, A80, H⟩ := H; replace H : (spilelaw46_TariffChecks.j0 k (!t307) a0_0 l0_1 a1_0 a1_1 a1_2) = some r := H; have A8 := Aside0.mk A80; clear A80; have H' := Aside0.mk H; clear H; go_wp2_with (first | ((with_reducible refine gate_callee (f := 11) rfl ?_); refine goesL_ (some 13) rfl rfl Tryz.func11 (by kernel_rfl) rfl #[] rfl (by (try simp only [List.map_toArray, List.map_cons, List.map_nil]); first | done | rfl | (simp only [List.length_drop, List.length_take]; rfl)) ?_; (with_reducible refine (spilelaw46_awake.calls  true _ ?side1 A6.out).mono ?_); (case side1 => exact GI.below HG.out (eG HB.out)); rintro e w9 ⟨rfl, hb⟩; refine ⟨_, rfl, ?_⟩; have n0_ := Aside0.mk (blk_below (bG BK304.out) hb); have n1_ := Aside0.mk (blk_below (bG BK305.out) hb); have n2_ := Aside0.mk (below_step (eG HB.out) hb); clear BK304; clear BK305; clear HB; have BK304 := n0_; have BK305 := n1_; have HB := n2_; clear n0_ n1_ n2_; (try clear hb); (try clear hb2); (try clear hk); (try clear hi); have hnb10 := NB304_305.out; have hnc10 := NB305_304.out; have hcz11_0 : w9.cell? ⟨gb304, 0, none⟩ = some (.int .i64 a0_0) := (blk_cell BK304.out 0).trans rfl; have hcz11_1 : w9.cell? ⟨gb304, 1, none⟩ = some (.slice A0_1 l0_1.length c0_1) := (blk_cell BK304.out 1).trans rfl; have hfz11_0 := blk_frozen BK304.out 0; have hfz11_1 := blk_frozen BK304.out 1) | (go_at_call 12; (with_reducible refine (spileref46_Few.calls a0_0 _ _ l0_1 t307 _ ?side1 ?side2 A8.out).mono ?_); (case side1 => repeat (first | exact (Kd.C_below HR0_1.out HB.out) | (with_reducible refine Kd.C_alloc ?_ _) | (with_reducible refine Kd.C_drewN ?_ _) | (with_reducible refine Kd.C_drew ?_))); (case side2 => exact HC0_1.out); rintro e w12 ⟨rfl, hb⟩; have n0_ := Aside0.mk (blk_below (bG BK304.out) hb); have n1_ := Aside0.mk (blk_below (bG BK305.out) hb); have n2_ := Aside0.mk (below_step (eG HB.out) hb); clear BK304; clear BK305; clear HB; have BK304 := n0_; have BK305 := n1_; have HB := n2_; clear n0_ n1_ n2_; (try clear hb); (try clear hb2); (try clear hk); (try clear hi)))
   go_meet
   case rel => exact ⟨_, (!t307), (by first | rfl | (simp; done) | (simp [*]; done)), H', ⟨by first | omega | exact Nat.le_refl _⟩, ⟨by (with_reducible repeat first | apply bN | apply bD | apply bA); exact BK304.out⟩, ⟨by (with_reducible repeat first | apply bN | apply bD | apply bA); exact BK305.out⟩, ⟨eG HB.out⟩⟩
  ·
   replace c7 := Bool.eq_false_iff.mpr c7; subst c7; replace H : (spilelaw46_TariffChecks.j0 k true a0_0 l0_1 a1_0 a1_1 a1_2) = some r := by rw [if_neg (show ¬ (false = true) by decide)] at H; exact H
   have H' := Aside0.mk H; clear H; go_wp2_with (first | ((with_reducible refine gate_callee (f := 11) rfl ?_); refine goesL_ (some 13) rfl rfl Tryz.func11 (by kernel_rfl) rfl #[] rfl (by (try simp only [List.map_toArray, List.map_cons, List.map_nil]); first | done | rfl | (simp only [List.length_drop, List.length_take]; rfl)) ?_; (with_reducible refine (spilelaw46_awake.calls  false _ ?side1 A6.out).mono ?_); (case side1 => exact GI.below HG.out (eG HB.out)); rintro e w13 ⟨rfl, hb⟩; refine ⟨_, rfl, ?_⟩; have n0_ := Aside0.mk (blk_below (bG BK304.out) hb); have n1_ := Aside0.mk (blk_below (bG BK305.out) hb); have n2_ := Aside0.mk (below_step (eG HB.out) hb); clear BK304; clear BK305; clear HB; have BK304 := n0_; have BK305 := n1_; have HB := n2_; clear n0_ n1_ n2_; (try clear hb); (try clear hb2); (try clear hk); (try clear hi)))
   go_meet
   case rel => exact ⟨_, (true), (by first | rfl | (simp; done) | (simp [*]; done)), H', ⟨by first | omega | exact Nat.le_refl _⟩, ⟨by (with_reducible repeat first | apply bN | apply bD | apply bA); exact BK304.out⟩, ⟨by (with_reducible repeat first | apply bN | apply bD | apply bA); exact BK305.out⟩, ⟨eG HB.out⟩⟩
 case rest =>
  clear HC3; repeat first | clear c1 | clear p2 | clear c3 | clear c7 | clear c10 | clear c11 | clear hcz11_0 | clear hcz11_1 | clear hfz11_0 | clear hfz11_1
  obtain ⟨kq, x19_2, rfl, HA, HJ2, BK304, BK305, HB⟩ := hcut
  cases kq with
  | zero => exact absurd HA.out (by simp [spilelaw46_TariffChecks.j0])
  | succ kj2 =>
   have H := HA.out; clear HA; simp only [spilelaw46_TariffChecks.j0] at H; by_cases c14 : x19_2 = true
   ·
    subst c14; replace H : ((spilelaw46_awake.f).bind fun t308 => (some t308)) = some r := by rw [if_pos rfl] at H; exact H
    replace H := Option.bind_eq_some_iff.mp H; obtain ⟨t308, A150, H⟩ := H; replace H : (some t308) = some r := H; have A15 := Aside0.mk A150; clear A150; obtain rfl := Option.some.inj H; go_wp2_with (first | ((with_reducible refine gate_callee (f := 11) rfl ?_); refine goesL_ (some 20) rfl rfl Tryz.func11 (by kernel_rfl) rfl #[] rfl (by (try simp only [List.map_toArray, List.map_cons, List.map_nil]); first | done | rfl | (simp only [List.length_drop, List.length_take]; rfl)) ?_; (with_reducible refine (spilelaw46_awake.calls  t308 _ ?side1 A15.out).mono ?_); (case side1 => exact GI.below HG.out (eG HB.out)); rintro e w16 ⟨rfl, hb⟩; refine ⟨_, rfl, ?_⟩; have n0_ := Aside0.mk (blk_below (bG BK304.out) hb); have n1_ := Aside0.mk (blk_below (bG BK305.out) hb); have n2_ := Aside0.mk (below_step (eG HB.out) hb); clear BK304; clear BK305; clear HB; have BK304 := n0_; have BK305 := n1_; have HB := n2_; clear n0_ n1_ n2_; (try clear hb); (try clear hb2); (try clear hk); (try clear hi)))
    go_ret
    exact ⟨by first | rfl | (simp [errW_none, errW_some] <;> rfl) | (simp [*, errW_none, errW_some] <;> rfl), eG HB.out⟩
   ·
    replace c14 := Bool.eq_false_iff.mpr c14; subst c14; replace H : ((spilelaw46_cp.f a0_0 l0_1).bind fun bt309 => ((tariff_Check.f kj2 bt309.1 bt309.2).bind fun bt313 => ((spileref46_Check.f kj2 a0_0 l0_1).bind fun bt315 => ((spilelaw46_cp.f a0_0 l0_1).bind fun bt317 => ((tariff_Insert.f kj2 bt317.1 bt317.2 a1_0 a1_1 a1_2).bind fun bt321 => ((spileref46_Insert.f kj2 a0_0 l0_1 a1_0 a1_1 a1_2).bind fun bt327 => (if bt313.1 = bt315.1 then (if bt313.2 = bt315.2 then ((spileref46_Same.f kj2 bt321.1 bt321.2.1 bt327.1 bt327.2.1).bind fun t333 => (if t333 = true then (some (bt321.2.2 == bt327.2.2)) else (some false))) else (some false)) else (some false)))))))) = some r := by rw [if_neg (show ¬ (false = true) by decide)] at H; exact H
    replace H := Option.bind_eq_some_iff.mp H; obtain ⟨⟨t309, t310⟩, A170, H⟩ := H; replace H : ((tariff_Check.f kj2 t309 t310).bind fun bt313 => ((spileref46_Check.f kj2 a0_0 l0_1).bind fun bt315 => ((spilelaw46_cp.f a0_0 l0_1).bind fun bt317 => ((tariff_Insert.f kj2 bt317.1 bt317.2 a1_0 a1_1 a1_2).bind fun bt321 => ((spileref46_Insert.f kj2 a0_0 l0_1 a1_0 a1_1 a1_2).bind fun bt327 => (if bt313.1 = bt315.1 then (if bt313.2 = bt315.2 then ((spileref46_Same.f kj2 bt321.1 bt321.2.1 bt327.1 bt327.2.1).bind fun t333 => (if t333 = true then (some (bt321.2.2 == bt327.2.2)) else (some false))) else (some false)) else (some false))))))) = some r := H; have A17 := Aside0.mk A170; clear A170; replace H := Option.bind_eq_some_iff.mp H; obtain ⟨⟨t313, t314⟩, A180, H⟩ := H; replace H : ((spileref46_Check.f kj2 a0_0 l0_1).bind fun bt315 => ((spilelaw46_cp.f a0_0 l0_1).bind fun bt317 => ((tariff_Insert.f kj2 bt317.1 bt317.2 a1_0 a1_1 a1_2).bind fun bt321 => ((spileref46_Insert.f kj2 a0_0 l0_1 a1_0 a1_1 a1_2).bind fun bt327 => (if t313 = bt315.1 then (if t314 = bt315.2 then ((spileref46_Same.f kj2 bt321.1 bt321.2.1 bt327.1 bt327.2.1).bind fun t333 => (if t333 = true then (some (bt321.2.2 == bt327.2.2)) else (some false))) else (some false)) else (some false)))))) = some r := H; have A18 := Aside0.mk A180; clear A180; replace H := Option.bind_eq_some_iff.mp H; obtain ⟨⟨t315, t316⟩, A190, H⟩ := H; replace H : ((spilelaw46_cp.f a0_0 l0_1).bind fun bt317 => ((tariff_Insert.f kj2 bt317.1 bt317.2 a1_0 a1_1 a1_2).bind fun bt321 => ((spileref46_Insert.f kj2 a0_0 l0_1 a1_0 a1_1 a1_2).bind fun bt327 => (if t313 = t315 then (if t314 = t316 then ((spileref46_Same.f kj2 bt321.1 bt321.2.1 bt327.1 bt327.2.1).bind fun t333 => (if t333 = true then (some (bt321.2.2 == bt327.2.2)) else (some false))) else (some false)) else (some false))))) = some r := H; have A19 := Aside0.mk A190; clear A190; replace H := Option.bind_eq_some_iff.mp H; obtain ⟨⟨t317, t318⟩, A200, H⟩ := H; replace H : ((tariff_Insert.f kj2 t317 t318 a1_0 a1_1 a1_2).bind fun bt321 => ((spileref46_Insert.f kj2 a0_0 l0_1 a1_0 a1_1 a1_2).bind fun bt327 => (if t313 = t315 then (if t314 = t316 then ((spileref46_Same.f kj2 bt321.1 bt321.2.1 bt327.1 bt327.2.1).bind fun t333 => (if t333 = true then (some (bt321.2.2 == bt327.2.2)) else (some false))) else (some false)) else (some false)))) = some r := H; have A20 := Aside0.mk A200; clear A200; replace H := Option.bind_eq_some_iff.mp H; obtain ⟨⟨t321, t322, t325⟩, A210, H⟩ := H; replace H : ((spileref46_Insert.f kj2 a0_0 l0_1 a1_0 a1_1 a1_2).bind fun bt327 => (if t313 = t315 then (if t314 = t316 then ((spileref46_Same.f kj2 t321 t322 bt327.1 bt327.2.1).bind fun t333 => (if t333 = true then (some (t325 == bt327.2.2)) else (some false))) else (some false)) else (some false))) = some r := H; have A21 := Aside0.mk A210; clear A210; replace H := Option.bind_eq_some_iff.mp H; obtain ⟨⟨t327, t328, t331⟩, A220, H⟩ := H; replace H : (if t313 = t315 then (if t314 = t316 then ((spileref46_Same.f kj2 t321 t322 t327 t328).bind fun t333 => (if t333 = true then (some (t325 == t331)) else (some false))) else (some false)) else (some false)) = some r := H; have A22 := Aside0.mk A220; clear A220; by_cases c23 : t313 = t315
    ·
     rw [if_pos c23] at H; have c23b0 : (t313 == t315) = true := beq_iff_eq.mpr c23; have c23b1 : (t313 != t315) = false := bne_eq_false_iff_eq.mpr c23; clear c23; by_cases c24 : t314 = t316
     ·
      rw [if_pos c24] at H; have c24b0 : (t314 == t316) = true := beq_iff_eq.mpr c24; have c24b1 : (t314 != t316) = false := bne_eq_false_iff_eq.mpr c24; clear c24; replace H := Option.bind_eq_some_iff.mp H; obtain ⟨t333, A250, H⟩ := H; replace H : (if t333 = true then (some (t325 == t331)) else (some false)) = some r := H; have A25 := Aside0.mk A250; clear A250; by_cases c26 : t333 = true
      ·
       subst c26; replace H : (some (t325 == t331)) = some r := by rw [if_pos rfl] at H; exact H
       obtain rfl := Option.some.inj H; have hnb27 := NB304_305.out; have hnc27 := NB305_304.out; have hcz28_0 : wc.cell? ⟨gb304, 0, none⟩ = some (.int .i64 a0_0) := (blk_cell BK304.out 0).trans rfl; have hcz28_1 : wc.cell? ⟨gb304, 1, none⟩ = some (.slice A0_1 l0_1.length c0_1) := (blk_cell BK304.out 1).trans rfl; have hfz28_0 := blk_frozen BK304.out 0; have hfz28_1 := blk_frozen BK304.out 1; try go_wp2_with (first | ((with_reducible refine gate_callee (f := 14) rfl ?_); refine goesL_ (some 23) rfl rfl Tryz.func14 (by kernel_rfl) rfl #[.agg #[.int .i64 a0_0, .slice A0_1 l0_1.length c0_1]] rfl (by (try simp only [List.map_toArray, List.map_cons, List.map_nil]); first | done | rfl | (simp only [List.length_drop, List.length_take]; rfl)) ?_; (with_reducible refine (spilelaw46_cp.calls a0_0 _ _ l0_1 t309 t310 _ ?side1 ?side2 A17.out).mono ?_); (case side1 => repeat (first | exact (Kd.C_below HR0_1.out HB.out) | (with_reducible refine Kd.C_alloc ?_ _) | (with_reducible refine Kd.C_drewN ?_ _) | (with_reducible refine Kd.C_drew ?_))); (case side2 => exact HC0_1.out); rintro e w29 ⟨v311, rfl, ho0, hb⟩; refine ⟨_, rfl, ?_⟩; have n0_ := Aside0.mk (Kd.R_lower (Kd.R_newB ho0 (bG BK305.out)) (below_size (eG HB.out))); have n1_ := Aside0.mk (blk_below (bG BK304.out) hb); have n2_ := Aside0.mk (blk_below (bG BK305.out) hb); have n3_ := Aside0.mk (below_step (eG HB.out) hb); clear BK304; clear BK305; clear HB; have HO312 := n0_; have BK304 := n1_; have BK305 := n2_; have HB := n3_; clear n0_ n1_ n2_ n3_; (try clear hb); (try clear hb2); (try clear hk); (try clear hi); (try clear ho0); obtain ⟨Ao30, co30, eo30⟩ := Kd.R_slice HO312.out; subst eo30) | ((with_reducible refine gate_callee (f := 13) rfl ?_); refine goesL_ (some 24) rfl rfl Tryz.func13 (by kernel_rfl) rfl #[.agg #[.int .i64 t309, .slice Ao30 t310.length co30]] rfl (by (try simp only [List.map_toArray, List.map_cons, List.map_nil]); first | done | rfl | (simp only [List.length_drop, List.length_take]; rfl)) ?_; (with_reducible refine (tariff_Check.calls kj2 t309 _ _ t310 t313 t314 _ ?side1 ?side2 A18.out).mono ?_); (case side1 => repeat (first | exact (Kd.R_reads' HO312.out).2.2 | (with_reducible refine Kd.C_alloc ?_ _) | (with_reducible refine Kd.C_drewN ?_ _) | (with_reducible refine Kd.C_drew ?_))); (case side2 => exact (Kd.R_reads' HO312.out).2.1); rintro e w31 ⟨rfl, hb⟩; refine ⟨_, rfl, ?_⟩; have n0_ := Aside0.mk (Kd.R_below (rG HO312.out) hb); have n1_ := Aside0.mk (blk_below (bG BK304.out) hb); have n2_ := Aside0.mk (blk_below (bG BK305.out) hb); have n3_ := Aside0.mk (below_step (eG HB.out) hb); clear HO312; clear BK304; clear BK305; clear HB; have HO312 := n0_; have BK304 := n1_; have BK305 := n2_; have HB := n3_; clear n0_ n1_ n2_ n3_; (try clear hb); (try clear hb2); (try clear hk); (try clear hi); have hcz32_0 : w31.cell? ⟨gb304, 0, none⟩ = some (.int .i64 a0_0) := (blk_cell BK304.out 0).trans rfl; have hcz32_1 : w31.cell? ⟨gb304, 1, none⟩ = some (.slice A0_1 l0_1.length c0_1) := (blk_cell BK304.out 1).trans rfl; have hfz32_0 := blk_frozen BK304.out 0; have hfz32_1 := blk_frozen BK304.out 1) | ((with_reducible refine gate_callee (f := 15) rfl ?_); refine goesL_ (some 29) rfl rfl Tryz.func15 (by kernel_rfl) rfl #[.agg #[.int .i64 a0_0, .slice A0_1 l0_1.length c0_1]] rfl (by (try simp only [List.map_toArray, List.map_cons, List.map_nil]); first | done | rfl | (simp only [List.length_drop, List.length_take]; rfl)) ?_; (with_reducible refine (spileref46_Check.calls kj2 a0_0 _ _ l0_1 t315 t316 _ ?side1 ?side2 A19.out).mono ?_); (case side1 => repeat (first | exact (Kd.C_below HR0_1.out HB.out) | (with_reducible refine Kd.C_alloc ?_ _) | (with_reducible refine Kd.C_drewN ?_ _) | (with_reducible refine Kd.C_drew ?_))); (case side2 => exact HC0_1.out); rintro e w33 ⟨rfl, hb⟩; refine ⟨_, rfl, ?_⟩; have n0_ := Aside0.mk (Kd.R_below (rG HO312.out) hb); have n1_ := Aside0.mk (blk_below (bG BK304.out) hb); have n2_ := Aside0.mk (blk_below (bG BK305.out) hb); have n3_ := Aside0.mk (below_step (eG HB.out) hb); clear HO312; clear BK304; clear BK305; clear HB; have HO312 := n0_; have BK304 := n1_; have BK305 := n2_; have HB := n3_; clear n0_ n1_ n2_ n3_; (try clear hb); (try clear hb2); (try clear hk); (try clear hi)))
       have n0_ := Aside0.mk (Kd.R_drew HO312.out); have n1_ := Aside0.mk (blk_drew BK304.out); have n2_ := Aside0.mk (blk_drew BK305.out); have n3_ := Aside0.mk (below_drew1 HB.out); clear HO312; clear BK304; clear BK305; clear HB; have HO312 := n0_; have BK304 := n1_; have BK305 := n2_; have HB := n3_; clear n0_ n1_ n2_ n3_; refine start_ (n := 10) (S := fun w' => w'.cell? ⟨gb304, 0, none⟩ = some (.int .i64 a0_0) ∧ w'.cell? ⟨gb304, 1, none⟩ = some (.slice A0_1 l0_1.length c0_1) ∧ w'.cell? ⟨gb305, 0, none⟩ = some (.int .i64 a1_0) ∧ w'.cell? ⟨gb305, 1, none⟩ = some (.int .i64 a1_1) ∧ w'.cell? ⟨gb305, 2, none⟩ = some (.int .i64 a1_2)) (ds := []) #[false, false, false, false, false, false, false, false, false, false] (by kernel_rfl) rfl rfl ⟨(blk_cell BK304.out 0).trans rfl, (blk_cell BK304.out 1).trans rfl, (blk_cell BK305.out 0).trans rfl, (blk_cell BK305.out 1).trans rfl, (blk_cell BK305.out 2).trans rfl⟩ (fun hHeld => ?_); refine with_tabW spilelaw46_TariffChecks.tab5 spilelaw46_TariffChecks.bits5 (fun HT_ HW_ => ?_)
       generalize w33.drew = w34 at HO312 BK304 BK305 HB hHeld ⊢; refine take_ (i := 0) (N := some 33) (v := ?_) (a' := ?_) #[true, false, false, false, false, false, false, false, false, false] rfl rfl (take_ofW HT_.out HW_.out (by kernel_rfl)) (fun _ _ _ h => h) (Or.inl ⟨by rfl, ?_⟩) hHeld ?_ ?_; rotate_left
       · rintro w' ⟨s0, s1, s2, s3, s4⟩; go_simp; with_reducible rfl
       rotate_left
       · simp only [Act.put, sIA, sC0, sCS, i64_w, i32_w]; rfl
       refine take_ (i := 2) (N := some 35) (v := ?_) (a' := ?_) #[true, false, true, false, false, false, false, false, false, false] rfl rfl (take_ofW HT_.out HW_.out (by kernel_rfl)) (fun _ _ _ h => h) (Or.inl ⟨by rfl, ?_⟩) hHeld ?_ ?_; rotate_left
       · rintro w' ⟨s0, s1, s2, s3, s4⟩; go_simp; with_reducible rfl
       rotate_left
       · simp only [Act.put, sIA, sC0, sCS, i64_w, i32_w]; rfl
       refine join_ (σ := Value × Value × Nat) 2 #[true, true, true, true, true, true, true, true, false, false] (fun s_ => [(34, .agg #[.int .i64 t317, s_.1]), (36, .tuple #[.agg #[.int .i64 t321, s_.2.1], .int .i64 t325]), (9, .pointer (some ⟨s_.2.2, 0, none⟩)), (32, .tuple #[.agg #[.int .i64 t321, s_.2.1], .int .i64 t325]), (37, .agg #[.int .i64 t321, s_.2.1]), (38, .int .i64 t325)]) (fun s_ w' => (w'.cell? ⟨gb304, 0, none⟩ = some (.int .i64 a0_0) ∧ w'.cell? ⟨gb304, 1, none⟩ = some (.slice A0_1 l0_1.length c0_1) ∧ w'.cell? ⟨gb305, 0, none⟩ = some (.int .i64 a1_0) ∧ w'.cell? ⟨gb305, 1, none⟩ = some (.int .i64 a1_1) ∧ w'.cell? ⟨gb305, 2, none⟩ = some (.int .i64 a1_2)) ∧ (Kd.R k26 26 w' w.heap.size (fun k_ => some k_ ≠ (s_.1 : Value).ownBlock ∧ some k_ ≠ (s_.2.1 : Value).ownBlock ∧ k_ ≠ gb305) (.slice Ao30 t310.length co30) t310) ∧ (Kd.R k26 26 w' w.heap.size (fun k_ => some k_ ≠ (.slice Ao30 t310.length co30 : Value).ownBlock ∧ some k_ ≠ (s_.2.1 : Value).ownBlock ∧ k_ ≠ gb305) s_.1 t318) ∧ (Kd.R k26 26 w' w.heap.size (fun k_ => some k_ ≠ (.slice Ao30 t310.length co30 : Value).ownBlock ∧ some k_ ≠ (s_.1 : Value).ownBlock ∧ k_ ≠ gb305) s_.2.1 t322) ∧ (w'.heap[gb304]? = some (.cells #[.int .i64 a0_0, .slice A0_1 l0_1.length c0_1] 24 (0, 0))) ∧ (w'.heap[gb305]? = some (.cells #[.int .i64 a1_0, .int .i64 a1_1, .int .i64 a1_2] 26 (0, 0))) ∧ (w'.heap[s_.2.2]? = some (.cells #[.int .i64 0, .slice none 0 0] 24 (0, 0))) ∧ (w.heap.size ≤ s_.2.2) ∧ (w.heap.size ≤ s_.2.2) ∧ (gb304 ≠ s_.2.2) ∧ (s_.2.2 ≠ gb304) ∧ (gb305 ≠ s_.2.2) ∧ (s_.2.2 ≠ gb305) ∧ (Below w.heap.size w w')) ?_ ?_; rotate_left
       ·
        intro hCont; refine two_ (i := 1) (j := 7) (Ni := some 34) (Nj := some 9) #[true, true, true, false, false, false, false, false, false, false] #[true, false, true, false, false, false, false, true, false, false] rfl rfl rfl rfl (two_of HT_.out (by kernel_rfl)) (by decide) (by decide) (fun K hK => ?_) (fun K hK => ?_)
        ·
         skip
         refine goes_ Tryz.func14 (by kernel_rfl) rfl #[.agg #[.int .i64 a0_0, .slice A0_1 l0_1.length c0_1]] (by rfl) rfl rfl (by (try simp only [List.map_toArray, List.map_cons, List.map_nil]); first | done | rfl | (simp only [List.length_drop, List.length_take]; rfl)) ?_; with_reducible refine (spilelaw46_cp.calls a0_0 _ _ l0_1 t317 t318 _ ?side1 ?side2 A20.out).mono ?_
         (case side1 => repeat (first | exact (Kd.C_below HR0_1.out HB.out) | (with_reducible refine Kd.C_alloc ?_ _) | (with_reducible refine Kd.C_drewN ?_ _) | (with_reducible refine Kd.C_drew ?_)))
         (case side2 => exact HC0_1.out)
         rintro e w35 ⟨v319, rfl, ho0, hb⟩; refine ⟨_, rfl, ?_⟩; have n0_ := Aside0.mk (Kd.R_elder' (rG HO312.out) (Kd.R_base ho0) hb); have n1_ := Aside0.mk (Kd.R_lower (Kd.R_newB (Kd.R_new' ho0 (Kd.R_lt (rG HO312.out))) (bG BK305.out)) (below_size (eG HB.out))); have n2_ := Aside0.mk (blk_below (bG BK304.out) hb); have n3_ := Aside0.mk (blk_below (bG BK305.out) hb); have n4_ := Aside0.mk (below_step (eG HB.out) hb); clear HO312; clear BK304; clear BK305; clear HB; have HO312 := n0_; have HO320 := n1_; have BK304 := n2_; have BK305 := n3_; have HB := n4_; clear n0_ n1_ n2_ n3_ n4_; (try clear hb)
         (try clear hb2)
         (try clear hk)
         (try clear hi)
         (try clear ho0)
         obtain ⟨Ao36, co36, eo36⟩ := Kd.R_slice HO320.out; (first | subst eo36 | (injection eo36 with f1_ f2_ f3_; have f4_ := f1_.symm; have f5_ := f3_.symm; clear f1_ f2_ f3_; subst f4_; subst f5_))
         refine hK.out _ _ ⟨(blk_cell BK304.out 0).trans rfl, (blk_cell BK304.out 1).trans rfl, (blk_cell BK305.out 0).trans rfl, (blk_cell BK305.out 1).trans rfl, (blk_cell BK305.out 2).trans rfl⟩ (fun hHeld => ?_); clear hK K; refine norm_ (a' := ?_) ?_ ?_; rotate_left
         ·
          show Act.put _ (some 34) _ = _
          simp only [Act.put, sIA, sC0, sCS, i64_w, i32_w]; rfl
         refine two_ (i := 3) (j := 7) (Ni := some 36) (Nj := some 9) #[true, true, true, true, false, false, false, false, false, false] #[true, true, true, false, false, false, false, true, false, false] rfl rfl rfl rfl (two_of HT_.out (by kernel_rfl)) (by decide) (by decide) (fun K hK => ?_) (fun K hK => ?_)
         ·
          skip
          refine goes_ Tryz.func16 (by kernel_rfl) rfl #[.agg #[.int .i64 t317, .slice Ao36 t318.length co36], .agg #[.int .i64 a1_0, .int .i64 a1_1, .int .i64 a1_2]] (by rfl) rfl rfl (by (try simp only [List.map_toArray, List.map_cons, List.map_nil]); first | done | rfl | (simp only [List.length_drop, List.length_take]; rfl)) ?_; with_reducible refine (tariff_Insert.calls kj2 t317 _ _ t318 a1_0 a1_1 a1_2 t321 t322 t325 _ ?side1 ?side2 A21.out).mono ?_
          (case side1 => repeat (first | exact (Kd.R_reads' HO320.out).2.2 | (with_reducible refine Kd.C_alloc ?_ _) | (with_reducible refine Kd.C_drewN ?_ _) | (with_reducible refine Kd.C_drew ?_)))
          (case side2 => exact (Kd.R_reads' HO320.out).2.1)
          rintro e w37 ⟨v323, rfl, ho0, hb⟩; refine ⟨_, rfl, ?_⟩; have n0_ := Aside0.mk (Kd.R_elder' (rG HO312.out) (Kd.R_base ho0) hb); have n1_ := Aside0.mk (Kd.R_elder' (rG HO320.out) (Kd.R_base ho0) hb); have n2_ := Aside0.mk (Kd.R_lower (Kd.R_newB (Kd.R_new' (Kd.R_new' ho0 (Kd.R_lt (rG HO312.out))) (Kd.R_lt (rG HO320.out))) (bG BK305.out)) (below_size (eG HB.out))); have n3_ := Aside0.mk (blk_below (bG BK304.out) hb); have n4_ := Aside0.mk (blk_below (bG BK305.out) hb); have n5_ := Aside0.mk (below_step (eG HB.out) hb); clear HO312; clear HO320; clear BK304; clear BK305; clear HB; have HO312 := n0_; have HO320 := n1_; have HO324 := n2_; have BK304 := n3_; have BK305 := n4_; have HB := n5_; clear n0_ n1_ n2_ n3_ n4_ n5_; (try clear hb)
          (try clear hb2)
          (try clear hk)
          (try clear hi)
          (try clear ho0)
          refine hK.out _ _ ⟨(blk_cell BK304.out 0).trans rfl, (blk_cell BK304.out 1).trans rfl, (blk_cell BK305.out 0).trans rfl, (blk_cell BK305.out 1).trans rfl, (blk_cell BK305.out 2).trans rfl⟩ (fun hHeld => ?_); clear hK K; refine norm_ (a' := ?_) ?_ ?_; rotate_left
          ·
           show Act.put _ (some 36) _ = _
           simp only [Act.put, sIA, sC0, sCS, i64_w, i32_w]; rfl
          refine pure_ (i := 4) (N := some 32) (v := ?_) (a' := ?_) #[true, true, true, true, true, false, false, false, false, false] rfl rfl (any_of HT_.out (by kernel_rfl)) (fun _ _ _ h => h) (Or.inl ⟨by rfl, ?_⟩) ?_ ?_; rotate_left
          · intro w'; go_simp; with_reducible rfl
          rotate_left
          · simp only [Act.put, sIA, sC0, sCS, i64_w, i32_w]; rfl
          refine pure_ (i := 5) (N := some 37) (v := ?_) (a' := ?_) #[true, true, true, true, true, true, false, false, false, false] rfl rfl (any_of HT_.out (by kernel_rfl)) (fun _ _ _ h => h) (Or.inl ⟨by rfl, ?_⟩) ?_ ?_; rotate_left
          · intro w'; go_simp; with_reducible rfl
          rotate_left
          · simp only [Act.put, sIA, sC0, sCS, i64_w, i32_w]; rfl
          refine pure_ (i := 6) (N := some 38) (v := ?_) (a' := ?_) #[true, true, true, true, true, true, true, false, false, false] rfl rfl (any_of HT_.out (by kernel_rfl)) (fun _ _ _ h => h) (Or.inl ⟨by rfl, ?_⟩) ?_ ?_; rotate_left
          · intro w'; go_simp; with_reducible rfl
          rotate_left
          · simp only [Act.put, sIA, sC0, sCS, i64_w, i32_w]; rfl
          refine one_ (i := 7) (N := some 9) #[true, true, true, true, true, true, true, true, false, false] rfl rfl (one_of HT_.out (by kernel_rfl)) (by decide) (fun K hK => ?_); refine box_step ?hg (N := 9) ?hd (cs := #[.int .i64 0, .slice none 0 0]) (t := 24) ?hr ?_; (case hd => rfl); (case hg => rfl); (case hr => first | (go_simp; done) | (go_simp; rfl))
          intro gb326 hg w38 hbox hb; have n0_ := Aside0.mk (Kd.R_below (rG HO312.out) hb); have n1_ := Aside0.mk (Kd.R_below (rG HO320.out) hb); have n2_ := Aside0.mk (Kd.R_below (rG HO324.out) hb); have n3_ := Aside0.mk (blk_below (bG BK304.out) hb); have n4_ := Aside0.mk (blk_below (bG BK305.out) hb); have n5_ := Aside0.mk (below_step (eG HB.out) hb); have n6_ := Aside0.mk (hbox); have n7_ := Aside0.mk ((by rw [hg]; exact (below_size (eG HB.out)) : w.heap.size ≤ gb326)); have n8_ := Aside0.mk ((by rw [hg]; exact (below_size (eG HB.out)) : w.heap.size ≤ gb326)); have n9_ := Aside0.mk ((by rw [hg]; exact Nat.ne_of_lt (blk_lt (bG BK304.out)) : gb304 ≠ gb326)); have n10_ := Aside0.mk ((by rw [hg]; exact Nat.ne_of_gt (blk_lt (bG BK304.out)) : gb326 ≠ gb304)); have n11_ := Aside0.mk ((by rw [hg]; exact Nat.ne_of_lt (blk_lt (bG BK305.out)) : gb305 ≠ gb326)); have n12_ := Aside0.mk ((by rw [hg]; exact Nat.ne_of_gt (blk_lt (bG BK305.out)) : gb326 ≠ gb305)); clear HO312; clear HO320; clear HO324; clear BK304; clear BK305; clear HB; have HO312 := n0_; have HO320 := n1_; have HO324 := n2_; have BK304 := n3_; have BK305 := n4_; have HB := n5_; have BK326 := n6_; have GW326 := n7_; have GE326 := n8_; have ig326_ := geI GE326
          have NB304_326 := n9_; have NB326_304 := n10_; have NB305_326 := n11_; have NB326_305 := n12_; clear n0_ n1_ n2_ n3_ n4_ n5_ n6_ n7_ n8_ n9_ n10_ n11_ n12_; clear hb hbox hg; refine hK.out _ _ ⟨(blk_cell BK304.out 0).trans rfl, (blk_cell BK304.out 1).trans rfl, (blk_cell BK305.out 0).trans rfl, (blk_cell BK305.out 1).trans rfl, (blk_cell BK305.out 2).trans rfl⟩ (fun hHeld => ?_); clear hK K; refine norm_ (a' := ?_) ?_ ?_; rotate_left
          ·
           show Act.put _ (some 9) _ = _
           simp only [Act.put, sIA, sC0, sCS, i64_w, i32_w]; rfl
          exact norm_ (by simp only [putAll, Act.put, sIA, sC0, sCS]) (hCont (.slice Ao36 t318.length co36, v323, gb326) _ ⟨hHeld, (by (with_reducible repeat (first | apply Kd.R_alloc | apply Kd.R_drewN | apply Kd.R_drew)); exact Kd.R_mono HO312.out (fun _ hk => ⟨hk.1.2, ⟨hk.2, hk.1.1.2⟩⟩)), (by (with_reducible repeat (first | apply Kd.R_alloc | apply Kd.R_drewN | apply Kd.R_drew)); exact Kd.R_mono HO320.out (fun _ hk => ⟨hk.1.1.2, ⟨hk.2, hk.1.2⟩⟩)), (by (with_reducible repeat (first | apply Kd.R_alloc | apply Kd.R_drewN | apply Kd.R_drew)); exact Kd.R_mono HO324.out (fun _ hk => ⟨hk.1.1.2, ⟨hk.1.2, hk.2⟩⟩)), (bG BK304.out), (bG BK305.out), (bG BK326.out), GW326.out, GE326.out, NB304_326.out, NB326_304.out, NB305_326.out, NB326_305.out, (eG HB.out)⟩)
         ·
          skip
          refine box_step ?hg (N := 9) ?hd (cs := #[.int .i64 0, .slice none 0 0]) (t := 24) ?hr ?_; (case hd => rfl); (case hg => rfl); (case hr => first | (go_simp; done) | (go_simp; rfl))
          intro gb326 hg w36 hbox hb; have n0_ := Aside0.mk (Kd.R_below (rG HO312.out) hb); have n1_ := Aside0.mk (Kd.R_below (rG HO320.out) hb); have n2_ := Aside0.mk (blk_below (bG BK304.out) hb); have n3_ := Aside0.mk (blk_below (bG BK305.out) hb); have n4_ := Aside0.mk (below_step (eG HB.out) hb); have n5_ := Aside0.mk (hbox); have n6_ := Aside0.mk ((by rw [hg]; exact (below_size (eG HB.out)) : w.heap.size ≤ gb326)); have n7_ := Aside0.mk ((by rw [hg]; exact (below_size (eG HB.out)) : w.heap.size ≤ gb326)); have n8_ := Aside0.mk ((by rw [hg]; exact Nat.ne_of_lt (blk_lt (bG BK304.out)) : gb304 ≠ gb326)); have n9_ := Aside0.mk ((by rw [hg]; exact Nat.ne_of_gt (blk_lt (bG BK304.out)) : gb326 ≠ gb304)); have n10_ := Aside0.mk ((by rw [hg]; exact Nat.ne_of_lt (blk_lt (bG BK305.out)) : gb305 ≠ gb326)); have n11_ := Aside0.mk ((by rw [hg]; exact Nat.ne_of_gt (blk_lt (bG BK305.out)) : gb326 ≠ gb305)); clear HO312; clear HO320; clear BK304; clear BK305; clear HB; have HO312 := n0_; have HO320 := n1_; have BK304 := n2_; have BK305 := n3_; have HB := n4_; have BK326 := n5_; have GW326 := n6_; have GE326 := n7_; have ig326_ := geI GE326
          have NB304_326 := n8_; have NB326_304 := n9_; have NB305_326 := n10_; have NB326_305 := n11_; clear n0_ n1_ n2_ n3_ n4_ n5_ n6_ n7_ n8_ n9_ n10_ n11_; clear hb hbox hg; obtain ⟨Ao37, co37, eo37⟩ := Kd.R_slice HO320.out; (first | subst eo37 | (injection eo37 with f1_ f2_ f3_; have f4_ := f1_.symm; have f5_ := f3_.symm; clear f1_ f2_ f3_; subst f4_; subst f5_))
          refine hK.out _ _ ⟨(blk_cell BK304.out 0).trans rfl, (blk_cell BK304.out 1).trans rfl, (blk_cell BK305.out 0).trans rfl, (blk_cell BK305.out 1).trans rfl, (blk_cell BK305.out 2).trans rfl⟩ (fun hHeld => ?_); clear hK K; refine norm_ (a' := ?_) ?_ ?_; rotate_left
          ·
           show Act.put _ (some 9) _ = _
           simp only [Act.put, sIA, sC0, sCS, i64_w, i32_w]; rfl
          refine one_ (i := 3) (N := some 36) #[true, true, true, true, false, false, false, true, false, false] rfl rfl (one_of HT_.out (by kernel_rfl)) (by decide) (fun K hK => ?_); refine goes_ Tryz.func16 (by kernel_rfl) rfl #[.agg #[.int .i64 t317, .slice Ao37 t318.length co37], .agg #[.int .i64 a1_0, .int .i64 a1_1, .int .i64 a1_2]] (by rfl) rfl rfl (by (try simp only [List.map_toArray, List.map_cons, List.map_nil]); first | done | rfl | (simp only [List.length_drop, List.length_take]; rfl)) ?_; with_reducible refine (tariff_Insert.calls kj2 t317 _ _ t318 a1_0 a1_1 a1_2 t321 t322 t325 _ ?side1 ?side2 A21.out).mono ?_
          (case side1 => repeat (first | exact (Kd.R_reads' HO320.out).2.2 | (with_reducible refine Kd.C_alloc ?_ _) | (with_reducible refine Kd.C_drewN ?_ _) | (with_reducible refine Kd.C_drew ?_)))
          (case side2 => exact (Kd.R_reads' HO320.out).2.1)
          rintro e w38 ⟨v323, rfl, ho0, hb⟩; refine ⟨_, rfl, ?_⟩; have n0_ := Aside0.mk (Kd.R_elder' (rG HO312.out) (Kd.R_base ho0) hb); have n1_ := Aside0.mk (Kd.R_elder' (rG HO320.out) (Kd.R_base ho0) hb); have n2_ := Aside0.mk (Kd.R_lower (Kd.R_newB (Kd.R_new' (Kd.R_new' ho0 (Kd.R_lt (rG HO312.out))) (Kd.R_lt (rG HO320.out))) (bG BK305.out)) (below_size (eG HB.out))); have n3_ := Aside0.mk (blk_below (bG BK304.out) hb); have n4_ := Aside0.mk (blk_below (bG BK305.out) hb); have n5_ := Aside0.mk (blk_below (bG BK326.out) hb); have n6_ := Aside0.mk (below_step (eG HB.out) hb); clear HO312; clear HO320; clear BK304; clear BK305; clear BK326; clear HB; have HO312 := n0_; have HO320 := n1_; have HO324 := n2_; have BK304 := n3_; have BK305 := n4_; have BK326 := n5_; have HB := n6_; clear n0_ n1_ n2_ n3_ n4_ n5_ n6_; (try clear hb)
          (try clear hb2)
          (try clear hk)
          (try clear hi)
          (try clear ho0)
          refine hK.out _ _ ⟨(blk_cell BK304.out 0).trans rfl, (blk_cell BK304.out 1).trans rfl, (blk_cell BK305.out 0).trans rfl, (blk_cell BK305.out 1).trans rfl, (blk_cell BK305.out 2).trans rfl⟩ (fun hHeld => ?_); clear hK K; refine norm_ (a' := ?_) ?_ ?_; rotate_left
          ·
           show Act.put _ (some 36) _ = _
           simp only [Act.put, sIA, sC0, sCS, i64_w, i32_w]; rfl
          refine pure_ (i := 4) (N := some 32) (v := ?_) (a' := ?_) #[true, true, true, true, true, false, false, true, false, false] rfl rfl (any_of HT_.out (by kernel_rfl)) (fun _ _ _ h => h) (Or.inl ⟨by rfl, ?_⟩) ?_ ?_; rotate_left
          · intro w'; go_simp; with_reducible rfl
          rotate_left
          · simp only [Act.put, sIA, sC0, sCS, i64_w, i32_w]; rfl
          refine pure_ (i := 5) (N := some 37) (v := ?_) (a' := ?_) #[true, true, true, true, true, true, false, true, false, false] rfl rfl (any_of HT_.out (by kernel_rfl)) (fun _ _ _ h => h) (Or.inl ⟨by rfl, ?_⟩) ?_ ?_; rotate_left
          · intro w'; go_simp; with_reducible rfl
          rotate_left
          · simp only [Act.put, sIA, sC0, sCS, i64_w, i32_w]; rfl
          refine pure_ (i := 6) (N := some 38) (v := ?_) (a' := ?_) #[true, true, true, true, true, true, true, true, false, false] rfl rfl (any_of HT_.out (by kernel_rfl)) (fun _ _ _ h => h) (Or.inl ⟨by rfl, ?_⟩) ?_ ?_; rotate_left
          · intro w'; go_simp; with_reducible rfl
          rotate_left
          · simp only [Act.put, sIA, sC0, sCS, i64_w, i32_w]; rfl
          exact norm_ (by simp only [putAll, Act.put, sIA, sC0, sCS]) (hCont (.slice Ao37 t318.length co37, v323, gb326) _ ⟨hHeld, (by (with_reducible repeat (first | apply Kd.R_alloc | apply Kd.R_drewN | apply Kd.R_drew)); exact Kd.R_mono HO312.out (fun _ hk => ⟨hk.1.2, ⟨hk.2, hk.1.1.2⟩⟩)), (by (with_reducible repeat (first | apply Kd.R_alloc | apply Kd.R_drewN | apply Kd.R_drew)); exact Kd.R_mono HO320.out (fun _ hk => ⟨hk.1.1.2, ⟨hk.2, hk.1.2⟩⟩)), (by (with_reducible repeat (first | apply Kd.R_alloc | apply Kd.R_drewN | apply Kd.R_drew)); exact Kd.R_mono HO324.out (fun _ hk => ⟨hk.1.1.2, ⟨hk.1.2, hk.2⟩⟩)), (bG BK304.out), (bG BK305.out), (bG BK326.out), GW326.out, GE326.out, NB304_326.out, NB326_304.out, NB305_326.out, NB326_305.out, (eG HB.out)⟩)
        ·
         skip
         refine box_step ?hg (N := 9) ?hd (cs := #[.int .i64 0, .slice none 0 0]) (t := 24) ?hr ?_; (case hd => rfl); (case hg => rfl); (case hr => first | (go_simp; done) | (go_simp; rfl))
         intro gb326 hg w35 hbox hb; have n0_ := Aside0.mk (Kd.R_below (rG HO312.out) hb); have n1_ := Aside0.mk (blk_below (bG BK304.out) hb); have n2_ := Aside0.mk (blk_below (bG BK305.out) hb); have n3_ := Aside0.mk (below_step (eG HB.out) hb); have n4_ := Aside0.mk (hbox); have n5_ := Aside0.mk ((by rw [hg]; exact (below_size (eG HB.out)) : w.heap.size ≤ gb326)); have n6_ := Aside0.mk ((by rw [hg]; exact (below_size (eG HB.out)) : w.heap.size ≤ gb326)); have n7_ := Aside0.mk ((by rw [hg]; exact Nat.ne_of_lt (blk_lt (bG BK304.out)) : gb304 ≠ gb326)); have n8_ := Aside0.mk ((by rw [hg]; exact Nat.ne_of_gt (blk_lt (bG BK304.out)) : gb326 ≠ gb304)); have n9_ := Aside0.mk ((by rw [hg]; exact Nat.ne_of_lt (blk_lt (bG BK305.out)) : gb305 ≠ gb326)); have n10_ := Aside0.mk ((by rw [hg]; exact Nat.ne_of_gt (blk_lt (bG BK305.out)) : gb326 ≠ gb305)); clear HO312; clear BK304; clear BK305; clear HB; have HO312 := n0_; have BK304 := n1_; have BK305 := n2_; have HB := n3_; have BK326 := n4_; have GW326 := n5_; have GE326 := n6_; have ig326_ := geI GE326
         have NB304_326 := n7_; have NB326_304 := n8_; have NB305_326 := n9_; have NB326_305 := n10_; clear n0_ n1_ n2_ n3_ n4_ n5_ n6_ n7_ n8_ n9_ n10_; clear hb hbox hg; refine hK.out _ _ ⟨(blk_cell BK304.out 0).trans rfl, (blk_cell BK304.out 1).trans rfl, (blk_cell BK305.out 0).trans rfl, (blk_cell BK305.out 1).trans rfl, (blk_cell BK305.out 2).trans rfl⟩ (fun hHeld => ?_); clear hK K; refine norm_ (a' := ?_) ?_ ?_; rotate_left
         ·
          show Act.put _ (some 9) _ = _
          simp only [Act.put, sIA, sC0, sCS, i64_w, i32_w]; rfl
         refine one_ (i := 1) (N := some 34) #[true, true, true, false, false, false, false, true, false, false] rfl rfl (one_of HT_.out (by kernel_rfl)) (by decide) (fun K hK => ?_); refine goes_ Tryz.func14 (by kernel_rfl) rfl #[.agg #[.int .i64 a0_0, .slice A0_1 l0_1.length c0_1]] (by rfl) rfl rfl (by (try simp only [List.map_toArray, List.map_cons, List.map_nil]); first | done | rfl | (simp only [List.length_drop, List.length_take]; rfl)) ?_; with_reducible refine (spilelaw46_cp.calls a0_0 _ _ l0_1 t317 t318 _ ?side1 ?side2 A20.out).mono ?_
         (case side1 => repeat (first | exact (Kd.C_below HR0_1.out HB.out) | (with_reducible refine Kd.C_alloc ?_ _) | (with_reducible refine Kd.C_drewN ?_ _) | (with_reducible refine Kd.C_drew ?_)))
         (case side2 => exact HC0_1.out)
         rintro e w36 ⟨v319, rfl, ho0, hb⟩; refine ⟨_, rfl, ?_⟩; have n0_ := Aside0.mk (Kd.R_elder' (rG HO312.out) (Kd.R_base ho0) hb); have n1_ := Aside0.mk (Kd.R_lower (Kd.R_newB (Kd.R_new' ho0 (Kd.R_lt (rG HO312.out))) (bG BK305.out)) (below_size (eG HB.out))); have n2_ := Aside0.mk (blk_below (bG BK304.out) hb); have n3_ := Aside0.mk (blk_below (bG BK305.out) hb); have n4_ := Aside0.mk (blk_below (bG BK326.out) hb); have n5_ := Aside0.mk (below_step (eG HB.out) hb); clear HO312; clear BK304; clear BK305; clear BK326; clear HB; have HO312 := n0_; have HO320 := n1_; have BK304 := n2_; have BK305 := n3_; have BK326 := n4_; have HB := n5_; clear n0_ n1_ n2_ n3_ n4_ n5_; (try clear hb)
         (try clear hb2)
         (try clear hk)
         (try clear hi)
         (try clear ho0)
         obtain ⟨Ao37, co37, eo37⟩ := Kd.R_slice HO320.out; (first | subst eo37 | (injection eo37 with f1_ f2_ f3_; have f4_ := f1_.symm; have f5_ := f3_.symm; clear f1_ f2_ f3_; subst f4_; subst f5_))
         refine hK.out _ _ ⟨(blk_cell BK304.out 0).trans rfl, (blk_cell BK304.out 1).trans rfl, (blk_cell BK305.out 0).trans rfl, (blk_cell BK305.out 1).trans rfl, (blk_cell BK305.out 2).trans rfl⟩ (fun hHeld => ?_); clear hK K; refine norm_ (a' := ?_) ?_ ?_; rotate_left
         ·
          show Act.put _ (some 34) _ = _
          simp only [Act.put, sIA, sC0, sCS, i64_w, i32_w]; rfl
         refine one_ (i := 3) (N := some 36) #[true, true, true, true, false, false, false, true, false, false] rfl rfl (one_of HT_.out (by kernel_rfl)) (by decide) (fun K hK => ?_); refine goes_ Tryz.func16 (by kernel_rfl) rfl #[.agg #[.int .i64 t317, .slice Ao37 t318.length co37], .agg #[.int .i64 a1_0, .int .i64 a1_1, .int .i64 a1_2]] (by rfl) rfl rfl (by (try simp only [List.map_toArray, List.map_cons, List.map_nil]); first | done | rfl | (simp only [List.length_drop, List.length_take]; rfl)) ?_; with_reducible refine (tariff_Insert.calls kj2 t317 _ _ t318 a1_0 a1_1 a1_2 t321 t322 t325 _ ?side1 ?side2 A21.out).mono ?_
         (case side1 => repeat (first | exact (Kd.R_reads' HO320.out).2.2 | (with_reducible refine Kd.C_alloc ?_ _) | (with_reducible refine Kd.C_drewN ?_ _) | (with_reducible refine Kd.C_drew ?_)))
         (case side2 => exact (Kd.R_reads' HO320.out).2.1)
         rintro e w38 ⟨v323, rfl, ho0, hb⟩; refine ⟨_, rfl, ?_⟩; have n0_ := Aside0.mk (Kd.R_elder' (rG HO312.out) (Kd.R_base ho0) hb); have n1_ := Aside0.mk (Kd.R_elder' (rG HO320.out) (Kd.R_base ho0) hb); have n2_ := Aside0.mk (Kd.R_lower (Kd.R_newB (Kd.R_new' (Kd.R_new' ho0 (Kd.R_lt (rG HO312.out))) (Kd.R_lt (rG HO320.out))) (bG BK305.out)) (below_size (eG HB.out))); have n3_ := Aside0.mk (blk_below (bG BK304.out) hb); have n4_ := Aside0.mk (blk_below (bG BK305.out) hb); have n5_ := Aside0.mk (blk_below (bG BK326.out) hb); have n6_ := Aside0.mk (below_step (eG HB.out) hb); clear HO312; clear HO320; clear BK304; clear BK305; clear BK326; clear HB; have HO312 := n0_; have HO320 := n1_; have HO324 := n2_; have BK304 := n3_; have BK305 := n4_; have BK326 := n5_; have HB := n6_; clear n0_ n1_ n2_ n3_ n4_ n5_ n6_; (try clear hb)
         (try clear hb2)
         (try clear hk)
         (try clear hi)
         (try clear ho0)
         refine hK.out _ _ ⟨(blk_cell BK304.out 0).trans rfl, (blk_cell BK304.out 1).trans rfl, (blk_cell BK305.out 0).trans rfl, (blk_cell BK305.out 1).trans rfl, (blk_cell BK305.out 2).trans rfl⟩ (fun hHeld => ?_); clear hK K; refine norm_ (a' := ?_) ?_ ?_; rotate_left
         ·
          show Act.put _ (some 36) _ = _
          simp only [Act.put, sIA, sC0, sCS, i64_w, i32_w]; rfl
         refine pure_ (i := 4) (N := some 32) (v := ?_) (a' := ?_) #[true, true, true, true, true, false, false, true, false, false] rfl rfl (any_of HT_.out (by kernel_rfl)) (fun _ _ _ h => h) (Or.inl ⟨by rfl, ?_⟩) ?_ ?_; rotate_left
         · intro w'; go_simp; with_reducible rfl
         rotate_left
         · simp only [Act.put, sIA, sC0, sCS, i64_w, i32_w]; rfl
         refine pure_ (i := 5) (N := some 37) (v := ?_) (a' := ?_) #[true, true, true, true, true, true, false, true, false, false] rfl rfl (any_of HT_.out (by kernel_rfl)) (fun _ _ _ h => h) (Or.inl ⟨by rfl, ?_⟩) ?_ ?_; rotate_left
         · intro w'; go_simp; with_reducible rfl
         rotate_left
         · simp only [Act.put, sIA, sC0, sCS, i64_w, i32_w]; rfl
         refine pure_ (i := 6) (N := some 38) (v := ?_) (a' := ?_) #[true, true, true, true, true, true, true, true, false, false] rfl rfl (any_of HT_.out (by kernel_rfl)) (fun _ _ _ h => h) (Or.inl ⟨by rfl, ?_⟩) ?_ ?_; rotate_left
         · intro w'; go_simp; with_reducible rfl
         rotate_left
         · simp only [Act.put, sIA, sC0, sCS, i64_w, i32_w]; rfl
         exact norm_ (by simp only [putAll, Act.put, sIA, sC0, sCS]) (hCont (.slice Ao37 t318.length co37, v323, gb326) _ ⟨hHeld, (by (with_reducible repeat (first | apply Kd.R_alloc | apply Kd.R_drewN | apply Kd.R_drew)); exact Kd.R_mono HO312.out (fun _ hk => ⟨hk.1.2, ⟨hk.2, hk.1.1.2⟩⟩)), (by (with_reducible repeat (first | apply Kd.R_alloc | apply Kd.R_drewN | apply Kd.R_drew)); exact Kd.R_mono HO320.out (fun _ hk => ⟨hk.1.1.2, ⟨hk.2, hk.1.2⟩⟩)), (by (with_reducible repeat (first | apply Kd.R_alloc | apply Kd.R_drewN | apply Kd.R_drew)); exact Kd.R_mono HO324.out (fun _ hk => ⟨hk.1.1.2, ⟨hk.1.2, hk.2⟩⟩)), (bG BK304.out), (bG BK305.out), (bG BK326.out), GW326.out, GE326.out, NB304_326.out, NB326_304.out, NB305_326.out, NB326_305.out, (eG HB.out)⟩)
       rintro ⟨v319, v323, gb326⟩ w39 ⟨hS_, h0_, h1_, h2_, h3_, h4_, h5_, h6_, h7_, h8_, h9_, h10_, h11_, h12_⟩; have n0_ : Aside0 (Kd.R k26 26 w39 w.heap.size (fun k_ => some k_ ≠ (v319 : Value).ownBlock ∧ some k_ ≠ (v323 : Value).ownBlock ∧ k_ ≠ gb305) (.slice Ao30 t310.length co30) t310) := ⟨h0_⟩; have n1_ : Aside0 (Kd.R k26 26 w39 w.heap.size (fun k_ => some k_ ≠ (.slice Ao30 t310.length co30 : Value).ownBlock ∧ some k_ ≠ (v323 : Value).ownBlock ∧ k_ ≠ gb305) v319 t318) := ⟨h1_⟩; have n2_ : Aside0 (Kd.R k26 26 w39 w.heap.size (fun k_ => some k_ ≠ (.slice Ao30 t310.length co30 : Value).ownBlock ∧ some k_ ≠ (v319 : Value).ownBlock ∧ k_ ≠ gb305) v323 t322) := ⟨h2_⟩; have n3_ : Aside0 (w39.heap[gb304]? = some (.cells #[.int .i64 a0_0, .slice A0_1 l0_1.length c0_1] 24 (0, 0))) := ⟨h3_⟩; have n4_ : Aside0 (w39.heap[gb305]? = some (.cells #[.int .i64 a1_0, .int .i64 a1_1, .int .i64 a1_2] 26 (0, 0))) := ⟨h4_⟩; have n5_ : Aside0 (w39.heap[gb326]? = some (.cells #[.int .i64 0, .slice none 0 0] 24 (0, 0))) := ⟨h5_⟩; have n6_ : Aside0 (w.heap.size ≤ gb326) := ⟨h6_⟩; have n7_ : Aside0 (w.heap.size ≤ gb326) := ⟨h7_⟩; have n8_ : Aside0 (gb304 ≠ gb326) := ⟨h8_⟩; have n9_ : Aside0 (gb326 ≠ gb304) := ⟨h9_⟩; have n10_ : Aside0 (gb305 ≠ gb326) := ⟨h10_⟩; have n11_ : Aside0 (gb326 ≠ gb305) := ⟨h11_⟩; have n12_ : Aside0 (Below w.heap.size w w39) := ⟨h12_⟩; clear HO312; clear BK304; clear BK305; clear HB; clear h0_ h1_ h2_ h3_ h4_ h5_ h6_ h7_ h8_ h9_ h10_ h11_ h12_; have HO312 := n0_; have HO320 := n1_; have HO324 := n2_; have BK304 := n3_; have BK305 := n4_; have BK326 := n5_; have GW326 := n6_; have GE326 := n7_; have ig326_ := geI GE326
       have NB304_326 := n8_; have NB326_304 := n9_; have NB305_326 := n10_; have NB326_305 := n11_; have HB := n12_; clear n0_ n1_ n2_ n3_ n4_ n5_ n6_ n7_ n8_ n9_ n10_ n11_ n12_; have hHeld : w39.cell? ⟨gb304, 0, none⟩ = some (.int .i64 a0_0) ∧ w39.cell? ⟨gb304, 1, none⟩ = some (.slice A0_1 l0_1.length c0_1) ∧ w39.cell? ⟨gb305, 0, none⟩ = some (.int .i64 a1_0) ∧ w39.cell? ⟨gb305, 1, none⟩ = some (.int .i64 a1_1) ∧ w39.cell? ⟨gb305, 2, none⟩ = some (.int .i64 a1_2) := hS_; obtain ⟨Ao41, co41, eo41⟩ := Kd.R_slice HO324.out; (first | subst eo41 | (injection eo41 with f1_ f2_ f3_; have f4_ := f1_.symm; have f5_ := f3_.symm; clear f1_ f2_ f3_; subst f4_; subst f5_))
       refine norm_ (a' := ?_) ?_ ?_; rotate_left
       · simp only [putAll, Act.put, sIA, sC0, sCS]; rfl
       refine one_ (i := 8) (N := none) #[true, true, true, true, true, true, true, true, true, false] rfl rfl (one_of HT_.out (by kernel_rfl)) (by decide) (fun K hK => ?_); have hs40 : w39.cell? ⟨gb326, 0, none⟩ = some (.int .i64 0) := (blk_cell BK326.out 0).trans rfl; have hfs40 := blk_frozen BK326.out 0; have hns40_0 := NB304_326.out; have hns40_1 := NB305_326.out; have hms40_0 := NB326_304.out; have hms40_1 := NB326_305.out; have hs42 : w39.cell? ⟨gb326, 1, none⟩ = some (.slice none 0 0) := (blk_cell BK326.out 1).trans rfl; have hfs42 := blk_frozen BK326.out 1; have hns42_0 := NB304_326.out; have hns42_1 := NB305_326.out; have hms42_0 := NB326_304.out; have hms42_1 := NB326_305.out; refine skip_ (w1 := ?_) (by rfl) rfl ?_ ?_; rotate_left
       · go_simp; rfl
       refine hK.out _ _ ⟨((cell_far (p := ⟨gb326, _, none⟩) NB304_326.out _).trans (((cell_far (p := ⟨gb326, _, none⟩) NB304_326.out _).trans (hHeld.1)))), ((cell_far (p := ⟨gb326, _, none⟩) NB304_326.out _).trans (((cell_far (p := ⟨gb326, _, none⟩) NB304_326.out _).trans (hHeld.2.1)))), ((cell_far (p := ⟨gb326, _, none⟩) NB305_326.out _).trans (((cell_far (p := ⟨gb326, _, none⟩) NB305_326.out _).trans (hHeld.2.2.1)))), ((cell_far (p := ⟨gb326, _, none⟩) NB305_326.out _).trans (((cell_far (p := ⟨gb326, _, none⟩) NB305_326.out _).trans (hHeld.2.2.2.1)))), ((cell_far (p := ⟨gb326, _, none⟩) NB305_326.out _).trans (((cell_far (p := ⟨gb326, _, none⟩) NB305_326.out _).trans (hHeld.2.2.2.2))))⟩ (fun hHeld => ?_); clear hK K; refine pure_ (i := 9) (N := some 10) (v := ?_) (a' := ?_) #[true, true, true, true, true, true, true, true, true, true] rfl rfl (any_of HT_.out (by kernel_rfl)) (fun _ _ _ h => h) (Or.inl ⟨by rfl, ?_⟩) ?_ ?_; rotate_left
       · intro w'; go_simp; with_reducible rfl
       rotate_left
       · simp only [Act.put, sIA, sC0, sCS, i64_w, i32_w]; rfl
       refine done_ (done_of HT_.out (by kernel_rfl)) ?_; have hnb43 := NB304_326.out; have hnc43 := NB326_304.out; have hcz44_0 : w39.cell? ⟨gb304, 0, none⟩ = some (.int .i64 a0_0) := (blk_cell BK304.out 0).trans rfl; have hcz44_1 : w39.cell? ⟨gb304, 1, none⟩ = some (.slice A0_1 l0_1.length c0_1) := (blk_cell BK304.out 1).trans rfl; have hfz44_0 := blk_frozen BK304.out 0; have hfz44_1 := blk_frozen BK304.out 1; have hnb45 := NB305_326.out; have hnc45 := NB326_305.out; have hcz46_0 : w39.cell? ⟨gb305, 0, none⟩ = some (.int .i64 a1_0) := (blk_cell BK305.out 0).trans rfl; have hcz46_1 : w39.cell? ⟨gb305, 1, none⟩ = some (.int .i64 a1_1) := (blk_cell BK305.out 1).trans rfl; have hcz46_2 : w39.cell? ⟨gb305, 2, none⟩ = some (.int .i64 a1_2) := (blk_cell BK305.out 2).trans rfl; have hfz46_0 := blk_frozen BK305.out 0; have hfz46_1 := blk_frozen BK305.out 1; have hfz46_2 := blk_frozen BK305.out 2; try go_wp2_with (first | ((with_reducible refine gate_callee (f := 17) rfl ?_); refine goesL_ (some 42) rfl rfl Tryz.func17 (by kernel_rfl) rfl #[.agg #[.int .i64 a0_0, .slice A0_1 l0_1.length c0_1], .agg #[.int .i64 a1_0, .int .i64 a1_1, .int .i64 a1_2]] rfl (by (try simp only [List.map_toArray, List.map_cons, List.map_nil]); first | done | rfl | (simp only [List.length_drop, List.length_take]; rfl)) ?_; (with_reducible refine (spileref46_Insert.calls kj2 a0_0 _ _ l0_1 a1_0 a1_1 a1_2 t327 t328 t331 _ ?side1 ?side2 A22.out).mono ?_); (case side1 => exact Kd.C_below HR0_1.out (eG HB.out)); (case side2 => exact HC0_1.out); rintro e w47 ⟨v329, rfl, ho0, hb⟩; refine ⟨_, rfl, ?_⟩; have n0_ := Aside0.mk (Kd.R_elder' (by (with_reducible repeat (first | apply Kd.R_alloc | apply Kd.R_drewN | apply Kd.R_drew)); exact (Kd.R_mono (Kd.R_far (p := ⟨gb326, 1, none⟩) (Kd.R_far (p := ⟨gb326, 0, none⟩) (Kd.R_types HO312.out BK326.out (by decide)) (fun _ hk => hk.2) (.int .i64 t321)) (fun _ hk => hk.2) (.slice Ao41 t322.length co41)) (fun _ h_ => h_.1))) (Kd.R_base ho0) hb); have n1_ := Aside0.mk (Kd.R_elder' (by (with_reducible repeat (first | apply Kd.R_alloc | apply Kd.R_drewN | apply Kd.R_drew)); exact (Kd.R_mono (Kd.R_far (p := ⟨gb326, 1, none⟩) (Kd.R_far (p := ⟨gb326, 0, none⟩) (Kd.R_types HO320.out BK326.out (by decide)) (fun _ hk => hk.2) (.int .i64 t321)) (fun _ hk => hk.2) (.slice Ao41 t322.length co41)) (fun _ h_ => h_.1))) (Kd.R_base ho0) hb); have n2_ := Aside0.mk (Kd.R_elder' (by (with_reducible repeat (first | apply Kd.R_alloc | apply Kd.R_drewN | apply Kd.R_drew)); exact (Kd.R_mono (Kd.R_far (p := ⟨gb326, 1, none⟩) (Kd.R_far (p := ⟨gb326, 0, none⟩) (Kd.R_types HO324.out BK326.out (by decide)) (fun _ hk => hk.2) (.int .i64 t321)) (fun _ hk => hk.2) (.slice Ao41 t322.length co41)) (fun _ h_ => h_.1))) (Kd.R_base ho0) hb); have n3_ := Aside0.mk (Kd.R_lower (Kd.R_newB (Kd.R_new' (Kd.R_new' (Kd.R_new' ho0 (Kd.R_lt (by (with_reducible repeat (first | apply Kd.R_alloc | apply Kd.R_drewN | apply Kd.R_drew)); exact (Kd.R_mono (Kd.R_far (p := ⟨gb326, 1, none⟩) (Kd.R_far (p := ⟨gb326, 0, none⟩) (Kd.R_types HO312.out BK326.out (by decide)) (fun _ hk => hk.2) (.int .i64 t321)) (fun _ hk => hk.2) (.slice Ao41 t322.length co41)) (fun _ h_ => h_.1))))) (Kd.R_lt (by (with_reducible repeat (first | apply Kd.R_alloc | apply Kd.R_drewN | apply Kd.R_drew)); exact (Kd.R_mono (Kd.R_far (p := ⟨gb326, 1, none⟩) (Kd.R_far (p := ⟨gb326, 0, none⟩) (Kd.R_types HO320.out BK326.out (by decide)) (fun _ hk => hk.2) (.int .i64 t321)) (fun _ hk => hk.2) (.slice Ao41 t322.length co41)) (fun _ h_ => h_.1))))) (Kd.R_lt (by (with_reducible repeat (first | apply Kd.R_alloc | apply Kd.R_drewN | apply Kd.R_drew)); exact (Kd.R_mono (Kd.R_far (p := ⟨gb326, 1, none⟩) (Kd.R_far (p := ⟨gb326, 0, none⟩) (Kd.R_types HO324.out BK326.out (by decide)) (fun _ hk => hk.2) (.int .i64 t321)) (fun _ hk => hk.2) (.slice Ao41 t322.length co41)) (fun _ h_ => h_.1))))) (g := gb305) (o := .cells #[.int .i64 a1_0, .int .i64 a1_1, .int .i64 a1_2] 26 (0, 0)) (by (with_reducible repeat first | apply bN | apply bD | apply bA); refine blk_far ?_ NB305_326.out _; (with_reducible repeat first | apply bN | apply bD | apply bA); refine blk_far ?_ NB305_326.out _; (with_reducible repeat first | apply bN | apply bD | apply bA); exact BK305.out)) (below_size (eG HB.out))); have n4_ := Aside0.mk (blk_below (g := gb304) (o := .cells #[.int .i64 a0_0, .slice A0_1 l0_1.length c0_1] 24 (0, 0)) (by (with_reducible repeat first | apply bN | apply bD | apply bA); refine blk_far ?_ NB304_326.out _; (with_reducible repeat first | apply bN | apply bD | apply bA); refine blk_far ?_ NB304_326.out _; (with_reducible repeat first | apply bN | apply bD | apply bA); exact BK304.out) hb); have n5_ := Aside0.mk (blk_below (g := gb305) (o := .cells #[.int .i64 a1_0, .int .i64 a1_1, .int .i64 a1_2] 26 (0, 0)) (by (with_reducible repeat first | apply bN | apply bD | apply bA); refine blk_far ?_ NB305_326.out _; (with_reducible repeat first | apply bN | apply bD | apply bA); refine blk_far ?_ NB305_326.out _; (with_reducible repeat first | apply bN | apply bD | apply bA); exact BK305.out) hb); have n6_ := Aside0.mk (blk_below (g := gb326) (o := .cells #[.int .i64 t321, .slice Ao41 t322.length co41] 24 (0, 0)) (by (with_reducible repeat first | apply bN | apply bD | apply bA); refine blk_put (cs := #[.int .i64 t321, .slice none 0 0]) ?_ 1 _ rfl; (with_reducible repeat first | apply bN | apply bD | apply bA); refine blk_put (cs := #[.int .i64 0, .slice none 0 0]) ?_ 0 _ rfl; (with_reducible repeat first | apply bN | apply bD | apply bA); exact BK326.out) hb); have n7_ := Aside0.mk (below_step (eG HB.out) hb); clear HO312; clear HO320; clear HO324; clear BK304; clear BK305; clear BK326; clear HB; have HO312 := n0_; have HO320 := n1_; have HO324 := n2_; have HO330 := n3_; have BK304 := n4_; have BK305 := n5_; have BK326 := n6_; have HB := n7_; clear n0_ n1_ n2_ n3_ n4_ n5_ n6_ n7_; (try clear hb); (try clear hb2); (try clear hk); (try clear hi); (try clear ho0)) | ((with_reducible refine gate_dst (N := 11) rfl ?_); refine box_event ?hg (N := 11) ?hd (cs := #[.int .i64 0, .slice none 0 0]) (t := 24) ?hr ?_; (case hd => rfl); (case hg => rfl); (case hr => first | (go_simp; done) | (go_simp; rfl)); intro gb332 hg w48 hbox hb; have n0_ := Aside0.mk (Kd.R_below (rG HO312.out) hb); have n1_ := Aside0.mk (Kd.R_below (rG HO320.out) hb); have n2_ := Aside0.mk (Kd.R_below (rG HO324.out) hb); have n3_ := Aside0.mk (Kd.R_below (rG HO330.out) hb); have n4_ := Aside0.mk (blk_below (bG BK304.out) hb); have n5_ := Aside0.mk (blk_below (bG BK305.out) hb); have n6_ := Aside0.mk (blk_below (bG BK326.out) hb); have n7_ := Aside0.mk (below_step (eG HB.out) hb); have n8_ := Aside0.mk (hbox); have n9_ := Aside0.mk ((by rw [hg]; exact (below_size (eG HB.out)) : w.heap.size ≤ gb332)); have n10_ := Aside0.mk ((by rw [hg]; exact (below_size (eG HB.out)) : w.heap.size ≤ gb332)); have n11_ := Aside0.mk ((by rw [hg]; exact Nat.ne_of_lt (blk_lt (bG BK304.out)) : gb304 ≠ gb332)); have n12_ := Aside0.mk ((by rw [hg]; exact Nat.ne_of_gt (blk_lt (bG BK304.out)) : gb332 ≠ gb304)); have n13_ := Aside0.mk ((by rw [hg]; exact Nat.ne_of_lt (blk_lt (bG BK305.out)) : gb305 ≠ gb332)); have n14_ := Aside0.mk ((by rw [hg]; exact Nat.ne_of_gt (blk_lt (bG BK305.out)) : gb332 ≠ gb305)); have n15_ := Aside0.mk ((by rw [hg]; exact Nat.ne_of_lt (blk_lt (bG BK326.out)) : gb326 ≠ gb332)); have n16_ := Aside0.mk ((by rw [hg]; exact Nat.ne_of_gt (blk_lt (bG BK326.out)) : gb332 ≠ gb326)); clear HO312; clear HO320; clear HO324; clear HO330; clear BK304; clear BK305; clear BK326; clear HB; have HO312 := n0_; have HO320 := n1_; have HO324 := n2_; have HO330 := n3_; have BK304 := n4_; have BK305 := n5_; have BK326 := n6_; have HB := n7_; have BK332 := n8_; have GW332 := n9_; have GE332 := n10_; have ig332_ := geI GE332; have NB304_332 := n11_; have NB332_304 := n12_; have NB305_332 := n13_; have NB332_305 := n14_; have NB326_332 := n15_; have NB332_326 := n16_; clear n0_ n1_ n2_ n3_ n4_ n5_ n6_ n7_ n8_ n9_ n10_ n11_ n12_ n13_ n14_ n15_ n16_; clear hb hbox hg; have hnb49 := NB332_304.out; have hnc49 := NB304_332.out; have hnb50 := NB332_305.out; have hnc50 := NB305_332.out; have hnb51 := NB332_326.out; have hnc51 := NB326_332.out; have hcz52_0 : w48.cell? ⟨gb332, 0, none⟩ = some (.int .i64 0) := (blk_cell BK332.out 0).trans rfl; have hcz52_1 : w48.cell? ⟨gb332, 1, none⟩ = some (.slice none 0 0) := (blk_cell BK332.out 1).trans rfl; have hfz52_0 := blk_frozen BK332.out 0; have hfz52_1 := blk_frozen BK332.out 1; obtain ⟨Ao53, co53, eo53⟩ := Kd.R_slice HO330.out; subst eo53; have hcz54_0 : w48.cell? ⟨gb326, 0, none⟩ = some (.int .i64 t321) := (blk_cell BK326.out 0).trans rfl; have hcz54_1 : w48.cell? ⟨gb326, 1, none⟩ = some (.slice Ao41 t322.length co41) := (blk_cell BK326.out 1).trans rfl; have hfz54_0 := blk_frozen BK326.out 0; have hfz54_1 := blk_frozen BK326.out 1) | (go_at_call 18; (with_reducible refine (spileref46_Same.calls kj2 t321 _ _ t322 t327 _ _ t328 true _ ?side1 ?side2 ?side3 ?side4 A25.out).mono ?_); (case side1 => refine (Kd.R_reads' (e := 26) (base := w.heap.size) (ok := fun k_ => ((some k_ ≠ (.slice Ao30 t310.length co30 : Value).ownBlock ∧ (some k_ ≠ (v319 : Value).ownBlock ∧ k_ ≠ gb305)) ∧ some k_ ≠ (.slice Ao53 t328.length co53 : Value).ownBlock)) (n := t322.length) (c := co41) ?_).2.2; exact (by (with_reducible repeat (first | apply Kd.R_alloc | apply Kd.R_drewN | apply Kd.R_drew)); exact (Kd.R_mono (Kd.R_far (p := ⟨gb332, 1, none⟩) (Kd.R_far (p := ⟨gb332, 0, none⟩) (Kd.R_types HO324.out BK332.out (by decide)) (fun _ hk => hk.2) (.int .i64 t327)) (fun _ hk => hk.2) (.slice Ao53 t328.length co53)) (fun _ h_ => h_.1)))); (case side2 => exact (Kd.R_reads' HO324.out).2.1); (case side3 => refine (Kd.R_reads' (e := 26) (base := w.heap.size) (ok := fun k_ => ((((True ∧ some k_ ≠ (.slice Ao30 t310.length co30 : Value).ownBlock) ∧ some k_ ≠ (v319 : Value).ownBlock) ∧ some k_ ≠ (.slice Ao41 t322.length co41 : Value).ownBlock) ∧ k_ ≠ gb305)) (n := t328.length) (c := co53) ?_).2.2; exact (by (with_reducible repeat (first | apply Kd.R_alloc | apply Kd.R_drewN | apply Kd.R_drew)); exact (Kd.R_mono (Kd.R_far (p := ⟨gb332, 1, none⟩) (Kd.R_far (p := ⟨gb332, 0, none⟩) (Kd.R_types HO330.out BK332.out (by decide)) (fun _ hk => hk.2) (.int .i64 t327)) (fun _ hk => hk.2) (.slice Ao53 t328.length co53)) (fun _ h_ => h_.1)))); (case side4 => exact (Kd.R_reads' HO330.out).2.1); rintro e w55 ⟨rfl, hb⟩; have n0_ := Aside0.mk (Kd.R_below (by (with_reducible repeat (first | apply Kd.R_alloc | apply Kd.R_drewN | apply Kd.R_drew)); exact (Kd.R_mono (Kd.R_far (p := ⟨gb332, 1, none⟩) (Kd.R_far (p := ⟨gb332, 0, none⟩) (Kd.R_types HO312.out BK332.out (by decide)) (fun _ hk => hk.2) (.int .i64 t327)) (fun _ hk => hk.2) (.slice Ao53 t328.length co53)) (fun _ h_ => h_.1))) hb); have n1_ := Aside0.mk (Kd.R_below (by (with_reducible repeat (first | apply Kd.R_alloc | apply Kd.R_drewN | apply Kd.R_drew)); exact (Kd.R_mono (Kd.R_far (p := ⟨gb332, 1, none⟩) (Kd.R_far (p := ⟨gb332, 0, none⟩) (Kd.R_types HO320.out BK332.out (by decide)) (fun _ hk => hk.2) (.int .i64 t327)) (fun _ hk => hk.2) (.slice Ao53 t328.length co53)) (fun _ h_ => h_.1))) hb); have n2_ := Aside0.mk (Kd.R_below (by (with_reducible repeat (first | apply Kd.R_alloc | apply Kd.R_drewN | apply Kd.R_drew)); exact (Kd.R_mono (Kd.R_far (p := ⟨gb332, 1, none⟩) (Kd.R_far (p := ⟨gb332, 0, none⟩) (Kd.R_types HO324.out BK332.out (by decide)) (fun _ hk => hk.2) (.int .i64 t327)) (fun _ hk => hk.2) (.slice Ao53 t328.length co53)) (fun _ h_ => h_.1))) hb); have n3_ := Aside0.mk (Kd.R_below (by (with_reducible repeat (first | apply Kd.R_alloc | apply Kd.R_drewN | apply Kd.R_drew)); exact (Kd.R_mono (Kd.R_far (p := ⟨gb332, 1, none⟩) (Kd.R_far (p := ⟨gb332, 0, none⟩) (Kd.R_types HO330.out BK332.out (by decide)) (fun _ hk => hk.2) (.int .i64 t327)) (fun _ hk => hk.2) (.slice Ao53 t328.length co53)) (fun _ h_ => h_.1))) hb); have n4_ := Aside0.mk (blk_below (g := gb304) (o := .cells #[.int .i64 a0_0, .slice A0_1 l0_1.length c0_1] 24 (0, 0)) (by (with_reducible repeat first | apply bN | apply bD | apply bA); refine blk_far ?_ NB304_332.out _; (with_reducible repeat first | apply bN | apply bD | apply bA); refine blk_far ?_ NB304_332.out _; (with_reducible repeat first | apply bN | apply bD | apply bA); exact BK304.out) hb); have n5_ := Aside0.mk (blk_below (g := gb305) (o := .cells #[.int .i64 a1_0, .int .i64 a1_1, .int .i64 a1_2] 26 (0, 0)) (by (with_reducible repeat first | apply bN | apply bD | apply bA); refine blk_far ?_ NB305_332.out _; (with_reducible repeat first | apply bN | apply bD | apply bA); refine blk_far ?_ NB305_332.out _; (with_reducible repeat first | apply bN | apply bD | apply bA); exact BK305.out) hb); have n6_ := Aside0.mk (blk_below (g := gb326) (o := .cells #[.int .i64 t321, .slice Ao41 t322.length co41] 24 (0, 0)) (by (with_reducible repeat first | apply bN | apply bD | apply bA); refine blk_far ?_ NB326_332.out _; (with_reducible repeat first | apply bN | apply bD | apply bA); refine blk_far ?_ NB326_332.out _; (with_reducible repeat first | apply bN | apply bD | apply bA); exact BK326.out) hb); have n7_ := Aside0.mk (blk_below (g := gb332) (o := .cells #[.int .i64 t327, .slice Ao53 t328.length co53] 24 (0, 0)) (by (with_reducible repeat first | apply bN | apply bD | apply bA); refine blk_put (cs := #[.int .i64 t327, .slice none 0 0]) ?_ 1 _ rfl; (with_reducible repeat first | apply bN | apply bD | apply bA); refine blk_put (cs := #[.int .i64 0, .slice none 0 0]) ?_ 0 _ rfl; (with_reducible repeat first | apply bN | apply bD | apply bA); exact BK332.out) hb); have n8_ := Aside0.mk (below_step (eG HB.out) hb); clear HO312; clear HO320; clear HO324; clear HO330; clear BK304; clear BK305; clear BK326; clear BK332; clear HB; have HO312 := n0_; have HO320 := n1_; have HO324 := n2_; have HO330 := n3_; have BK304 := n4_; have BK305 := n5_; have BK326 := n6_; have BK332 := n7_; have HB := n8_; clear n0_ n1_ n2_ n3_ n4_ n5_ n6_ n7_ n8_; (try clear hb); (try clear hb2); (try clear hk); (try clear hi)))
       go_ret
       exact ⟨by first | rfl | (simp [errW_none, errW_some] <;> rfl) | (simp [*, errW_none, errW_some] <;> rfl), eG HB.out⟩
      ·
       replace c26 := Bool.eq_false_iff.mpr c26; subst c26; replace H : (some false) = some r := by rw [if_neg (show ¬ (false = true) by decide)] at H; exact H
       subst hr_; exact absurd H (by simp)
     · rw [if_neg c24] at H; have c24b0 : (t314 == t316) = false := beq_eq_false_iff_ne.mpr c24; have c24b1 : (t314 != t316) = true := bne_iff_ne.mpr c24; subst hr_; exact absurd H (by simp)
    · rw [if_neg c23] at H; have c23b0 : (t313 == t315) = false := beq_eq_false_iff_ne.mpr c23; have c23b1 : (t313 != t315) = true := bne_iff_ne.mpr c23; subst hr_; exact absurd H (by simp)
end Go.Proofs.YtholbmidciapdaaGreatDoor.Pr
namespace Go.Proofs.YtholbmidciapdaaGreatDoor.Pr
open Go.RowKit Go.Proofs.YtholbmidciapdaaGreatDoorW.PrintWords Go.Proofs.YtholbmidciapdaaGreatDoorW.PrintLast Go.Proofs.YtholbmidciapdaaGreatDoorW.PrintMore Go.Proofs.YtholbmidciapdaaGreatDoor.X
attribute [local go_sem] max2_int min2_int max_two min_two max_three min_three max_four min_four   -- for this text's walks alone
set_option linter.unusedVariables false
set_option linter.unusedSimpArgs false
def bits_Mul64.f (a0 : Int) (a1 : Int) : Option (Int × Int) := some (IntKind.u64.wrap ((IntKind.u64.wrap ((IntKind.u64.wrap ((a0 / 4294967296) * (a1 / 4294967296))) + ((IntKind.u64.wrap ((IntKind.u64.wrap ((a0 / 4294967296) * (Go.bits .and .u64 a1 4294967295))) + ((IntKind.u64.wrap ((Go.bits .and .u64 a0 4294967295) * (Go.bits .and .u64 a1 4294967295))) / 4294967296))) / 4294967296))) + ((IntKind.u64.wrap ((Go.bits .and .u64 (IntKind.u64.wrap ((IntKind.u64.wrap ((a0 / 4294967296) * (Go.bits .and .u64 a1 4294967295))) + ((IntKind.u64.wrap ((Go.bits .and .u64 a0 4294967295) * (Go.bits .and .u64 a1 4294967295))) / 4294967296))) 4294967295) + (IntKind.u64.wrap ((Go.bits .and .u64 a0 4294967295) * (a1 / 4294967296))))) / 4294967296)), IntKind.u64.wrap (a0 * a1))
end Go.Proofs.YtholbmidciapdaaGreatDoor.Pr
namespace Go.Proofs.YtholbmidciapdaaGreatDoor.Opn
open Go Go.RowKit Go.Proofs.YtholbmidciapdaaGreatDoorW.PrintWords Go.Proofs.YtholbmidciapdaaGreatDoor.O Go.Proofs.YtholbmidciapdaaGreatDoor.Pr
theorem opens3 : Opens Tryz.prog 3 (Kd.int .i64) (fun x => (Lit.int .i64 x).wf = true) := opens_int Tryz.underlying3 (by kernel_rfl)
def ok26 (x : S26) : Prop := (Lit.int .i64 x.f0).wf = true ∧ (Lit.int .i64 x.f1).wf = true ∧ (Lit.int .i64 x.f2).wf = true
theorem opens26 : Opens Tryz.prog 26 k26 ok26 :=
  ⟨by kernel_rfl, fun H enc w base sp held fuel cs x h => by
    obtain ⟨xs, n, _, _, hl, hx, hf⟩ := DataW.trod_struct Tryz.underlying26 h
    have hc_ : Tryz.prog.cellsOf 26 = 3 := by kernel_rfl
    rw [hc_] at hl
    obtain ⟨c0, c1, c2, rfl⟩ : ∃ c0 c1 c2, cs = [c0, c1, c2] := by
      clear h hf hx
      rcases cs with _ | ⟨c0, _ | ⟨c1, _ | ⟨c2, _ | ⟨_, _⟩⟩⟩⟩
      all_goals first | exact ⟨_, _, _, rfl⟩ | (simp at hl)
    obtain ⟨y0, hy0⟩ : ∃ y, xs[0]? = some y := ⟨xs[0]'(by rw [hx]; decide), List.getElem?_eq_getElem _⟩
    have e0 : DataW.trod enc Tryz.prog w base sp held n 3 ((List.drop 0 [c0, c1, c2]).take (Tryz.prog.cellsOf 3)) = xs[0]? := hf 0 _ rfl
    rw [hy0, show Tryz.prog.cellsOf 3 = 1 from by kernel_rfl] at e0
    obtain ⟨v0, K0, o0⟩ := opens3.2 H enc w base sp held n _ _ e0
    replace K0 : (Kd.int .i64).K w v0 [c0] := K0
    obtain ⟨y1, hy1⟩ : ∃ y, xs[1]? = some y := ⟨xs[1]'(by rw [hx]; decide), List.getElem?_eq_getElem _⟩
    have e1 : DataW.trod enc Tryz.prog w base sp held n 3 ((List.drop 1 [c0, c1, c2]).take (Tryz.prog.cellsOf 3)) = xs[1]? := hf 1 _ rfl
    rw [hy1, show Tryz.prog.cellsOf 3 = 1 from by kernel_rfl] at e1
    obtain ⟨v1, K1, o1⟩ := opens3.2 H enc w base sp held n _ _ e1
    replace K1 : (Kd.int .i64).K w v1 [c1] := K1
    obtain ⟨y2, hy2⟩ : ∃ y, xs[2]? = some y := ⟨xs[2]'(by rw [hx]; decide), List.getElem?_eq_getElem _⟩
    have e2 : DataW.trod enc Tryz.prog w base sp held n 3 ((List.drop 2 [c0, c1, c2]).take (Tryz.prog.cellsOf 3)) = xs[2]? := hf 2 _ rfl
    rw [hy2, show Tryz.prog.cellsOf 3 = 1 from by kernel_rfl] at e2
    obtain ⟨v2, K2, o2⟩ := opens3.2 H enc w base sp held n _ _ e2
    replace K2 : (Kd.int .i64).K w v2 [c2] := K2
    obtain rfl : c0 = _ := List.singleton_inj.1 K0
    obtain rfl : c1 = _ := List.singleton_inj.1 K1
    obtain rfl : c2 = _ := List.singleton_inj.1 K2
    refine ⟨⟨v0, v1, v2⟩, ?_, o0, o1, o2⟩
    exact k26_mk w ⟨v0, v1, v2⟩ ⟩
theorem opens22 : Opens Tryz.prog 22 (Kd.slice 26 k26) (fun x => (x.length ≤ maxLen ∧ ∀ x0_, x0_ ∈ x → ok26 x0_)) := opens_slice (P := Tryz.prog) (t := 22) (e := 26) Tryz.underlying22 (by kernel_rfl) opens26
def ok24 (x : S24) : Prop := (Lit.int .i64 x.f0).wf = true ∧ (x.f1.length ≤ maxLen ∧ ∀ x0_, x0_ ∈ x.f1 → ok26 x0_)
theorem opens24 : Opens Tryz.prog 24 k24 ok24 :=
  ⟨by kernel_rfl, fun H enc w base sp held fuel cs x h => by
    obtain ⟨xs, n, _, _, hl, hx, hf⟩ := DataW.trod_struct Tryz.underlying24 h
    have hc_ : Tryz.prog.cellsOf 24 = 2 := by kernel_rfl
    rw [hc_] at hl
    obtain ⟨c0, c1, rfl⟩ : ∃ c0 c1, cs = [c0, c1] := by
      clear h hf hx
      rcases cs with _ | ⟨c0, _ | ⟨c1, _ | ⟨_, _⟩⟩⟩
      all_goals first | exact ⟨_, _, rfl⟩ | (simp at hl)
    obtain ⟨y0, hy0⟩ : ∃ y, xs[0]? = some y := ⟨xs[0]'(by rw [hx]; decide), List.getElem?_eq_getElem _⟩
    have e0 : DataW.trod enc Tryz.prog w base sp held n 3 ((List.drop 0 [c0, c1]).take (Tryz.prog.cellsOf 3)) = xs[0]? := hf 0 _ rfl
    rw [hy0, show Tryz.prog.cellsOf 3 = 1 from by kernel_rfl] at e0
    obtain ⟨v0, K0, o0⟩ := opens3.2 H enc w base sp held n _ _ e0
    replace K0 : (Kd.int .i64).K w v0 [c0] := K0
    obtain ⟨y1, hy1⟩ : ∃ y, xs[1]? = some y := ⟨xs[1]'(by rw [hx]; decide), List.getElem?_eq_getElem _⟩
    have e1 : DataW.trod enc Tryz.prog w base sp held n 22 ((List.drop 1 [c0, c1]).take (Tryz.prog.cellsOf 22)) = xs[1]? := hf 1 _ rfl
    rw [hy1, show Tryz.prog.cellsOf 22 = 1 from by kernel_rfl] at e1
    obtain ⟨v1, K1, o1⟩ := opens22.2 H enc w base sp held n _ _ e1
    replace K1 : (Kd.slice 26 k26).K w v1 [c1] := K1
    obtain rfl : c0 = _ := List.singleton_inj.1 K0
    obtain ⟨A1, q1, w1, m1, g1⟩ := K1
    obtain rfl : c1 = _ := List.singleton_inj.1 w1
    refine ⟨⟨v0, v1⟩, ?_, o0, o1⟩
    exact k24_mk w ⟨v0, v1⟩ m1 g1⟩
end Go.Proofs.YtholbmidciapdaaGreatDoor.Opn
namespace Go.Proofs.YtholbmidciapdaaGreatDoor.Pure
open Go Go.RowKit Go.Proofs.YtholbmidciapdaaGreatDoor.Pr Go.Proofs.YtholbmidciapdaaGreatDoor.Opn
def tariffChecksPure : Prop := ∀ (a0_0 : Int) (l0_1 : (List S26)) (a1_0 : Int) (a1_1 : Int) (a1_2 : Int), (Lit.int .i64 a0_0).wf = true → (l0_1.length ≤ maxLen ∧ ∀ x0_, x0_ ∈ l0_1 → ok26 x0_) → (Lit.int .i64 a1_0).wf = true → (Lit.int .i64 a1_1).wf = true → (Lit.int .i64 a1_2).wf = true → ∃ k, spilelaw46_TariffChecks.f k a0_0 l0_1 a1_0 a1_1 a1_2 = some true
end Go.Proofs.YtholbmidciapdaaGreatDoor.Pure
namespace Go.Proofs.YtholbmidciapdaaGreatDoor.PL
open Go Go.RowKit Go.Proofs.YtholbmidciapdaaGreatDoorW.PrintWords Go.Proofs.YtholbmidciapdaaGreatDoorW.PrintLast Go.Proofs.YtholbmidciapdaaGreatDoorW.PrintMore
theorem evp {α : Type} {c : Prop} [Decidable c] {g h : Nat → Option α} {r : α} (hc : c) (k : Ev g r) : Ev (fun n => if c then g n else h n) r :=
  Ev.congr (fun n => if_pos hc) k
theorem evn {α : Type} {c : Prop} [Decidable c] {g h : Nat → Option α} {r : α} (hc : ¬ c) (k : Ev h r) : Ev (fun n => if c then g n else h n) r :=
  Ev.congr (fun n => if_neg hc) k
theorem evb {α β : Type} {g : Nat → Option α} {f : Nat → α → Option β} {a : α} {r : β} (h : Ev g a) (k : Ev (fun n => f n a) r) : Ev (fun n => (g n).bind (f n)) r := Ev.bind h k
theorem evr {α : Type} {a r : α} (h : a = r) : Ev (fun _ => some a) r := by subst h; exact Ev.now _
theorem evc {α : Type} {g : Nat → Option α} {r : α} {o : Option α} (hg : ∀ n, g n = o) (h : o = some r) : Ev g r := by
  subst h
  exact Ev.congr hg (Ev.now _)
/-- A loop that counts upwards to n. -/
theorem count_up (a n : Int) (P : Int → Prop) (hend : P n) (hround : ∀ i, a ≤ i → i < n → P (i + 1) → P i) : ∀ i, a ≤ i → i ≤ n → P i := by
  intro i h0 h1
  obtain ⟨d, hd⟩ : ∃ d : Nat, n - i = d := ⟨(n - i).toNat, by omega⟩
  induction d generalizing i with
  | zero =>
    obtain rfl : i = n := by omega
    exact hend
  | succ d ih => exact hround i h0 (by omega) (ih (i + 1) (by omega) (by omega) (by omega))
theorem w64 {x : Int} (h0 : -9223372036854775808 ≤ x) (h1 : x ≤ 9223372036854775807) : wrap64 x = x := by
  unfold wrap64
  omega
theorem w64_succ {i n : Int} (h0 : 0 ≤ i) (h : i < n) (hn : n ≤ 9223372036854775807) : wrap64 (i + 1) = i + 1 := w64 (by omega) (by omega)
theorem w64_pred {i n : Int} (h0 : 0 ≤ i) (h : i ≤ n) (hn : n ≤ 9223372036854775807) : wrap64 (i - 1) = i - 1 := w64 (by omega) (by omega)
/-- A test that comes to true where P holds, and else to false. -/
def EvB (g : Nat → Option Bool) (P : Prop) : Prop := (P → Ev g true) ∧ (¬ P → Ev g false)
theorem EvB.map {g : Nat → Option Bool} {f : Nat → Bool → Option Bool} {P Q : Prop} (h : EvB g P) (ht : P → EvB (fun n => f n true) Q) (hf : ¬ P → EvB (fun n => f n false) Q) : EvB (fun n => (g n).bind (f n)) Q := by
  by_cases hp : P
  · exact ⟨fun q => Ev.bind (h.1 hp) ((ht hp).1 q), fun q => Ev.bind (h.1 hp) ((ht hp).2 q)⟩
  · exact ⟨fun q => Ev.bind (h.2 hp) ((hf hp).1 q), fun q => Ev.bind (h.2 hp) ((hf hp).2 q)⟩
theorem u64w {x : Int} (h0 : 0 ≤ x) (h1 : x ≤ 9223372036854775807) : IntKind.u64.wrap x = x := by
  unfold IntKind.wrap
  simp [IntKind.signed, IntKind.bits]
  omega
theorem half {i j : Int} (h0 : 0 ≤ i) (h1 : i < j) (h2 : j ≤ 4611686018427387904) : wrap64 ((IntKind.u64.wrap (wrap64 (i + j))) / 2) = (i + j) / 2 := by
  rw [w64 (x := i + j) (by omega) (by omega), u64w (by omega) (by omega), w64 (by omega) (by omega)]
end Go.Proofs.YtholbmidciapdaaGreatDoor.PL
namespace Go.Proofs.YtholbmidciapdaaGreatDoor.PL
open Go Go.RowKit Go.Proofs.YtholbmidciapdaaGreatDoorW.PrintWords Go.Proofs.YtholbmidciapdaaGreatDoorW.PrintLast Go.Proofs.YtholbmidciapdaaGreatDoorW.PrintMore Go.Proofs.YtholbmidciapdaaGreatDoor.Pr
def Lt26 (a b : S26) : Prop := a.f0 < b.f0 ∨ (a.f0 = b.f0 ∧ a.f1 < b.f1)
instance (a b : S26) : Decidable (Lt26 a b) := by unfold Lt26; infer_instance
def Key26 (a b : S26) : Prop := a.f0 = b.f0 ∧ a.f1 = b.f1
instance (a b : S26) : Decidable (Key26 a b) := by unfold Key26; infer_instance
def Hit (c d : Int) (x : S26) : Prop := x.f0 = c ∧ x.f1 ≤ d
instance (c d : Int) (x : S26) : Decidable (Hit c d x) := by unfold Hit; infer_instance
abbrev Srt (l : List S26) : Prop := l.Pairwise Lt26
/-- The greatest one of some days: behind lo, or from lo on. -/
def Mst (strict : Bool) (c lo hi : Int) (s : S26 × Bool) (x : S26) : Prop := x.f0 = c ∧ (if strict = true then lo < x.f1 else lo ≤ x.f1) ∧ x.f1 ≤ hi ∧ (s.2 = false ∨ s.1.f2 < x.f2)
instance (b : Bool) (c lo hi : Int) (s : S26 × Bool) (x : S26) : Decidable (Mst b c lo hi s x) := by unfold Mst; infer_instance
/-- The tariff with one more rate. -/
def ins (r : S26) : List S26 → List S26
  | [] => [r]
  | x :: t => if Lt26 x r then x :: ins r t else if Key26 x r then r :: t else r :: x :: t
theorem ins_cons (r x : S26) (t : List S26) : ins r (x :: t) = if Lt26 x r then x :: ins r t else if Key26 x r then r :: t else r :: x :: t := rfl
theorem lt_trans26 {a b c : S26} (h1 : Lt26 a b) (h2 : Lt26 b c) : Lt26 a c := by unfold Lt26 at *; omega
/-- Where a rate goes. -/
theorem ins_at (r : S26) : ∀ (l : List S26) (n : Nat), n ≤ l.length → (∀ x, x ∈ l.take n → Lt26 x r) → (∀ x, x ∈ l.drop n → ¬ Lt26 x r) →
    ins r l = l.take n ++ r :: (match l.drop n with
      | [] => []
      | x :: t => if Key26 x r then t else x :: t)
  | l, 0, _, _, h => by
    cases l with
    | nil => rfl
    | cons x t =>
      rw [ins_cons, if_neg (h x (by simp))]
      show (if Key26 x r then r :: t else r :: x :: t) = r :: (if Key26 x r then t else x :: t)
      by_cases c : Key26 x r
      · rw [if_pos c, if_pos c]
      · rw [if_neg c, if_neg c]
  | [], n + 1, hn, _, _ => by simp at hn
  | x :: t, n + 1, hn, h1, h2 => by
    rw [ins_cons, if_pos (h1 x (by simp)), ins_at r t n (by simpa using hn) (fun y hy => h1 y (by simp [hy])) (fun y hy => h2 y (by simpa using hy))]
    simp
end Go.Proofs.YtholbmidciapdaaGreatDoor.PL
namespace Go.Proofs.YtholbmidciapdaaGreatDoor.PL
open Go Go.RowKit Go.Proofs.YtholbmidciapdaaGreatDoorW.PrintWords Go.Proofs.YtholbmidciapdaaGreatDoorW.PrintLast Go.Proofs.YtholbmidciapdaaGreatDoorW.PrintMore Go.Proofs.YtholbmidciapdaaGreatDoor.Pr Go.Proofs.YtholbmidciapdaaGreatDoor.X
theorem within_eq (a b c : Int) : tariff_within.f a b c = some (decide (b ≤ a ∧ a ≤ c)) := by
  unfold tariff_within.f
  by_cases h : a ≥ b
  · rw [if_pos h]; exact congrArg some (decide_eq_decide.2 ⟨fun q => ⟨h, q⟩, fun q => q.2⟩)
  · rw [if_neg h, decide_eq_false (fun q => h q.1)]
def Rng (x : S26) : Prop := (1 ≤ x.f0 ∧ x.f0 ≤ 9) ∧ (0 ≤ x.f1 ∧ x.f1 ≤ 100000) ∧ 0 ≤ x.f2 ∧ x.f2 ≤ 1000000
instance (x : S26) : Decidable (Rng x) := by unfold Rng; infer_instance
theorem ranged_eq (a b c : Int) : tariff_ranged.f a b c = some (decide (Rng ⟨a, b, c⟩)) := by
  unfold tariff_ranged.f
  simp only [within_eq, Option.bind_some]
  by_cases h1 : 1 ≤ a ∧ a ≤ 9
  · rw [if_pos (decide_eq_true h1)]
    by_cases h2 : 0 ≤ b ∧ b ≤ 100000
    · rw [if_pos (decide_eq_true h2)]
      exact congrArg some (decide_eq_decide.2 ⟨fun q => ⟨h1, h2, q⟩, fun q => q.2.2⟩)
    · rw [if_neg (by simpa using h2), decide_eq_false (fun q : Rng ⟨a, b, c⟩ => h2 q.2.1)]
  · rw [if_neg (by simpa using h1), decide_eq_false (fun q : Rng ⟨a, b, c⟩ => h1 q.1)]
theorem refright_eq (a b c : Int) : spileref46_right.f a b c = some (decide (Rng ⟨a, b, c⟩)) := by
  unfold spileref46_right.f
  by_cases h1 : a ≥ 1
  case neg => rw [if_neg h1, decide_eq_false (fun q : Rng ⟨a, b, c⟩ => h1 q.1.1)]
  rw [if_pos h1]
  by_cases h2 : a ≤ 9
  case neg => rw [if_neg h2, decide_eq_false (fun q : Rng ⟨a, b, c⟩ => h2 q.1.2)]
  rw [if_pos h2]
  by_cases h3 : b ≥ 0
  case neg => rw [if_neg h3, decide_eq_false (fun q : Rng ⟨a, b, c⟩ => h3 q.2.1.1)]
  rw [if_pos h3]
  by_cases h4 : b ≤ 100000
  case neg => rw [if_neg h4, decide_eq_false (fun q : Rng ⟨a, b, c⟩ => h4 q.2.1.2)]
  rw [if_pos h4]
  by_cases h5 : c ≥ 0
  case neg => rw [if_neg h5, decide_eq_false (fun q : Rng ⟨a, b, c⟩ => h5 q.2.2.1)]
  rw [if_pos h5]
  exact congrArg some (decide_eq_decide.2 ⟨fun q => ⟨⟨h1, h2⟩, ⟨h3, h4⟩, h5, q⟩, fun q => q.2.2.2⟩)
def cmpv (a b : Int) : Int := if a < b then -1 else if a > b then 1 else 0
theorem cmp_eq (a b : Int) : cmp_Compare_int.f a b = some (cmpv a b) := by
  unfold cmp_Compare_int.f cmp_isNaN_int.f cmpv
  simp only [bne_self_eq_false, Option.bind_some, Bool.false_eq_true, if_false]
  split
  · rfl
  · split <;> rfl
theorem or_ev (x y : Int) : Ev (fun k => cmp_Or_int.f k [x, y]) (if x = 0 then y else x) := by
  refine Ev.step (fun k => cmp_Or_int.l0.eq_2 ..) (evp (by simp) (evp (by omega) (evp (by simp) ?_)))
  rw [show rd [x, y] 0 = x from rfl, show wrap64 (0 + 1) = 1 from by unfold wrap64; omega]
  by_cases c : x = 0
  · rw [if_pos c]
    refine evp c (Ev.step (fun k => cmp_Or_int.l0.eq_2 ..) (evp (by simp) (evp (by omega) (evp (by simp) ?_))))
    rw [show rd [x, y] 1 = y from rfl, show wrap64 (1 + 1) = 2 from by unfold wrap64; omega]
    by_cases d : y = 0
    · refine evp d (Ev.step (fun k => cmp_Or_int.l0.eq_2 ..) (evn (by simp) (evr d.symm)))
    · exact evn d (Ev.now _)
  · rw [if_neg c]; exact evn c (Ev.now _)
theorem compare_ev (a b : S26) : ∃ v, Ev (fun k => tariff_compare.f k a.f0 a.f1 a.f2 b.f0 b.f1 b.f2) v ∧ (v < 0 ↔ Lt26 a b) ∧ (v = 0 ↔ Key26 a b) := by
  refine ⟨_, evb (evc (fun _ => rfl) (cmp_eq _ _)) (evb (evc (fun _ => rfl) (cmp_eq _ _)) (evb (or_ev _ _) (Ev.now _))), ?_, ?_⟩
  · unfold cmpv Lt26; split <;> (try split) <;> (try split) <;> omega
  · unfold cmpv Key26; split <;> (try split) <;> (try split) <;> omega
theorem before_eq (a b : S26) : spileref46_before.f a.f0 a.f1 a.f2 b.f0 b.f1 b.f2 = some (decide (Lt26 a b)) := by
  unfold spileref46_before.f
  by_cases h : a.f0 < b.f0
  · rw [if_pos h]; exact congrArg some (decide_eq_true (show Lt26 a b from .inl h)).symm
  · rw [if_neg h]
    by_cases h2 : a.f0 = b.f0
    · rw [if_pos h2]; exact congrArg some (decide_eq_decide.2 ⟨fun q => (show Lt26 a b from .inr ⟨h2, q⟩), fun q => by unfold Lt26 at q; omega⟩)
    · rw [if_neg h2]; exact congrArg some (decide_eq_false (show ¬ Lt26 a b from fun q => by unfold Lt26 at q; omega)).symm
theorem rd26_get {l : List S26} {i : Nat} (h : i < l.length) : rd_T26 l (i : Int) = l[i] := by
  unfold rd_T26
  rw [Int.toNat_natCast, List.getD_eq_getElem?_getD, List.getElem?_eq_getElem h]
  rfl
theorem rd26_mem {l : List S26} {i : Int} (h0 : 0 ≤ i) (h : i < (l.length : Int)) : rd_T26 l i ∈ l := by
  obtain ⟨n, rfl⟩ : ∃ n : Nat, i = (n : Int) := ⟨i.toNat, by omega⟩
  rw [rd26_get (by omega)]
  exact List.getElem_mem _
theorem rd26_of_mem {l : List S26} {x : S26} (h : x ∈ l) : ∃ i : Int, 0 ≤ i ∧ i < (l.length : Int) ∧ rd_T26 l i = x := by
  obtain ⟨i, hi, rfl⟩ := List.mem_iff_getElem.1 h
  exact ⟨(i : Int), by omega, by omega, rd26_get hi⟩
theorem drop26 {l : List S26} {i : Int} (h0 : 0 ≤ i) (h1 : i < (l.length : Int)) : l.drop i.toNat = rd_T26 l i :: l.drop (i + 1).toNat := by
  obtain ⟨n, rfl⟩ : ∃ n : Nat, i = (n : Int) := ⟨i.toNat, by omega⟩
  rw [rd26_get (by omega), Int.toNat_natCast, show ((n : Int) + 1).toNat = n + 1 from by omega]
  exact List.drop_eq_getElem_cons (by omega)
def OKT (r : Int) (l : List S26) : Prop := (1 ≤ r ∧ r ≤ 4) ∧ (l.length : Int) ≤ 64 ∧ (∀ x, x ∈ l → Rng x) ∧ Srt l
theorem chain_lt {l : List S26} (h : ∀ j, 0 < j → j < (l.length : Int) → Lt26 (rd_T26 l (j - 1)) (rd_T26 l j)) : ∀ (d : Nat) (a : Int), 0 ≤ a → a + d + 1 < (l.length : Int) → Lt26 (rd_T26 l a) (rd_T26 l (a + d + 1))
  | 0, a, h0, h1 => by
    have := h (a + 1) (by omega) (by omega)
    rw [show a + 1 - 1 = a from by omega] at this
    rwa [show a + ((0 : Nat) : Int) + 1 = a + 1 from by omega]
  | d + 1, a, h0, h1 => by
    have ih := chain_lt h d a h0 (by omega)
    have := h (a + d + 1 + 1) (by omega) (by omega)
    rw [show a + (d : Int) + 1 + 1 - 1 = a + d + 1 from by omega] at this
    rw [show a + ((d + 1 : Nat) : Int) + 1 = a + d + 1 + 1 from by omega]
    exact lt_trans26 ih this
theorem srt_iff (l : List S26) : (∀ j, 0 < j → j < (l.length : Int) → Lt26 (rd_T26 l (j - 1)) (rd_T26 l j)) ↔ Srt l := by
  constructor
  · intro h
    refine List.pairwise_iff_getElem.2 (fun i j hi hj hij => ?_)
    have := chain_lt h (j - i - 1) (i : Int) (by omega) (by omega)
    rwa [show (i : Int) + ((j - i - 1 : Nat) : Int) + 1 = (j : Int) from by omega, rd26_get hi, rd26_get hj] at this
  · intro h j h0 h1
    obtain ⟨n, rfl⟩ : ∃ n : Nat, j = (n : Int) := ⟨j.toNat, by omega⟩
    have := List.pairwise_iff_getElem.1 h (n - 1) n (by omega) (by omega) (by omega)
    rwa [show (n : Int) - 1 = ((n - 1 : Nat) : Int) from by omega, rd26_get (by omega), rd26_get (by omega)]
theorem srt_lt {l : List S26} (h : Srt l) {a b : Int} (h0 : 0 ≤ a) (h1 : a < b) (h2 : b < (l.length : Int)) : Lt26 (rd_T26 l a) (rd_T26 l b) := by
  have := chain_lt ((srt_iff l).2 h) (b - a - 1).toNat a h0 (by omega)
  rwa [show a + ((b - a - 1).toNat : Int) + 1 = b from by omega] at this
theorem check_loop (r : Int) (l : List S26) (hl : (l.length : Int) ≤ 64) : ∀ i, 0 ≤ i → i ≤ (l.length : Int) →
    ∃ e : Int × Int, Ev (fun k => tariff_Check.l0 k l (l.length : Int) i r l) e ∧ Ev (fun k => spileref46_Check.l0 k i r l) e ∧
      (e.2 = 0 ↔ ∀ j, i ≤ j → j < (l.length : Int) → Rng (rd_T26 l j) ∧ (0 < j → Lt26 (rd_T26 l (j - 1)) (rd_T26 l j))) ∧ (e.2 = 0 → e.1 = -1) := by
  refine count_up 0 (l.length : Int) _ ?_ ?_
  · exact ⟨(-1, 0), Ev.step (fun k => tariff_Check.l0.eq_2 ..) (evn (by omega) (Ev.now _)), Ev.step (fun k => spileref46_Check.l0.eq_2 ..) (evn (by omega) (Ev.now _)), ⟨fun _ j a b => by omega, fun _ => rfl⟩, fun _ => rfl⟩
  · intro i h0 h1 ih
    have hw := w64_succ h0 h1 (by omega)
    have re := ranged_eq (rd_T26 l i).f0 (rd_T26 l i).f1 (rd_T26 l i).f2
    have rr := refright_eq (rd_T26 l i).f0 (rd_T26 l i).f1 (rd_T26 l i).f2
    have e26 : (⟨(rd_T26 l i).f0, (rd_T26 l i).f1, (rd_T26 l i).f2⟩ : S26) = rd_T26 l i := rfl
    rw [e26] at re rr
    by_cases c1 : Rng (rd_T26 l i)
    case neg =>
      rw [decide_eq_false c1] at re rr
      exact ⟨(i, 2), Ev.step (fun k => tariff_Check.l0.eq_2 ..) (evp h1 (evp h0 (evp h1 (evb (evc (fun _ => rfl) re) (evn (by simp) (Ev.now _)))))), Ev.step (fun k => spileref46_Check.l0.eq_2 ..) (evp h1 (evp h0 (evb (evc (fun _ => rfl) rr) (evn (by simp) (Ev.now _))))),
        ⟨fun q => by simp at q, fun q => absurd (q i (by omega) h1).1 c1⟩, fun q => by simp at q⟩
    rw [decide_eq_true c1] at re rr
    obtain ⟨e, e1, e2, e3, e4⟩ := ih
    have ext : (0 < i → Lt26 (rd_T26 l (i - 1)) (rd_T26 l i)) → ((∀ j, i + 1 ≤ j → j < (l.length : Int) → Rng (rd_T26 l j) ∧ (0 < j → Lt26 (rd_T26 l (j - 1)) (rd_T26 l j))) ↔ ∀ j, i ≤ j → j < (l.length : Int) → Rng (rd_T26 l j) ∧ (0 < j → Lt26 (rd_T26 l (j - 1)) (rd_T26 l j))) := fun hh =>
      ⟨fun q j a b => by
        by_cases e : j = i
        · rw [e]; exact ⟨c1, hh⟩
        · exact q j (by omega) b, fun q j a b => q j (by omega) b⟩
    by_cases c2 : i > 0
    · have hp := w64_pred (i := i) (n := (l.length : Int)) h0 (by omega) (by omega)
      obtain ⟨v, v1, v2, v3⟩ := compare_ev (rd_T26 l (i - 1)) (rd_T26 l i)
      have hb := before_eq (rd_T26 l (i - 1)) (rd_T26 l i)
      by_cases c3 : Lt26 (rd_T26 l (i - 1)) (rd_T26 l i)
      · rw [decide_eq_true c3] at hb
        have v4 := v2.2 c3
        refine ⟨e, Ev.step (fun k => tariff_Check.l0.eq_2 ..) (evp h1 (evp h0 (evp h1 (evb (evc (fun _ => rfl) re) (evp rfl (evp c2 ?_)))))), Ev.step (fun k => spileref46_Check.l0.eq_2 ..) (evp h1 (evp h0 (evb (evc (fun _ => rfl) rr) (evp rfl (evp c2 ?_))))), e3.trans (ext (fun _ => c3)), e4⟩
        · rw [hp, hw]; exact evp (by omega) (evp (by omega) (evb v1 (evn (by omega) e1)))
        · rw [hp, hw]; exact evp (by omega) (evp (by omega) (evb (evc (fun _ => rfl) hb) (evp rfl e2)))
      · rw [decide_eq_false c3] at hb
        have v4 : v ≥ 0 := by
          by_cases q : v < 0
          · exact absurd (v2.1 q) c3
          · omega
        refine ⟨(i, 5), Ev.step (fun k => tariff_Check.l0.eq_2 ..) (evp h1 (evp h0 (evp h1 (evb (evc (fun _ => rfl) re) (evp rfl (evp c2 ?_)))))), Ev.step (fun k => spileref46_Check.l0.eq_2 ..) (evp h1 (evp h0 (evb (evc (fun _ => rfl) rr) (evp rfl (evp c2 ?_))))), ⟨fun q => by simp at q, fun q => absurd ((q i (by omega) h1).2 c2) c3⟩, fun q => by simp at q⟩
        · rw [hp]; exact evp (by omega) (evp (by omega) (evb v1 (evp v4 (Ev.now _))))
        · rw [hp]; exact evp (by omega) (evp (by omega) (evb (evc (fun _ => rfl) hb) (evn (by simp) (Ev.now _))))
    · refine ⟨e, Ev.step (fun k => tariff_Check.l0.eq_2 ..) (evp h1 (evp h0 (evp h1 (evb (evc (fun _ => rfl) re) (evp rfl (evn c2 ?_)))))), Ev.step (fun k => spileref46_Check.l0.eq_2 ..) (evp h1 (evp h0 (evb (evc (fun _ => rfl) rr) (evp rfl (evn c2 ?_))))), e3.trans (ext (fun q => absurd q c2)), e4⟩
      · rw [hw]; exact e1
      · rw [hw]; exact e2
theorem check_both (r : Int) (l : List S26) : ∃ e : Int × Int, Ev (fun k => tariff_Check.f k r l) e ∧ Ev (fun k => spileref46_Check.f k r l) e ∧ (e.2 = 0 ↔ OKT r l) ∧ (e.2 = 0 → e.1 = -1) := by
  have two : ∀ b : Bool, b = true → Ev (fun k => spileref46_Check.j0 k b r l) (-1, 2) := fun b hb => Ev.step (fun k => spileref46_Check.j0.eq_2 ..) (evp hb (Ev.now _))
  have w := within_eq r 1 4
  by_cases c0 : 1 ≤ r ∧ r ≤ 4
  case neg =>
    rw [decide_eq_false c0] at w
    refine ⟨(-1, 2), evb (evc (fun _ => rfl) w) (evn (by simp) (Ev.now _)), ?_, ⟨fun q => by simp at q, fun q => absurd q.1 c0⟩, fun _ => rfl⟩
    by_cases c1 : r < 1
    · exact evp c1 (two _ rfl)
    · exact evn c1 (two _ (decide_eq_true (by omega)))
  rw [decide_eq_true c0] at w
  have pre : ∀ e, Ev (fun k => if (l.length : Int) > 64 then (some ((-1), 8)) else (spileref46_Check.l0 k 0 r l)) e → Ev (fun k => spileref46_Check.f k r l) e := fun e he => by
    refine evn (by omega) ?_
    rw [decide_eq_false (show ¬ r > 4 by omega)]
    exact Ev.step (fun k => spileref46_Check.j0.eq_2 ..) (evn (by simp) he)
  by_cases c2 : (l.length : Int) > 64
  · exact ⟨(-1, 8), evb (evc (fun _ => rfl) w) (evp rfl (evp c2 (Ev.now _))), pre _ (evp c2 (Ev.now _)), ⟨fun q => by simp at q, fun q => absurd q.2.1 (by omega)⟩, fun _ => rfl⟩
  · obtain ⟨e, e1, e2, e3, e4⟩ := check_loop r l (by omega) 0 (by omega) (by omega)
    refine ⟨e, evb (evc (fun _ => rfl) w) (evp rfl (evn c2 e1)), pre _ (evn c2 e2), e3.trans ⟨fun q => ⟨c0, by omega, fun x hx => ?_, (srt_iff l).1 (fun j a b => (q j (by omega) b).2 a)⟩, fun q j a b => ⟨q.2.2.1 _ (rd26_mem a b), fun p => (srt_iff l).2 q.2.2.2 j p b⟩⟩, e4⟩
    obtain ⟨i, i0, i1, rfl⟩ := rd26_of_mem hx
    exact (q i i0 i1).1
theorem right_B (r : Int) (l : List S26) : EvB (fun k => tariff_right.f k r l) (OKT r l) := by
  obtain ⟨e, e1, _, e3, _⟩ := check_both r l
  refine ⟨fun h => evb e1 (evr (beq_iff_eq.2 (e3.2 h))), fun h => evb e1 (evr ?_)⟩
  rw [beq_eq_false_iff_ne]
  exact fun q => h (e3.1 q)
theorem Right_B (r : Int) (l : List S26) : EvB (fun k => spileref46_Right.f k r l) (OKT r l) := by
  obtain ⟨e, _, e1, e3, _⟩ := check_both r l
  refine ⟨fun h => evb e1 (evr (beq_iff_eq.2 (e3.2 h))), fun h => evb e1 (evr ?_)⟩
  rw [beq_eq_false_iff_ne]
  exact fun q => h (e3.1 q)
theorem same_self (r : Int) (l : List S26) (hl : (l.length : Int) ≤ 9223372036854775807) : Ev (fun k => spileref46_Same.f k r l r l) true := by
  refine evp rfl ?_
  rw [show ((l.length : Int) != (l.length : Int)) = false from bne_self_eq_false _]
  refine Ev.step (fun k => spileref46_Same.j0.eq_2 ..) (evn (by simp) ?_)
  refine count_up 0 (l.length : Int) (fun i => Ev (fun k => spileref46_Same.l0 k i r l r l) true) ?_ ?_ 0 (Int.le_refl _) (by omega)
  · exact Ev.step (fun k => spileref46_Same.l0.eq_2 ..) (evn (by omega) (Ev.now _))
  · intro i h0 h1 ih
    refine Ev.step (fun k => spileref46_Same.l0.eq_2 ..) (evp h1 (evp h0 (evp h1 (evn (by simp) ?_))))
    rw [w64_succ h0 h1 hl]
    exact ih
theorem clone_eq {l : List S26} (h : (l.length : Int) ≤ 65) : slices_Clone26.f l = some l := by
  unfold slices_Clone26.f
  rw [if_pos (by omega)]
theorem cp_eq {r : Int} {l : List S26} (h : (l.length : Int) ≤ 65) : spilelaw46_cp.f r l = some (r, l) := by
  unfold spilelaw46_cp.f
  rw [clone_eq h]
  rfl
theorem few_eq (r : Int) (l : List S26) : ∃ b, spileref46_Few.f r l = some b ∧ (b = true → (l.length : Int) ≤ 65) := by
  unfold spileref46_Few.f
  by_cases c : (l.length : Int) ≤ 20
  · exact ⟨true, if_pos c, fun _ => by omega⟩
  · refine ⟨(l.length : Int) == 65, if_neg c, fun q => ?_⟩
    have := beq_iff_eq.1 q
    omega
theorem search_at {α : Type} (n : Int) (Q : Int → Prop) (res : Int → α) (L : Int → Int → Nat → Option α)
    (hend : ∀ i, 0 ≤ i → i ≤ n → Ev (L i i) (res i)) (hyes : ∀ i j, 0 ≤ i → i < j → j ≤ n → Q ((i + j) / 2) → ∀ r, Ev (L i ((i + j) / 2)) r → Ev (L i j) r)
    (hno : ∀ i j, 0 ≤ i → i < j → j ≤ n → ¬ Q ((i + j) / 2) → ∀ r, Ev (L ((i + j) / 2 + 1) j) r → Ev (L i j) r)
    (mono : ∀ a b, 0 ≤ a → a ≤ b → b < n → Q a → Q b) (hn : 0 ≤ n) :
    ∃ r, Ev (L 0 n) (res r) ∧ 0 ≤ r ∧ r ≤ n ∧ (∀ a, 0 ≤ a → a < r → ¬ Q a) ∧ (∀ a, r ≤ a → a < n → Q a) := by
  have go : ∀ (d : Nat) (i j : Int), 0 ≤ i → i ≤ j → j ≤ n → j - i ≤ d → (∀ a, 0 ≤ a → a < i → ¬ Q a) → (∀ a, j ≤ a → a < n → Q a) →
      ∃ r, Ev (L i j) (res r) ∧ 0 ≤ r ∧ r ≤ n ∧ (∀ a, 0 ≤ a → a < r → ¬ Q a) ∧ (∀ a, r ≤ a → a < n → Q a) := by
    intro d
    induction d with
    | zero =>
      intro i j h0 h1 h2 h3 hl hr
      obtain rfl : i = j := by omega
      exact ⟨i, hend i h0 h2, h0, h2, hl, hr⟩
    | succ d ih =>
      intro i j h0 h1 h2 h3 hl hr
      by_cases e : i = j
      · subst e
        exact ⟨i, hend i h0 h2, h0, h2, hl, hr⟩
      · by_cases q : Q ((i + j) / 2)
        · obtain ⟨r, hr2, h⟩ := ih i ((i + j) / 2) h0 (by omega) (by omega) (by omega) hl (fun a ha hb => mono ((i + j) / 2) a (by omega) ha hb q)
          exact ⟨r, hyes i j h0 (by omega) h2 q _ hr2, h⟩
        · obtain ⟨r, hr2, h⟩ := ih ((i + j) / 2 + 1) j (by omega) (by omega) h2 (by omega) (fun a ha hb qa => q (mono a ((i + j) / 2) ha (by omega) (by omega) qa)) hr
          exact ⟨r, hno i j h0 (by omega) h2 q _ hr2, h⟩
  exact go n.toNat 0 n (by omega) hn (by omega) (by omega) (fun a h0 h1 => absurd h1 (by omega)) (fun a h0 h1 => absurd h1 (by omega))
theorem place_ev (l : List S26) (r : S26) (hl : (l.length : Int) ≤ 65) (hs : Srt l) : ∃ i : Int, 0 ≤ i ∧ i ≤ (l.length : Int) ∧ (∀ a, 0 ≤ a → a < i → Lt26 (rd_T26 l a) r) ∧ (∀ a, i ≤ a → a < (l.length : Int) → ¬ Lt26 (rd_T26 l a) r) ∧
    Ev (fun k => api_Rate_42_at_37.f k l r.f0 r.f1 r.f2) (i, decide (i < (l.length : Int) ∧ Key26 (rd_T26 l i) r)) := by
  obtain ⟨i, e, h0, h1, h2, h3⟩ := search_at (l.length : Int) (fun a => ¬ Lt26 (rd_T26 l a) r) (fun i => (i, decide (i < (l.length : Int) ∧ Key26 (rd_T26 l i) r))) (fun i j k => api_Rate_42_at_37.l0 k l (l.length : Int) i j r.f0 r.f1 r.f2)
    (by
      intro i h0 h1
      refine Ev.step (fun k => api_Rate_42_at_37.l0.eq_2 ..) (evn (by omega) ?_)
      by_cases c : i < (l.length : Int)
      · obtain ⟨v, v1, _, v3⟩ := compare_ev (rd_T26 l i) r
        refine evp c (evp h0 (evp c (evb v1 (evr (Prod.ext rfl ?_)))))
        by_cases q : v = 0
        · rw [decide_eq_true ⟨c, v3.1 q⟩, q]; rfl
        · rw [decide_eq_false (fun z => q (v3.2 z.2))]; exact beq_eq_false_iff_ne.2 q
      · exact evn c (evr (by rw [decide_eq_false (fun z => c z.1)])))
    (by
      intro i j h0 h1 h2 q z hz
      have hh := half (i := i) (j := j) h0 h1 (by omega)
      obtain ⟨v, v1, v2, _⟩ := compare_ev (rd_T26 l ((i + j) / 2)) r
      refine Ev.step (fun k => api_Rate_42_at_37.l0.eq_2 ..) (evp h1 ?_)
      rw [hh]
      exact evp (by omega) (evp (by omega) (evb v1 (evn (fun y => q (v2.1 y)) hz))))
    (by
      intro i j h0 h1 h2 q z hz
      have hh := half (i := i) (j := j) h0 h1 (by omega)
      have hw : wrap64 ((i + j) / 2 + 1) = (i + j) / 2 + 1 := w64 (by omega) (by omega)
      obtain ⟨v, v1, v2, _⟩ := compare_ev (rd_T26 l ((i + j) / 2)) r
      refine Ev.step (fun k => api_Rate_42_at_37.l0.eq_2 ..) (evp h1 ?_)
      rw [hh, hw]
      exact evp (by omega) (evp (by omega) (evb v1 (evp (v2.2 (Decidable.byContradiction q)) hz))))
    (by
      intro a b h0 h1 h2 q y
      by_cases e : a = b
      · exact q (by rw [e]; exact y)
      · exact q (lt_trans26 (srt_lt hs h0 (by omega) h2) y)) (by omega)
  exact ⟨i, h0, h1, fun a a0 a1 => Decidable.byContradiction (h2 a a0 a1), h3, e⟩
theorem set_drop (l : List S26) (r : S26) (n : Nat) (h : n < l.length) : l.set n r = l.take n ++ r :: l.drop (n + 1) := List.set_eq_take_append_cons_drop .. ▸ if_pos h
theorem insert_ev (R : Int) (l : List S26) (r : S26) (hl : (l.length : Int) ≤ 65) : ∃ z : Int × List S26 × Int, Ev (fun k => tariff_Insert.f k R l r.f0 r.f1 r.f2) z ∧
    (¬ OKT R l → z = (0, [], 1)) ∧ (OKT R l → ¬ Rng r → z = (0, [], 2)) ∧ (OKT R l → Rng r → z = if ((ins r l).length : Int) > 64 then (0, [], 8) else (R, ins r l, 0)) := by
  have hb := right_B R l
  by_cases ok : OKT R l
  case neg => exact ⟨(0, [], 1), evb (hb.2 ok) (evn (by simp) (Ev.now _)), fun _ => rfl, fun q => absurd q ok, fun q => absurd q ok⟩
  have re := ranged_eq r.f0 r.f1 r.f2
  have e26 : (⟨r.f0, r.f1, r.f2⟩ : S26) = r := rfl
  rw [e26] at re
  by_cases rg : Rng r
  case neg =>
    rw [decide_eq_false rg] at re
    exact ⟨(0, [], 2), evb (hb.1 ok) (evp rfl (evb (evc (fun _ => rfl) re) (evn (by simp) (Ev.now _)))), fun q => absurd ok q, fun _ _ => rfl, fun _ q => absurd q rg⟩
  rw [decide_eq_true rg] at re
  have hn := ok.2.1
  obtain ⟨i, i0, i1, i2, i3, i4⟩ := place_ev l r hl ok.2.2.2
  have hin := ins_at r l i.toNat (by omega) (fun x hx => by
      obtain ⟨j, hj, rfl⟩ := List.mem_iff_getElem.1 hx
      rw [List.length_take] at hj
      have := i2 (j : Int) (by omega) (by omega)
      rw [rd26_get (by omega)] at this
      simpa using this) (fun x hx => by
      obtain ⟨j, hj, rfl⟩ := List.mem_iff_getElem.1 hx
      rw [List.length_drop] at hj
      have := i3 ((i.toNat + j : Nat) : Int) (by omega) (by omega)
      rw [rd26_get (by omega)] at this
      simpa using this)
  refine ⟨if ((ins r l).length : Int) > 64 then (0, [], 8) else (R, ins r l, 0), ?_, fun q => absurd ok q, fun _ q => absurd rg q, fun _ _ => rfl⟩
  refine evb (hb.1 ok) (evp rfl (evb (evc (fun _ => rfl) re) (evp rfl (evb (evc (fun _ => rfl) (clone_eq hl)) (evb i4 ?_)))))
  by_cases c : i < (l.length : Int) ∧ Key26 (rd_T26 l i) r
  · rw [decide_eq_true c]
    have e : ins r l = l.set i.toNat r := by
      rw [hin, set_drop l r i.toNat (by omega), drop26 i0 c.1]
      simp only
      rw [if_pos c.2, show (i + 1).toNat = i.toNat + 1 from by omega]
    have eR : (if ((ins r l).length : Int) > 64 then ((0, [], 8) : Int × List S26 × Int) else (R, ins r l, 0)) = (R, l.set i.toNat r, 0) := by
      rw [if_neg (by rw [e, List.length_set]; omega), e]
    rw [eR]
    exact evp rfl (evp i0 (evp c.1 (Ev.now _)))
  · rw [decide_eq_false c]
    have e : ins r l = l.take i.toNat ++ [r] ++ l.drop i.toNat := by
      rw [hin]
      by_cases d : i < (l.length : Int)
      · rw [drop26 i0 d]
        simp only
        rw [if_neg (fun q => c ⟨d, q⟩)]
        simp
      · rw [List.drop_eq_nil_of_le (by omega)]
        simp
    have ei : slices_Insert26.f l i [r] = some (ins r l) := by
      unfold slices_Insert26.f
      rw [if_pos ⟨i0, i1, rfl, by omega⟩, e]
    refine evn (by simp) (evb (evc (fun _ => rfl) ei) ?_)
    by_cases q : ((ins r l).length : Int) > 64
    · exact evp q (evr (if_pos q).symm)
    · exact evn q (evr (if_neg q).symm)
theorem ref_ins_done (R : Int) (l : List S26) (r : S26) (hl : (l.length : Int) ≤ 65) : ∀ i, 0 ≤ i → i ≤ (l.length : Int) → (∀ x, x ∈ l.drop i.toNat → ¬ Key26 x r) → ∀ out : List S26, (out.length : Int) ≤ i + 1 →
    Ev (fun k => spileref46_Insert.l0 k true i R l r.f0 r.f1 r.f2 R out) (if ((out ++ l.drop i.toNat).length : Int) > 64 then (0, [], 8) else (R, out ++ l.drop i.toNat, 0)) := by
  refine count_up 0 (l.length : Int) (fun i => (∀ x, x ∈ l.drop i.toNat → ¬ Key26 x r) → ∀ out : List S26, (out.length : Int) ≤ i + 1 →
    Ev (fun k => spileref46_Insert.l0 k true i R l r.f0 r.f1 r.f2 R out) (if ((out ++ l.drop i.toNat).length : Int) > 64 then (0, [], 8) else (R, out ++ l.drop i.toNat, 0))) ?_ ?_
  · intro _ out ho
    rw [List.drop_eq_nil_of_le (by omega), List.append_nil]
    refine Ev.step (fun k => spileref46_Insert.l0.eq_2 ..) (evn (by omega) (evp rfl ?_))
    by_cases q : (out.length : Int) > 64
    · exact evp q (evr (if_pos q).symm)
    · exact evn q (evr (if_neg q).symm)
  · intro i h0 h1 ih hk out ho
    have hw := w64_succ h0 h1 (by omega)
    rw [drop26 h0 h1] at hk ⊢
    have nk := hk _ (List.mem_cons_self ..)
    have q := ih (fun x hx => hk x (List.mem_cons_of_mem _ hx)) (out ++ [rd_T26 l i]) (by simp; omega)
    rw [List.append_assoc] at q
    have go : ∀ z, Ev (fun k => spileref46_Insert.l0 k true (i + 1) R l r.f0 r.f1 r.f2 R (out ++ [(⟨(rd_T26 l i).f0, (rd_T26 l i).f1, (rd_T26 l i).f2⟩ : S26)])) z → Ev (fun k => spileref46_Insert.l0 k true i R l r.f0 r.f1 r.f2 R out) z := fun z hz => by
      refine Ev.step (fun k => spileref46_Insert.l0.eq_2 ..) (evp h1 (evp rfl (Ev.step (fun k => spileref46_Insert.j1.eq_2 ..) (evn (by simp) (evp h0 (evp h1 ?_))))))
      rw [hw]
      by_cases d : (rd_T26 l i).f0 = r.f0
      · exact evp d (evn (fun y => nk ⟨d, y⟩) (evp (by omega) hz))
      · exact evn d (evp (by omega) hz)
    exact go _ q
theorem ref_ins_loop (R : Int) (l : List S26) (r : S26) (hl : (l.length : Int) ≤ 65) (hs : Srt l) : ∀ i, 0 ≤ i → i ≤ (l.length : Int) → ∀ out : List S26, (out.length : Int) ≤ i →
    Ev (fun k => spileref46_Insert.l0 k false i R l r.f0 r.f1 r.f2 R out) (if ((out ++ ins r (l.drop i.toNat)).length : Int) > 64 then (0, [], 8) else (R, out ++ ins r (l.drop i.toNat), 0)) := by
  refine count_up 0 (l.length : Int) _ ?_ ?_
  · intro out ho
    rw [List.drop_eq_nil_of_le (by omega)]
    refine Ev.step (fun k => spileref46_Insert.l0.eq_2 ..) (evn (by omega) (evn (by simp) (evp (by omega) (evb (Ev.now _) ?_))))
    show Ev (fun k => if ((out ++ [r]).length : Int) > 64 then _ else _) (if ((out ++ [r]).length : Int) > 64 then _ else _)
    by_cases q : ((out ++ [r]).length : Int) > 64
    · exact evp q (evr (if_pos q).symm)
    · exact evn q (evr (if_neg q).symm)
  · intro i h0 h1 ih out ho
    have hw := w64_succ h0 h1 (by omega)
    have hb := before_eq (rd_T26 l i) r
    rw [drop26 h0 h1, ins_cons]
    by_cases c : Lt26 (rd_T26 l i) r
    · rw [if_pos c]
      rw [decide_eq_true c] at hb
      have q := ih (out ++ [rd_T26 l i]) (by simp; omega)
      rw [List.append_assoc] at q
      have nk : (rd_T26 l i).f0 = r.f0 → ¬ (rd_T26 l i).f1 = r.f1 := fun a b => by unfold Lt26 at c; omega
      have go : ∀ z, Ev (fun k => spileref46_Insert.l0 k false (i + 1) R l r.f0 r.f1 r.f2 R (out ++ [(⟨(rd_T26 l i).f0, (rd_T26 l i).f1, (rd_T26 l i).f2⟩ : S26)])) z → Ev (fun k => spileref46_Insert.l0 k false i R l r.f0 r.f1 r.f2 R out) z := fun z hz => by
        refine Ev.step (fun k => spileref46_Insert.l0.eq_2 ..) (evp h1 (evn (by simp) (evp h0 (evb (evc (fun _ => rfl) hb) (Ev.step (fun k => spileref46_Insert.j1.eq_2 ..) (evn (by simp) (evp h0 (evp h1 ?_))))))))
        rw [hw]
        by_cases d : (rd_T26 l i).f0 = r.f0
        · exact evp d (evn (nk d) (evp (by omega) hz))
        · exact evn d (evp (by omega) hz)
      exact go _ q
    · rw [if_neg c]
      rw [decide_eq_false c] at hb
      have hno : ∀ x, x ∈ l.drop (i + 1).toNat → ¬ Key26 x r := fun x hx hk => by
        obtain ⟨j, hj, rfl⟩ := List.mem_iff_getElem.1 hx
        rw [List.length_drop] at hj
        have := srt_lt hs (a := i) (b := (((i + 1).toNat + j : Nat) : Int)) h0 (by omega) (by omega)
        rw [rd26_get (by omega)] at this
        rw [List.getElem_drop] at hk
        unfold Lt26 at this c
        unfold Key26 at hk
        omega
      have pre : ∀ z, Ev (fun k => if (rd_T26 l i).f0 = r.f0 then (if (rd_T26 l i).f1 = r.f1 then (spileref46_Insert.l0 k true (i + 1) R l r.f0 r.f1 r.f2 R (out ++ [r])) else (if (out ++ [r]).length < 5864062014805 then (spileref46_Insert.l0 k true (i + 1) R l r.f0 r.f1 r.f2 R ((out ++ [r]) ++ [rd_T26 l i])) else none)) else (if (out ++ [r]).length < 5864062014805 then (spileref46_Insert.l0 k true (i + 1) R l r.f0 r.f1 r.f2 R ((out ++ [r]) ++ [rd_T26 l i])) else none)) z →
          Ev (fun k => spileref46_Insert.l0 k false i R l r.f0 r.f1 r.f2 R out) z := fun z hz => by
        refine Ev.step (fun k => spileref46_Insert.l0.eq_2 ..) (evp h1 (evn (by simp) (evp h0 (evb (evc (fun _ => rfl) hb) (Ev.step (fun k => spileref46_Insert.j1.eq_2 ..) (evp (by simp) (evp (by omega) (evb (Ev.now _) (evp h0 (evp h1 ?_))))))))))
        rw [hw]
        exact hz
      have hlen : (out ++ [r]).length < 5864062014805 := by simp; omega
      by_cases k : Key26 (rd_T26 l i) r
      · rw [if_pos k]
        have q := ref_ins_done R l r hl (i + 1) (by omega) (by omega) hno (out ++ [r]) (by simp; omega)
        rw [List.append_assoc] at q
        exact pre _ (evp k.1 (evp k.2 q))
      · rw [if_neg k]
        have q := ref_ins_done R l r hl (i + 1) (by omega) (by omega) hno ((out ++ [r]) ++ [rd_T26 l i]) (by simp; omega)
        have e : ((out ++ [r]) ++ [rd_T26 l i]) ++ l.drop (i + 1).toNat = out ++ (r :: rd_T26 l i :: l.drop (i + 1).toNat) := by simp
        rw [e] at q
        refine pre _ ?_
        by_cases d : (rd_T26 l i).f0 = r.f0
        · exact evp d (evn (fun y => k ⟨d, y⟩) (evp hlen q))
        · exact evn d (evp hlen q)
theorem insert_both (R : Int) (l : List S26) (r : S26) (hl : (l.length : Int) ≤ 65) : ∃ z : Int × List S26 × Int, Ev (fun k => tariff_Insert.f k R l r.f0 r.f1 r.f2) z ∧ Ev (fun k => spileref46_Insert.f k R l r.f0 r.f1 r.f2) z ∧ (z.2.1.length : Int) ≤ 65 := by
  obtain ⟨z, z1, z2, z3, z4⟩ := insert_ev R l r hl
  have hb := Right_B R l
  have rr := refright_eq r.f0 r.f1 r.f2
  have e26 : (⟨r.f0, r.f1, r.f2⟩ : S26) = r := rfl
  rw [e26] at rr
  refine ⟨z, z1, ?_, ?_⟩
  · by_cases ok : OKT R l
    case neg => rw [z2 ok]; exact evb (hb.2 ok) (evn (by simp) (Ev.now _))
    by_cases rg : Rng r
    case neg => rw [z3 ok rg]; rw [decide_eq_false rg] at rr; exact evb (hb.1 ok) (evp rfl (evb (evc (fun _ => rfl) rr) (evn (by simp) (Ev.now _))))
    rw [z4 ok rg]
    rw [decide_eq_true rg] at rr
    have q := ref_ins_loop R l r hl ok.2.2.2 0 (by omega) (by omega) [] (by simp)
    rw [show (0 : Int).toNat = 0 from rfl, List.drop_zero, List.nil_append] at q
    exact evb (hb.1 ok) (evp rfl (evb (evc (fun _ => rfl) rr) (evp rfl q)))
  · by_cases ok : OKT R l
    case neg => rw [z2 ok]; simp
    by_cases rg : Rng r
    case neg => rw [z3 ok rg]; simp
    rw [z4 ok rg]
    split
    · simp
    · rename_i h; show ((ins r l).length : Int) ≤ 65; omega
end Go.Proofs.YtholbmidciapdaaGreatDoor.PL
namespace Go.Proofs.YtholbmidciapdaaGreatDoor.PL
/-- Whether a quotient is rounded up. -/
def Up (rule q r : Int) : Prop := (rule = 2 ∧ r > 0) ∨ (rule = 3 ∧ 2 * r ≥ 10000000) ∨ (rule = 4 ∧ (2 * r > 10000000 ∨ (2 * r = 10000000 ∧ q % 2 = 1)))
instance (rule q r : Int) : Decidable (Up rule q r) := by unfold Up; infer_instance
end Go.Proofs.YtholbmidciapdaaGreatDoor.PL
namespace Go.Proofs.YtholbmidciapdaaGreatDoor.PL
open Go Go.RowKit Go.Proofs.YtholbmidciapdaaGreatDoorW.PrintWords Go.Proofs.YtholbmidciapdaaGreatDoorW.PrintLast Go.Proofs.YtholbmidciapdaaGreatDoorW.PrintMore Go.Proofs.YtholbmidciapdaaGreatDoor.Pr Go.Proofs.YtholbmidciapdaaGreatDoor.X
instance (R : Int) (l : List S26) : Decidable (OKT R l) := by unfold OKT; infer_instance
def s0 : S26 × Bool := (⟨0, 0, 0⟩, false)
def InR (c d : Int) : Prop := (1 ≤ c ∧ c ≤ 9) ∧ 0 ≤ d ∧ d ≤ 100000
instance (c d : Int) : Decidable (InR c d) := by unfold InR; infer_instance
def InS (c a b : Int) : Prop := (1 ≤ c ∧ c ≤ 9) ∧ (0 ≤ a ∧ a ≤ 100000) ∧ a ≤ b ∧ b ≤ 100000
instance (c a b : Int) : Decidable (InS c a b) := by unfold InS; infer_instance
def InD (c a b : Int) (x : S26) : Prop := x.f0 = c ∧ a ≤ x.f1 ∧ x.f1 ≤ b
instance (c a b : Int) (x : S26) : Decidable (InD c a b x) := by unfold InD; infer_instance
end Go.Proofs.YtholbmidciapdaaGreatDoor.PL
namespace Go.Proofs.YtholbmidciapdaaGreatDoor.Pure
open Go Go.RowKit Go.Proofs.YtholbmidciapdaaGreatDoorW.PrintWords Go.Proofs.YtholbmidciapdaaGreatDoorW.PrintLast Go.Proofs.YtholbmidciapdaaGreatDoorW.PrintMore Go.Proofs.YtholbmidciapdaaGreatDoor.Pr Go.Proofs.YtholbmidciapdaaGreatDoor.Opn Go.Proofs.YtholbmidciapdaaGreatDoor.X Go.Proofs.YtholbmidciapdaaGreatDoor.PL
theorem TariffChecks : tariffChecksPure := by
  intro R l a b c hR hl ha hb hc
  refine Ev.rounds ?_
  obtain ⟨q, hq, hq2⟩ := few_eq R l
  have haw : Ev (fun _ : Nat => spilelaw46_awake.f) true := Ev.now _
  have yes : ∀ t, t = true → Ev (fun k => spilelaw46_TariffChecks.j0 k t R l a b c) true := fun t ht => Ev.step (fun k => spilelaw46_TariffChecks.j0.eq_2 ..) (evp ht (evb haw (Ev.now _)))
  refine evb haw (evp rfl (evb (evc (fun _ => rfl) hq) ?_))
  cases q with
  | false => exact yes _ rfl
  | true =>
    have hn := hq2 rfl
    obtain ⟨e, e1, e2, _, _⟩ := check_both R l
    obtain ⟨z, z1, z2, z3⟩ := insert_both R l ⟨a, b, c⟩ hn
    have hcp : Ev (fun _ : Nat => spilelaw46_cp.f R l) (R, l) := evc (fun _ => rfl) (cp_eq hn)
    exact Ev.step (fun k => spilelaw46_TariffChecks.j0.eq_2 ..) (evn (by simp) (evb hcp (evb e1 (evb e2 (evb hcp (evb z1 (evb z2 (evp rfl (evp rfl (evb (same_self z.1 z.2.1 (by omega)) (evp rfl (evr (by simp)))))))))))))
end Go.Proofs.YtholbmidciapdaaGreatDoor.Pure
namespace Go.Proofs.YtholbmidciapdaaGreatDoor.X
open Go
variable {H : Type} {enc : TypeId × Value → H}
theorem wrap_shaped {a : Assume} {C : Checked} {os : Os} {f : FuncId} {fn : Func} {s : ChangeSpec} {conds : List PathCond} {apart fresh handsOn again : Bool} {X : World → Array Value → Prop}
    (hX : ∀ (w w' : World) (args : Array Value), w.heap = w'.heap → X w args → X w' args)
    (own : ownKnob C.prog.godebug = none) (started : os.Started) (noInit : C.prog.inits.idxOf? f = none) (hfn : C.prog.funcs[f]? = some fn)
    (witness : ∃ (w : World) (tape : Tape) (i : Input), w.os = os ∧ (w.forCall tape i).Shaped C.prog ∧ i.vars = [] ∧ Input.okWide C.prog (w.forCall tape i) .any w.heap.size f i ∧
      ((s.pre enc C.prog fn conds apart (w.forCall tape i).memory i.args ∧ X (w.forCall tape i).memory i.args) ∧ sizedMet enc C.prog fn (OpenSpec.ofChange s) apart (w.forCall tape i).memory i.args) ∧ a.holds C.prog (lone (Frame.enter C.prog f i.args .normal) [] (w.forCall tape i)))
    (walk : ∀ (W : World) (base : Nat) (args : Array Value) (ds gs : List (DataW H)) (before : List MemPlace),
      (∀ (j : Nat) t v, fn.params[j]? = some t → args[j]? = some v → Value.okWide C.prog W .any base t v) →
      DataW.Whole enc C.prog fn.params.toList s.vars apart W args.toList ds gs before → X W args → W.ShapedOpen C.prog →
      Calls C.prog f args W fun e W' => ∃ v, e = .returned v ∧ s.post enc C.prog fn apart fresh handsOn again W args v W') :
    ReturnsInHanded a C os f .any (fun w args => (s.pre enc C.prog fn conds apart w args ∧ X w args) ∧ sizedMet enc C.prog fn (OpenSpec.ofChange s) apart w args) (s.post enc C.prog fn apart fresh handsOn again) := by
  refine returnsInHanded_of_calls own started noInit witness ?_
  intro w tape i _ hsh _ hok hpre _
  obtain ⟨_, _, _, fn', hfn', _, _, _, _, hval⟩ := hok
  obtain rfl : fn' = fn := Option.some.inj (hfn'.symm.trans hfn)
  obtain ⟨⟨⟨ds, gs, before, hw, _⟩, hx⟩, _⟩ := hpre
  refine (walk (w.forCall tape i) w.heap.size i.args ds gs before hval (DataW.Whole.of_heap (w' := w.forCall tape i) (by rfl) hw) (hX _ _ _ (by rfl) hx) hsh).mono fun e W' ⟨v, he, hp⟩ => ?_
  subst he
  exact ChangeSpec.post_blind hp
end Go.Proofs.YtholbmidciapdaaGreatDoor.X
namespace Go.Proofs.YtholbmidciapdaaGreatDoor.tariffChecks
open Go Go.ChangeShapes Go.WideShapes Go.ChangeAt Go.RowKit
open Go.ChangeMaps (open_string shut_string)
open Go.Proofs.YtholbmidciapdaaGreatDoorW.PrintWords Go.Proofs.YtholbmidciapdaaGreatDoor.O Go.Proofs.YtholbmidciapdaaGreatDoor.Opn Go.Proofs.YtholbmidciapdaaGreatDoor.Pr Go.Proofs.YtholbmidciapdaaGreatDoor.X
theorem own : ownKnob Tryz.prog.godebug = none := by kernel_rfl
theorem laidOut : laidOutB Tryz.prog = true := by kernel_rfl
abbrev laidL : List (String × DataW Unit) := [("math/bits.deBruijn32tab", Rows.laid_math_bits_deBruijn32tab), ("math/bits.deBruijn64tab", Rows.laid_math_bits_deBruijn64tab), ("internal/strconv.uint64pow10", Rows.laid_internal_strconv_uint64pow10), ("unicode/utf8.acceptRanges", Rows.laid_unicode_utf8_acceptRanges), ("strconv.ErrRange", Rows.laid_strconv_ErrRange), ("strconv.ErrSyntax", Rows.laid_strconv_ErrSyntax), ("spile/tariff.words", Rows.laid_spile_tariff_words), ("unicode/utf8.first", Rows.laid_unicode_utf8_first)]
set_option maxRecDepth 100000 in
theorem lifted (os : Os) (started : os.Started) (H : Type) (enc : TypeId × Value → H) :
    ReturnsInHanded {} Tryz.checked os 3 .any (fun w args => (Rows.tariffChecksSpec.pre enc Tryz.prog Tryz.f3 [] false w args ∧ laidMetH Tryz.prog laidL w) ∧ sizedMet enc Tryz.prog Tryz.f3 (OpenSpec.ofChange Rows.tariffChecksSpec) false w args)
      (Rows.tariffChecksSpec.post enc Tryz.prog Tryz.f3 false true false false) := by
  refine wrap_shaped (C := Tryz.checked) (X := (fun w _ => laidMetH Tryz.prog laidL w)) (fun _ _ _ hh h => h.of_heap hh) own started (by kernel_rfl) Tryz.func3
    (ChangeSpec.witness_shaped (enc := enc) (C := Tryz.checked) (os := os) (X := (fun w _ => laidMetH Tryz.prog laidL w)) false (World.laidAll Tryz.prog os laidL) #[.agg #[.int .i64 0, .slice none 0 0], .agg #[.int .i64 0, .int .i64 0, .int .i64 0]] 8 (World.laidAll_os _ _ _) (World.shaped_of_ZipB (by kernel_rfl) (by kernel_rfl)) (by kernel_rfl) (by kernel_rfl) (by kernel_rfl) (by rw [MakeChecks.laidMetH_plain _ _ _ (by kernel_rfl)]; exact laidMet_laidAll _ (by kernel_rfl) (by kernel_rfl))) ?_
  intro W base args ds gs before hval0 hW hL hsh
  have hval : ∀ (j : Nat) t v, Tryz.f3.params[j]? = some t → args[j]? = some v → Value.okWide Tryz.prog W .any base t v := hval0
  have hW' := hW
  obtain ⟨p, q, hA0, hV, rfl, hfz, hnd⟩ := hW
  have hA : DataW.TrodAll enc Tryz.prog W 0 (fun _ => true) true Tryz.f3.params.toList args.toList ds p := hA0
  rw [Tryz.params3] at hA hval
  obtain ⟨v0, vs0, d0, ds0, p0, q0, hargs, rfl, rfl, h0, r0⟩ := trodAll_cons hA
  obtain ⟨v1, vs1, d1, ds1, p1, q1, rfl, rfl, rfl, h1, r1⟩ := trodAll_cons r0
  obtain ⟨rfl, rfl, rfl⟩ := trodAll_nil r1
  obtain rfl : args = #[v0, v1] := by cases args; simp_all
  obtain ⟨rfl, rfl⟩ := trodVars_none hV
  obtain ⟨cs0, rfl, _⟩ := okWide_struct Tryz.underlying24 (hval 0 24 v0 rfl rfl)
  have k0 := h0
  have lt0 : ∀ x ∈ p0, x.block < W.heap.size := by obtain ⟨m, hm⟩ := k0; exact DataW.trod_lt m _ _ _ hm
  obtain ⟨x0, K0, ok0⟩ : ∃ x, k24.K W x cs0.toList ∧ ok24 x := by
    obtain ⟨fuel, hf⟩ := h0
    exact opens24.2 _ _ _ _ _ _ _ _ _ hf
  obtain ⟨A0_1, c0_1, e0, g0_1, hr0_1⟩ := k24_open K0
  obtain rfl : cs0 = #[.int .i64 (x0.f0), .slice A0_1 (x0.f1).length c0_1] := by cases cs0; simpa using e0
  obtain ⟨cs1, rfl, _⟩ := okWide_struct Tryz.underlying26 (hval 1 26 v1 rfl rfl)
  have k1 := h1
  have lt1 : ∀ x ∈ p1, x.block < W.heap.size := by obtain ⟨m, hm⟩ := k1; exact DataW.trod_lt m _ _ _ hm
  obtain ⟨x1, K1, ok1⟩ : ∃ x, k26.K W x cs1.toList ∧ ok26 x := by
    obtain ⟨fuel, hf⟩ := h1
    exact opens26.2 _ _ _ _ _ _ _ _ _ hf
  have e1 := k26_open K1
  obtain rfl : cs1 = #[.int .i64 (x1.f0), .int .i64 (x1.f1), .int .i64 (x1.f2)] := by cases cs1; simpa using e1
  clear hA0 hval0
  obtain ⟨k, hp⟩ := Pure.TariffChecks (x0.f0) (x0.f1) (x1.f0) (x1.f1) (x1.f2) ok0.1 ok0.2 ok1.1 ok1.2.1 ok1.2.2
  have hG : GI W := GI.of_laid laidL (by simp [laidL]) (by simp [laidL]) (by simp [laidL]) (by simp [laidL]) hL hsh
  refine (spilelaw46_TariffChecks.calls k (x0.f0) _ _ (x0.f1) (x1.f0) (x1.f1) (x1.f2) true W hr0_1 g0_1 hG rfl hp).mono fun e W' ⟨he, bel⟩ => ?_
  subst he
  exact ⟨_, rfl, _, _, _, [], _, [], hW', trodAll_mk1 (shut_bool Tryz.underlying4 _), (trodAll_cons_mk (Below.trod laidOut (by kernel_rfl) (of_decide_eq_true (by kernel_rfl)) k0 bel lt0) (trodAll_cons_mk (Below.trod laidOut (by kernel_rfl) (of_decide_eq_true (by kernel_rfl)) k1 bel lt1) trodAll_mk0)), rfl, bel.frame _, fun h => by cases h⟩
theorem holds : Rows.TariffChecksSaid :=
  OpenClaim.holds_of_wide 3 Tryz.f3 rfl rfl rfl rfl rfl rfl rfl ⟨rfl, rfl, rfl, rfl, rfl⟩ rfl rfl rfl rfl rfl (by kernel_rfl) Tryz.func3 (by kernel_rfl)
    (of_decide_eq_true (by kernel_rfl)) (by unfold Func.isWrapper; first | (rw [if_pos (by decide +kernel)]; kernel_rfl) | (rw [if_neg (by decide +kernel)]; exact ⟨rfl, rfl⟩))
    (fun os started H enc _ => lifted os started H enc)
theorem card : Rows.TariffChecksCardSaid :=
  Claim7.holds_tied_plain_at .later [] [.data, .data, .data, .data, .sentinel, .sentinel, .widerDeep, .pinned] true (true, "e915a9bdfe9e1389aaf186e88c341004cfdabf0ce269b5d3aa2c8944f7f7b486") true
    holds (fun _ h => by cases h) (by kernel_rfl) (fun _ h => by cases h) tariffChecks_row_tie rfl ⟨rfl, rfl⟩ (by kernel_rfl) rfl
    (fun f fn hf hfn => by
      obtain rfl : f = 3 := Option.some.inj ((show Tryz.prog.funcNamed "spile/spilelaw46.TariffChecks" = some 3 by kernel_rfl).symm.trans hf) |>.symm
      obtain rfl : fn = Tryz.f3 := (Option.some.inj (Tryz.func3.symm.trans hfn)).symm
      exact ⟨by kernel_rfl, fun j t ht => by
        rw [Tryz.params3] at ht
        have hm : t ∈ [24, 26] := by simpa using Array.mem_of_getElem? ht
        have hall : ([24, 26].all fun u => !Tryz.prog.wantsStandIn u) = true := by kernel_rfl
        exact (show Tryz.prog.wantsStandIn t = false by simpa using List.all_eq_true.1 hall t hm)⟩)
    (by kernel_rfl)
end Go.Proofs.YtholbmidciapdaaGreatDoor.tariffChecks
namespace Go.Proofs.YtholbmidciapdaaGreatDoor
/-- The card, under a short name, for the claim. -/
theorem tariffChecks_holds : Rows.TariffChecksCardSaid := tariffChecks.card
#print axioms tariffChecks_holds
end Go.Proofs.YtholbmidciapdaaGreatDoor
