/-
The law UnitOrder returns true for every input that can be read as data, and leaves its arguments as they were: the row, and the card that ties the listed variables to the program's text.
No condition of its own beyond those that the given row prints.
-/
import Derived.HandedShaped
import Derived.Handed
import Derived.Test.YtmjglehdckgcnaaDoorCards
import Derived.Test.YtmjglehdckgcnaaDoorTie
import Derived.ProofKit
import Derived.OpenShut
import Derived.ShutString
import Derived.ChangeOld
import Derived.SizedLaws
import Derived.LaidMore
import Derived.Lay
import Derived.MakeChecks
import Derived.SevenTiedAt
import Derived.LaidSub
import Derived.LaidOnce
import Derived.Stop.Joined
import Derived.Stop.LaidErr
import Derived.Test.YtmjglehdckgcnaaDoorUnitOrderD
set_option linter.unusedVariables false
set_option linter.unusedSimpArgs false
namespace Go.Proofs.YtmjglehdckgcnaaDoor.Pr
open Go.RowKit Go.Proofs.YtmjglehdckgcnaaDoorW.PrintWords Go.Proofs.YtmjglehdckgcnaaDoorW.PrintLast Go.Proofs.YtmjglehdckgcnaaDoorW.PrintMore Go.Proofs.YtmjglehdckgcnaaDoor.X
attribute [local go_sem] max2_int min2_int max_two min_two max_three min_three max_four min_four   -- for this text's walks alone
set_option linter.unusedVariables false
set_option linter.unusedSimpArgs false
attribute [local go_sem high] eqA23
mutual
def spilelaw03_UnitOrder.j0 : Nat → List (S23) → Int → Bool → Int → Int → Option (Bool)
 | 0, _, _, _, _, _ => none
 | k + 1, x0, x4, x57, x283000, x283001 => if x57 = true then (some false) else (if x4 = 0 then (spilelaw03_UnitOrder.j1 k x0 x4 (decide ((x0.length : Int) < 2)) x283000 x283001) else (spilelaw03_UnitOrder.j1 k x0 x4 true x283000 x283001))
def spilelaw03_UnitOrder.j1 : Nat → List (S23) → Int → Bool → Int → Int → Option (Bool)
 | 0, _, _, _, _, _ => none
 | k + 1, x0, x4, x64, x283000, x283001 => if x64 = true then (some ((x4 == 0) == (!(x283000 == 0) || (!(x283001 == 0))))) else (if 2 ≤ (x0.length : Int) then ((slices_Clone23.f (x0.take 2)).bind fun t295 => ((unit_Sum.f k t295).bind fun bt298 => ((some (([(⟨bt298.1, bt298.2.1⟩ : S23)] : List (S23)) : List (S23))).bind fun y302 => ((some (x0.drop 2 : List (S23))).bind fun y305 => (if y302.length + y305.length < 8796093022208 then ((unit_Sum.f k (y302 ++ y305)).bind fun bt312 => (if bt298.2.2 = 0 then (if bt312.2.2 = 0 then (some (bt312.1 == x283000 && (bt312.2.1 == x283001))) else (some false)) else (some false))) else (none)))))) else (none))
end
def spilelaw03_UnitOrder.f (k : Nat) (l0 : List (S23)) : Option (Bool) := (spilelaw03_awake.f).bind fun t275 => (if t275 = true then (if (l0.length : Int) > 65 then (some true) else ((slices_Clone23.f l0).bind fun t276 => ((unit_Sum.f k t276).bind fun bt279 => ((slices_Clone23.f l0).bind fun t283 => ((api_Quantity_24.f k t283).bind fun t286 => ((unit_Sum.f k t286).bind fun bt287 => (if bt279.2.2 = 0 then (if bt287.2.2 = 0 then (if (!(bt279.1 == bt287.1) || (!(bt279.2.1 == bt287.2.1))) = true then (spilelaw03_UnitOrder.j0 k l0 bt279.2.2 true bt279.1 bt279.2.1) else (spilelaw03_UnitOrder.j0 k l0 bt279.2.2 (true != true) bt279.1 bt279.2.1)) else (spilelaw03_UnitOrder.j0 k l0 bt279.2.2 (true != (bt287.2.2 == 15)) bt279.1 bt279.2.1)) else (if bt287.2.2 = 0 then (spilelaw03_UnitOrder.j0 k l0 bt279.2.2 ((bt279.2.2 == 15) != true) bt279.1 bt279.2.1) else (spilelaw03_UnitOrder.j0 k l0 bt279.2.2 ((bt279.2.2 == 15) != (bt287.2.2 == 15)) bt279.1 bt279.2.1))))))))) else (some false))
def spilelaw03_UnitOrder.T14 : Bool × List (List Nat × List Nat) := (true, [([], []), ([0], [0]), ([], []), ([2], [2]), ([1, 3], [1, 3]), ([4, 4], [4]), ([5], [5]), ([6], [6]), ([6], [6]), ([], []), ([9, 7, 5, 0, 1, 2, 3, 4, 5, 6, 7, 9], [7, 9]), ([8, 10, 0, 1, 2, 3, 4, 5, 6, 7, 8, 9, 10], [8])])
def spilelaw03_UnitOrder.B14 : List Nat := [0, 1, 0, 4, 15, 31, 63, 127, 127, 0, 767, 2047]
theorem spilelaw03_UnitOrder.tab14 : rtab .any (opsOf Tryd.f8 14) = spilelaw03_UnitOrder.T14 := by kernel_rfl
theorem spilelaw03_UnitOrder.bits14 : waitsOk spilelaw03_UnitOrder.T14.2 spilelaw03_UnitOrder.B14 = true := by kernel_rfl
set_option maxHeartbeats 8000000 in
set_option maxRecDepth 100000 in
theorem spilelaw03_UnitOrder.calls (k : Nat) (A0 : Option Addr) (c0 : Nat) (l0 : List (S23)) (r : Bool) (w : World) (hr0 : Kd.C k23 w A0 l0.length l0) (hc0 : l0.length ≤ c0) (hG : GI w) (hr_ : r = true) (h : spilelaw03_UnitOrder.f k l0 = some r) :
  Calls Tryd.prog 8 #[.slice A0 l0.length c0] w fun e w' => e = .returned (.bool r) ∧ Below w.heap.size w w' := by
 have hu23 := Tryd.underlying23
 have HR0 := Aside0.mk hr0
 have HC0 := Aside0.mk hc0
 clear hr0 hc0
 have HG := Aside0.mk hG
 clear hG
 have HB := Aside0.mk (Below.refl w.heap.size w)
 have H : ((spilelaw03_awake.f).bind fun t275 => (if t275 = true then (if (l0.length : Int) > 65 then (some true) else ((slices_Clone23.f l0).bind fun t276 => ((unit_Sum.f k t276).bind fun bt279 => ((slices_Clone23.f l0).bind fun t283 => ((api_Quantity_24.f k t283).bind fun t286 => ((unit_Sum.f k t286).bind fun bt287 => (if bt279.2.2 = 0 then (if bt287.2.2 = 0 then (if (!(bt279.1 == bt287.1) || (!(bt279.2.1 == bt287.2.1))) = true then (spilelaw03_UnitOrder.j0 k l0 bt279.2.2 true bt279.1 bt279.2.1) else (spilelaw03_UnitOrder.j0 k l0 bt279.2.2 (true != true) bt279.1 bt279.2.1)) else (spilelaw03_UnitOrder.j0 k l0 bt279.2.2 (true != (bt287.2.2 == 15)) bt279.1 bt279.2.1)) else (if bt287.2.2 = 0 then (spilelaw03_UnitOrder.j0 k l0 bt279.2.2 ((bt279.2.2 == 15) != true) bt279.1 bt279.2.1) else (spilelaw03_UnitOrder.j0 k l0 bt279.2.2 ((bt279.2.2 == 15) != (bt287.2.2 == 15)) bt279.1 bt279.2.1))))))))) else (some false))) = some r := h
 clear h
 replace H := Option.bind_eq_some_iff.mp H
 obtain ⟨t275, A20, H⟩ := H
 replace H : (if t275 = true then (if (l0.length : Int) > 65 then (some true) else ((slices_Clone23.f l0).bind fun t276 => ((unit_Sum.f k t276).bind fun bt279 => ((slices_Clone23.f l0).bind fun t283 => ((api_Quantity_24.f k t283).bind fun t286 => ((unit_Sum.f k t286).bind fun bt287 => (if bt279.2.2 = 0 then (if bt287.2.2 = 0 then (if (!(bt279.1 == bt287.1) || (!(bt279.2.1 == bt287.2.1))) = true then (spilelaw03_UnitOrder.j0 k l0 bt279.2.2 true bt279.1 bt279.2.1) else (spilelaw03_UnitOrder.j0 k l0 bt279.2.2 (true != true) bt279.1 bt279.2.1)) else (spilelaw03_UnitOrder.j0 k l0 bt279.2.2 (true != (bt287.2.2 == 15)) bt279.1 bt279.2.1)) else (if bt287.2.2 = 0 then (spilelaw03_UnitOrder.j0 k l0 bt279.2.2 ((bt279.2.2 == 15) != true) bt279.1 bt279.2.1) else (spilelaw03_UnitOrder.j0 k l0 bt279.2.2 ((bt279.2.2 == 15) != (bt287.2.2 == 15)) bt279.1 bt279.2.1))))))))) else (some false)) = some r := H
 have A2 := Aside0.mk A20
 clear A20
 by_cases c3 : t275 = true
 ·
  subst c3
  have H1 : (if (l0.length : Int) > 65 then (some true) else ((slices_Clone23.f l0).bind fun t276 => ((unit_Sum.f k t276).bind fun bt279 => ((slices_Clone23.f l0).bind fun t283 => ((api_Quantity_24.f k t283).bind fun t286 => ((unit_Sum.f k t286).bind fun bt287 => (if bt279.2.2 = 0 then (if bt287.2.2 = 0 then (if (!(bt279.1 == bt287.1) || (!(bt279.2.1 == bt287.2.1))) = true then (spilelaw03_UnitOrder.j0 k l0 bt279.2.2 true bt279.1 bt279.2.1) else (spilelaw03_UnitOrder.j0 k l0 bt279.2.2 (true != true) bt279.1 bt279.2.1)) else (spilelaw03_UnitOrder.j0 k l0 bt279.2.2 (true != (bt287.2.2 == 15)) bt279.1 bt279.2.1)) else (if bt287.2.2 = 0 then (spilelaw03_UnitOrder.j0 k l0 bt279.2.2 ((bt279.2.2 == 15) != true) bt279.1 bt279.2.1) else (spilelaw03_UnitOrder.j0 k l0 bt279.2.2 ((bt279.2.2 == 15) != (bt287.2.2 == 15)) bt279.1 bt279.2.1))))))))) = some r := by rw [if_pos rfl] at H; exact H
  clear H
  have H := H1
  clear H1
  by_cases c4 : (l0.length : Int) > 65
  ·
   rw [if_pos c4] at H
   have c4b0 : decide (65 < (l0.length : Int)) = true := decide_eq_true c4
   have c4b1 : decide (65 < l0.length) = true := decide_eq_true (by omega)
   clear c4
   obtain rfl := Option.some.inj H
   go_enter Tryd.func8, Tryd.ntmps8
   go_wp2_with (first | ((with_reducible refine gate_callee (f := 9) rfl ?_); refine goesL_ (some 12) rfl rfl Tryd.func9 (by kernel_rfl) rfl #[] rfl (by (try simp only [List.map_toArray, List.map_cons, List.map_nil]); first | done | rfl | (simp only [List.length_drop, List.length_take]; rfl)) ?_; (with_reducible refine (spilelaw03_awake.calls  true _ ?side1 A2.out).mono ?_); (case side1 => exact GI.below HG.out (by repeat (first | (with_reducible first | exact HB.out | apply below_alloc | apply pw_below_drewN | apply below_drew1) | exact HB.out))); rintro e w5 ⟨rfl, hb⟩; refine ⟨_, rfl, ?_⟩; have n0_ := Aside0.mk (below_step (by repeat (first | (with_reducible first | exact HB.out | apply below_alloc | apply pw_below_drewN | apply below_drew1) | exact HB.out)) hb); clear HB; have HB := n0_; clear n0_; (try clear hb); (try clear hb2); (try clear hk); (try clear hi)))
   go_ret
   exact ⟨by first | rfl | (simp [errW_none, errW_some] <;> rfl) | (simp [*, errW_none, errW_some] <;> rfl), by repeat (first | (with_reducible first | exact HB.out | apply below_alloc | apply pw_below_drewN | apply below_drew1) | exact HB.out)⟩
  ·
   rw [if_neg c4] at H
   have c4b0 : decide (65 < (l0.length : Int)) = false := decide_eq_false c4
   have c4b1 : decide (65 < l0.length) = false := decide_eq_false (by omega)
   clear c4
   replace H := Option.bind_eq_some_iff.mp H
   obtain ⟨t276, A60, H⟩ := H
   replace H : ((unit_Sum.f k t276).bind fun bt279 => ((slices_Clone23.f l0).bind fun t283 => ((api_Quantity_24.f k t283).bind fun t286 => ((unit_Sum.f k t286).bind fun bt287 => (if bt279.2.2 = 0 then (if bt287.2.2 = 0 then (if (!(bt279.1 == bt287.1) || (!(bt279.2.1 == bt287.2.1))) = true then (spilelaw03_UnitOrder.j0 k l0 bt279.2.2 true bt279.1 bt279.2.1) else (spilelaw03_UnitOrder.j0 k l0 bt279.2.2 (true != true) bt279.1 bt279.2.1)) else (spilelaw03_UnitOrder.j0 k l0 bt279.2.2 (true != (bt287.2.2 == 15)) bt279.1 bt279.2.1)) else (if bt287.2.2 = 0 then (spilelaw03_UnitOrder.j0 k l0 bt279.2.2 ((bt279.2.2 == 15) != true) bt279.1 bt279.2.1) else (spilelaw03_UnitOrder.j0 k l0 bt279.2.2 ((bt279.2.2 == 15) != (bt287.2.2 == 15)) bt279.1 bt279.2.1))))))) = some r := H
   have A6 := Aside0.mk A60
   clear A60
   replace H := Option.bind_eq_some_iff.mp H
   obtain ⟨⟨t279, t280, t281⟩, A70, H⟩ := H
   replace H : ((slices_Clone23.f l0).bind fun t283 => ((api_Quantity_24.f k t283).bind fun t286 => ((unit_Sum.f k t286).bind fun bt287 => (if t281 = 0 then (if bt287.2.2 = 0 then (if (!(t279 == bt287.1) || (!(t280 == bt287.2.1))) = true then (spilelaw03_UnitOrder.j0 k l0 t281 true t279 t280) else (spilelaw03_UnitOrder.j0 k l0 t281 (true != true) t279 t280)) else (spilelaw03_UnitOrder.j0 k l0 t281 (true != (bt287.2.2 == 15)) t279 t280)) else (if bt287.2.2 = 0 then (spilelaw03_UnitOrder.j0 k l0 t281 ((t281 == 15) != true) t279 t280) else (spilelaw03_UnitOrder.j0 k l0 t281 ((t281 == 15) != (bt287.2.2 == 15)) t279 t280)))))) = some r := H
   have A7 := Aside0.mk A70
   clear A70
   replace H := Option.bind_eq_some_iff.mp H
   obtain ⟨t283, A80, H⟩ := H
   replace H : ((api_Quantity_24.f k t283).bind fun t286 => ((unit_Sum.f k t286).bind fun bt287 => (if t281 = 0 then (if bt287.2.2 = 0 then (if (!(t279 == bt287.1) || (!(t280 == bt287.2.1))) = true then (spilelaw03_UnitOrder.j0 k l0 t281 true t279 t280) else (spilelaw03_UnitOrder.j0 k l0 t281 (true != true) t279 t280)) else (spilelaw03_UnitOrder.j0 k l0 t281 (true != (bt287.2.2 == 15)) t279 t280)) else (if bt287.2.2 = 0 then (spilelaw03_UnitOrder.j0 k l0 t281 ((t281 == 15) != true) t279 t280) else (spilelaw03_UnitOrder.j0 k l0 t281 ((t281 == 15) != (bt287.2.2 == 15)) t279 t280))))) = some r := H
   have A8 := Aside0.mk A80
   clear A80
   replace H := Option.bind_eq_some_iff.mp H
   obtain ⟨t286, A90, H⟩ := H
   replace H : ((unit_Sum.f k t286).bind fun bt287 => (if t281 = 0 then (if bt287.2.2 = 0 then (if (!(t279 == bt287.1) || (!(t280 == bt287.2.1))) = true then (spilelaw03_UnitOrder.j0 k l0 t281 true t279 t280) else (spilelaw03_UnitOrder.j0 k l0 t281 (true != true) t279 t280)) else (spilelaw03_UnitOrder.j0 k l0 t281 (true != (bt287.2.2 == 15)) t279 t280)) else (if bt287.2.2 = 0 then (spilelaw03_UnitOrder.j0 k l0 t281 ((t281 == 15) != true) t279 t280) else (spilelaw03_UnitOrder.j0 k l0 t281 ((t281 == 15) != (bt287.2.2 == 15)) t279 t280)))) = some r := H
   have A9 := Aside0.mk A90
   clear A90
   replace H := Option.bind_eq_some_iff.mp H
   obtain ⟨⟨t287, t288, t289⟩, A100, H⟩ := H
   replace H : (if t281 = 0 then (if t289 = 0 then (if (!(t279 == t287) || (!(t280 == t288))) = true then (spilelaw03_UnitOrder.j0 k l0 t281 true t279 t280) else (spilelaw03_UnitOrder.j0 k l0 t281 (true != true) t279 t280)) else (spilelaw03_UnitOrder.j0 k l0 t281 (true != (t289 == 15)) t279 t280)) else (if t289 = 0 then (spilelaw03_UnitOrder.j0 k l0 t281 ((t281 == 15) != true) t279 t280) else (spilelaw03_UnitOrder.j0 k l0 t281 ((t281 == 15) != (t289 == 15)) t279 t280))) = some r := H
   have A10 := Aside0.mk A100
   clear A100
   have HC11 := Aside0.mk H
   clear H
   go_enter Tryd.func8, Tryd.ntmps8
   go_upto_region 9 with (first | ((with_reducible refine gate_callee (f := 9) rfl ?_); refine goesL_ (some 12) rfl rfl Tryd.func9 (by kernel_rfl) rfl #[] rfl (by (try simp only [List.map_toArray, List.map_cons, List.map_nil]); first | done | rfl | (simp only [List.length_drop, List.length_take]; rfl)) ?_; (with_reducible refine (spilelaw03_awake.calls  true _ ?side1 A2.out).mono ?_); (case side1 => exact GI.below HG.out (by repeat (first | (with_reducible first | exact HB.out | apply below_alloc | apply pw_below_drewN | apply below_drew1) | exact HB.out))); rintro e w12 ⟨rfl, hb⟩; refine ⟨_, rfl, ?_⟩; have n0_ := Aside0.mk (below_step (by repeat (first | (with_reducible first | exact HB.out | apply below_alloc | apply pw_below_drewN | apply below_drew1) | exact HB.out)) hb); clear HB; have HB := n0_; clear n0_; (try clear hb); (try clear hb2); (try clear hk); (try clear hi)) | ((with_reducible refine gate_callee (f := 22) rfl ?_); refine goesL_ (some 19) rfl rfl Tryd.func22 (by kernel_rfl) rfl #[.slice A0 l0.length c0] rfl (by (try simp only [List.map_toArray, List.map_cons, List.map_nil]); first | done | rfl | (simp only [List.length_drop, List.length_take]; rfl)) ?_; (with_reducible refine (slices_Clone23.calls _ _ l0 t276 _ ?side1 ?side2 A6.out).mono ?_); (case side1 => repeat (first | exact (Kd.C_below HR0.out HB.out) | (with_reducible refine Kd.C_alloc ?_ _) | (with_reducible refine Kd.C_drewN ?_ _) | (with_reducible refine Kd.C_drew ?_))); (case side2 => exact HC0.out); rintro e w13 ⟨v277, rfl, ho0, hb⟩; refine ⟨_, rfl, ?_⟩; have n0_ := Aside0.mk (Kd.R_lower ho0 (below_size (by repeat (first | (with_reducible first | exact HB.out | apply below_alloc | apply pw_below_drewN | apply below_drew1) | exact HB.out)))); have n1_ := Aside0.mk (below_step (by repeat (first | (with_reducible first | exact HB.out | apply below_alloc | apply pw_below_drewN | apply below_drew1) | exact HB.out)) hb); clear HB; have HO278 := n0_; have HB := n1_; clear n0_ n1_; (try clear hb); (try clear hb2); (try clear hk); (try clear hi); (try clear ho0); obtain ⟨Ao14, co14, eo14⟩ := Kd.R_slice HO278.out; subst eo14) | ((with_reducible refine gate_callee (f := 21) rfl ?_); refine goesL_ (some 20) rfl rfl Tryd.func21 (by kernel_rfl) rfl #[.slice Ao14 t276.length co14] rfl (by (try simp only [List.map_toArray, List.map_cons, List.map_nil]); first | done | rfl | (simp only [List.length_drop, List.length_take]; rfl)) ?_; (with_reducible refine (unit_Sum.calls k _ _ t276 t279 t280 t281 _ ?side1 ?side2 A7.out).mono ?_); (case side1 => repeat (first | exact (Kd.R_reads' HO278.out).2.2 | (with_reducible refine Kd.C_alloc ?_ _) | (with_reducible refine Kd.C_drewN ?_ _) | (with_reducible refine Kd.C_drew ?_))); (case side2 => exact (Kd.R_reads' HO278.out).2.1); rintro e w15 ⟨rfl, hb⟩; refine ⟨_, rfl, ?_⟩; have n0_ := Aside0.mk (Kd.R_below (by (with_reducible repeat (first | apply Kd.R_alloc | apply Kd.R_drewN | apply Kd.R_drew)); exact HO278.out) hb); have n1_ := Aside0.mk (below_step (by repeat (first | (with_reducible first | exact HB.out | apply below_alloc | apply pw_below_drewN | apply below_drew1) | exact HB.out)) hb); clear HO278; clear HB; have HO278 := n0_; have HB := n1_; clear n0_ n1_; (try clear hb); (try clear hb2); (try clear hk); (try clear hi)) | ((with_reducible refine gate_dst (N := 3) rfl ?_); (try (refine gate_guard (by rfl) ?_; dsimp only)); refine box_event ?hg (N := 3) ?hd (cs := #[.int .i64 0, .int .i64 0]) (t := 23) ?hr ?_; (case hd => rfl); (case hg => rfl); (case hr => first | (go_simp; done) | (go_simp; rfl)); intro gb282 hg w16 hbox hb; have n0_ := Aside0.mk (Kd.R_below (Kd.R_elderB (by (with_reducible repeat (first | apply Kd.R_alloc | apply Kd.R_drewN | apply Kd.R_drew)); exact HO278.out) gb282 (Nat.le_of_eq hg.symm)) hb); have n1_ := Aside0.mk (below_step (by repeat (first | (with_reducible first | exact HB.out | apply below_alloc | apply pw_below_drewN | apply below_drew1) | exact HB.out)) hb); have n2_ := Aside0.mk (hbox); have n3_ := Aside0.mk ((by rw [hg]; exact (below_size (by repeat (first | (with_reducible first | exact HB.out | apply below_alloc | apply pw_below_drewN | apply below_drew1) | exact HB.out))) : w.heap.size ≤ gb282)); have n4_ := Aside0.mk ((by rw [hg]; exact (below_size (by repeat (first | (with_reducible first | exact HB.out | apply below_alloc | apply pw_below_drewN | apply below_drew1) | exact HB.out))) : w.heap.size ≤ gb282)); clear HO278; clear HB; have HO278 := n0_; have HB := n1_; have BK282 := n2_; have GW282 := n3_; have GE282 := n4_; clear n0_ n1_ n2_ n3_ n4_; clear hb hbox hg; have hcz17_0 : w16.cell? ⟨gb282, 0, none⟩ = some (.int .i64 0) := (blk_cell BK282.out 0).trans rfl; have hcz17_1 : w16.cell? ⟨gb282, 1, none⟩ = some (.int .i64 0) := (blk_cell BK282.out 1).trans rfl; have hfz17_0 := blk_frozen BK282.out 0; have hfz17_1 := blk_frozen BK282.out 1) | ((with_reducible refine gate_callee (f := 22) rfl ?_); refine goesL_ (some 24) rfl rfl Tryd.func22 (by kernel_rfl) rfl #[.slice A0 l0.length c0] rfl (by (try simp only [List.map_toArray, List.map_cons, List.map_nil]); first | done | rfl | (simp only [List.length_drop, List.length_take]; rfl)) ?_; (with_reducible refine (slices_Clone23.calls _ _ l0 t283 _ ?side1 ?side2 A8.out).mono ?_); (case side1 => exact Kd.C_below HR0.out (by repeat (first | (with_reducible first | exact HB.out | apply below_alloc | apply pw_below_drewN | apply below_drew1 | refine below_set ?_ GE282.out) | exact HB.out))); (case side2 => exact HC0.out); rintro e w18 ⟨v284, rfl, ho0, hb⟩; refine ⟨_, rfl, ?_⟩; have n0_ := Aside0.mk (Kd.R_elder' (by (with_reducible repeat (first | apply Kd.R_alloc | apply Kd.R_drewN | apply Kd.R_drew)); exact (Kd.R_mono (Kd.R_far (p := ⟨gb282, 1, none⟩) (Kd.R_far (p := ⟨gb282, 0, none⟩) (Kd.R_mono HO278.out (fun k_ hk => (⟨hk, hk.2⟩ : _ ∧ k_ ≠ gb282))) (fun _ hk => hk.2) (.int .i64 t279)) (fun _ hk => hk.2) (.int .i64 t280)) (fun _ h_ => h_.1))) (Kd.R_base ho0) hb); have n1_ := Aside0.mk (Kd.R_lower (Kd.R_newB (Kd.R_new' ho0 (Kd.R_lt (by (with_reducible repeat (first | apply Kd.R_alloc | apply Kd.R_drewN | apply Kd.R_drew)); exact (Kd.R_mono (Kd.R_far (p := ⟨gb282, 1, none⟩) (Kd.R_far (p := ⟨gb282, 0, none⟩) (Kd.R_mono HO278.out (fun k_ hk => (⟨hk, hk.2⟩ : _ ∧ k_ ≠ gb282))) (fun _ hk => hk.2) (.int .i64 t279)) (fun _ hk => hk.2) (.int .i64 t280)) (fun _ h_ => h_.1))))) (g := gb282) (o := .cells #[.int .i64 t279, .int .i64 t280] 23 (0, 0)) (by (with_reducible repeat (first | refine blk_drewN ?_ _ | refine blk_drew ?_ | refine blk_alloc ?_ _)); refine blk_put (cs := #[.int .i64 t279, .int .i64 0]) ?_ 1 _ rfl; (with_reducible repeat (first | refine blk_drewN ?_ _ | refine blk_drew ?_ | refine blk_alloc ?_ _)); refine blk_put (cs := #[.int .i64 0, .int .i64 0]) ?_ 0 _ rfl; (with_reducible repeat (first | refine blk_drewN ?_ _ | refine blk_drew ?_ | refine blk_alloc ?_ _)); exact BK282.out)) (below_size (by repeat (first | (with_reducible first | exact HB.out | apply below_alloc | apply pw_below_drewN | apply below_drew1 | refine below_set ?_ GE282.out) | exact HB.out)))); have n2_ := Aside0.mk (blk_below (g := gb282) (o := .cells #[.int .i64 t279, .int .i64 t280] 23 (0, 0)) (by (with_reducible repeat (first | refine blk_drewN ?_ _ | refine blk_drew ?_ | refine blk_alloc ?_ _)); refine blk_put (cs := #[.int .i64 t279, .int .i64 0]) ?_ 1 _ rfl; (with_reducible repeat (first | refine blk_drewN ?_ _ | refine blk_drew ?_ | refine blk_alloc ?_ _)); refine blk_put (cs := #[.int .i64 0, .int .i64 0]) ?_ 0 _ rfl; (with_reducible repeat (first | refine blk_drewN ?_ _ | refine blk_drew ?_ | refine blk_alloc ?_ _)); exact BK282.out) hb); have n3_ := Aside0.mk (below_step (by repeat (first | (with_reducible first | exact HB.out | apply below_alloc | apply pw_below_drewN | apply below_drew1 | refine below_set ?_ GE282.out) | exact HB.out)) hb); clear HO278; clear BK282; clear HB; have HO278 := n0_; have HO285 := n1_; have BK282 := n2_; have HB := n3_; clear n0_ n1_ n2_ n3_; (try clear hb); (try clear hb2); (try clear hk); (try clear hi); (try clear ho0); obtain ⟨Ao19, co19, eo19⟩ := Kd.R_slice HO285.out; subst eo19) | ((with_reducible refine gate_callee (f := 24) rfl ?_); refine goesL_ (some 26) rfl rfl Tryd.func24 (by kernel_rfl) rfl #[.slice Ao19 t283.length co19] rfl (by (try simp only [List.map_toArray, List.map_cons, List.map_nil]); first | done | rfl | (simp only [List.length_drop, List.length_take]; rfl)) ?_; (with_reducible refine (api_Quantity_24.calls k (fun k_ => some k_ = (.slice Ao19 t283.length co19 : Value).ownBlock) (.slice Ao19 t283.length co19) t283 t286 w _ ?side1 ?side2 A9.out).mono ?_); (case side1 => repeat (first | (with_reducible first | exact HB.out | apply below_alloc | apply pw_below_drewN | apply below_drew1 | refine below_set ?_ GE282.out) | exact HB.out)); (case side2 => exact Kd.R_tight rfl HO285.out); rintro e w20 ⟨rfl, hy0, hb, hkp⟩; refine ⟨_, rfl, ?_⟩; have n0_ := Aside0.mk (Kd.R_mono (ok' := fun k_ => some k_ ≠ (.slice Ao19 t283.length co19 : Value).ownBlock ∧ k_ ≠ gb282) (Kd.R_keptB (HO278.out) hkp (fun k_ hk_ hs_ => (hk_.2) hs_)) (fun k_ hk_ => ⟨hk_.1.2, hk_.1.1.2⟩)); have n1_ := Aside0.mk (blk_kept (by (with_reducible repeat (first | refine blk_drewN ?_ _ | refine blk_drew ?_ | refine blk_alloc ?_ _)); exact BK282.out) hkp (fun hs_ => (fun e_ => (Kd.R_away HO285.out (fun _ hk => hk.2)) e_) hs_)); have n2_ := Aside0.mk (Kd.R_reok rfl hy0 (fun k_ e_ => HO285.out.1 k_ e_)); have n3_ := Aside0.mk (hb); clear HO278; clear BK282; clear HO285; clear HB; have HO278 := n0_; have BK282 := n1_; have HO285 := n2_; have HB := n3_; clear n0_ n1_ n2_ n3_; (try clear hb); (try clear hkp); (try clear hy0)) | ((with_reducible refine gate_callee (f := 21) rfl ?_); refine goesL_ (some 29) rfl rfl Tryd.func21 (by kernel_rfl) rfl #[.slice Ao19 t286.length co19] rfl (by (try simp only [List.map_toArray, List.map_cons, List.map_nil]); first | done | (rw [show t286.length = t283.length from (Kd.R_reads' HO285.out).1.symm] <;> rfl) | rfl | (simp only [List.length_drop, List.length_take]; rfl)) ?_; (with_reducible refine (unit_Sum.calls k _ _ t286 t287 t288 t289 _ ?side1 ?side2 A10.out).mono ?_); (case side1 => repeat (first | exact (Kd.R_reads' HO285.out).2.2 | (with_reducible refine Kd.C_alloc ?_ _) | (with_reducible refine Kd.C_drewN ?_ _) | (with_reducible refine Kd.C_drew ?_))); (case side2 => rw [show t286.length = t283.length from (Kd.R_reads' HO285.out).1.symm]; exact (Kd.R_reads' HO285.out).2.1); rintro e w21 ⟨rfl, hb⟩; refine ⟨_, rfl, ?_⟩; have n0_ := Aside0.mk (Kd.R_below (by (with_reducible repeat (first | apply Kd.R_alloc | apply Kd.R_drewN | apply Kd.R_drew)); exact HO278.out) hb); have n1_ := Aside0.mk (Kd.R_below (by (with_reducible repeat (first | apply Kd.R_alloc | apply Kd.R_drewN | apply Kd.R_drew)); exact HO285.out) hb); have n2_ := Aside0.mk (blk_below (g := gb282) (o := .cells #[.int .i64 t279, .int .i64 t280] 23 (0, 0)) (by (with_reducible repeat (first | refine blk_drewN ?_ _ | refine blk_drew ?_ | refine blk_alloc ?_ _)); exact BK282.out) hb); have n3_ := Aside0.mk (below_step (by repeat (first | (with_reducible first | exact HB.out | apply below_alloc | apply pw_below_drewN | apply below_drew1 | refine below_set ?_ GE282.out) | exact HB.out)) hb); clear HO278; clear HO285; clear BK282; clear HB; have HO278 := n0_; have HO285 := n1_; have BK282 := n2_; have HB := n3_; clear n0_ n1_ n2_ n3_; (try clear hb); (try clear hb2); (try clear hk); (try clear hi)) | ((with_reducible refine gate_dst (N := 6) rfl ?_); (try (refine gate_guard (by rfl) ?_; dsimp only)); refine box_event ?hg (N := 6) ?hd (cs := #[.int .i64 0, .int .i64 0]) (t := 23) ?hr ?_; (case hd => rfl); (case hg => rfl); (case hr => first | (go_simp; done) | (go_simp; rfl)); intro gb290 hg w22 hbox hb; have n0_ := Aside0.mk (Kd.R_below (Kd.R_elderB (by (with_reducible repeat (first | apply Kd.R_alloc | apply Kd.R_drewN | apply Kd.R_drew)); exact HO278.out) gb290 (Nat.le_of_eq hg.symm)) hb); have n1_ := Aside0.mk (Kd.R_below (Kd.R_elderB (by (with_reducible repeat (first | apply Kd.R_alloc | apply Kd.R_drewN | apply Kd.R_drew)); exact HO285.out) gb290 (Nat.le_of_eq hg.symm)) hb); have n2_ := Aside0.mk (blk_below (g := gb282) (o := .cells #[.int .i64 t279, .int .i64 t280] 23 (0, 0)) (by (with_reducible repeat (first | refine blk_drewN ?_ _ | refine blk_drew ?_ | refine blk_alloc ?_ _)); exact BK282.out) hb); have n3_ := Aside0.mk (below_step (by repeat (first | (with_reducible first | exact HB.out | apply below_alloc | apply pw_below_drewN | apply below_drew1 | refine below_set ?_ GE282.out) | exact HB.out)) hb); have n4_ := Aside0.mk (hbox); have n5_ := Aside0.mk ((by rw [hg]; exact (below_size (by repeat (first | (with_reducible first | exact HB.out | apply below_alloc | apply pw_below_drewN | apply below_drew1 | refine below_set ?_ GE282.out) | exact HB.out))) : w.heap.size ≤ gb290)); have n6_ := Aside0.mk ((by rw [hg]; exact (below_size (by repeat (first | (with_reducible first | exact HB.out | apply below_alloc | apply pw_below_drewN | apply below_drew1 | refine below_set ?_ GE282.out) | exact HB.out))) : w.heap.size ≤ gb290)); have n7_ := Aside0.mk ((by rw [hg]; exact Nat.ne_of_lt (blk_lt (g := gb282) (o := .cells #[.int .i64 t279, .int .i64 t280] 23 (0, 0)) (by (with_reducible repeat (first | refine blk_drewN ?_ _ | refine blk_drew ?_ | refine blk_alloc ?_ _)); exact BK282.out)) : gb282 ≠ gb290)); have n8_ := Aside0.mk ((by rw [hg]; exact Nat.ne_of_gt (blk_lt (g := gb282) (o := .cells #[.int .i64 t279, .int .i64 t280] 23 (0, 0)) (by (with_reducible repeat (first | refine blk_drewN ?_ _ | refine blk_drew ?_ | refine blk_alloc ?_ _)); exact BK282.out)) : gb290 ≠ gb282)); clear HO278; clear HO285; clear BK282; clear HB; have HO278 := n0_; have HO285 := n1_; have BK282 := n2_; have HB := n3_; have BK290 := n4_; have GW290 := n5_; have GE290 := n6_; have NB282_290 := n7_; have NB290_282 := n8_; clear n0_ n1_ n2_ n3_ n4_ n5_ n6_ n7_ n8_; clear hb hbox hg; have hnb23 := NB290_282.out; have hnc23 := NB282_290.out; have hcz24_0 : w22.cell? ⟨gb290, 0, none⟩ = some (.int .i64 0) := (blk_cell BK290.out 0).trans rfl; have hcz24_1 : w22.cell? ⟨gb290, 1, none⟩ = some (.int .i64 0) := (blk_cell BK290.out 1).trans rfl; have hfz24_0 := blk_frozen BK290.out 0; have hfz24_1 := blk_frozen BK290.out 1))
   (try simp only [Act.put, List.setIfInBounds_toArray, List.set_cons_zero, List.set_cons_succ])
   go_cut [57] (fun v57 wc => ∃ (kq : Nat) (x57_10 : Bool), v57 = .bool x57_10 ∧ Aside0 (spilelaw03_UnitOrder.j0 kq l0 t281 x57_10 t279 t280 = some r) ∧ Aside0 (kq ≤ k) ∧ Aside0 (wc.heap[gb282]? = some (.cells #[.int .i64 t279, .int .i64 t280] 23 (0, 0))) ∧ Aside0 (wc.heap[gb290]? = some (.cells #[.int .i64 t287, .int .i64 t288] 23 (0, 0))) ∧ Aside0 (Below w.heap.size w wc))
   case first =>
    have H := HC11.out
    clear HC11
    by_cases c25 : t281 = 0
    ·
     rw [if_pos c25] at H
     have c25b0 : (t281 == 0) = true := beq_iff_eq.mpr c25
     have c25b1 : (t281 != 0) = false := bne_eq_false_iff_eq.mpr c25
     clear c25
     (first | rw [c25b0] | (simp only [i64_w, i32_w]; rw [c25b0]) | skip)
     by_cases c26 : t289 = 0
     ·
      rw [if_pos c26] at H
      have c26b0 : (t289 == 0) = true := beq_iff_eq.mpr c26
      have c26b1 : (t289 != 0) = false := bne_eq_false_iff_eq.mpr c26
      clear c26
      by_cases c27 : (!(t279 == t287) || (!(t280 == t288))) = true
      ·
       rw [if_pos c27] at H
       have c27b0 : (!(t279 == t287) || (!(t280 == t288))) = true := c27
       clear c27
       have H' := Aside0.mk H
       clear H
       have hnb28 := NB282_290.out
       have hnc28 := NB290_282.out
       have hcz29_0 : w22.cell? ⟨gb282, 0, none⟩ = some (.int .i64 t279) := (blk_cell BK282.out 0).trans rfl
       have hcz29_1 : w22.cell? ⟨gb282, 1, none⟩ = some (.int .i64 t280) := (blk_cell BK282.out 1).trans rfl
       have hfz29_0 := blk_frozen BK282.out 0
       have hfz29_1 := blk_frozen BK282.out 1
       have hcz30_0 : w22.cell? ⟨gb290, 0, none⟩ = some (.int .i64 0) := (blk_cell BK290.out 0).trans rfl
       have hcz30_1 : w22.cell? ⟨gb290, 1, none⟩ = some (.int .i64 0) := (blk_cell BK290.out 1).trans rfl
       have hfz30_0 := blk_frozen BK290.out 0
       have hfz30_1 := blk_frozen BK290.out 1
       go_wp2
       go_meet
       case rel => exact ⟨_, (true), (by first | rfl | (simp; done) | (simp [*]; done)), H', ⟨by first | omega | exact Nat.le_refl _⟩, ⟨by (with_reducible repeat (first | refine blk_drewN ?_ _ | refine blk_drew ?_ | refine blk_alloc ?_ _)); refine blk_far ?_ NB282_290.out _; (with_reducible repeat (first | refine blk_drewN ?_ _ | refine blk_drew ?_ | refine blk_alloc ?_ _)); refine blk_far ?_ NB282_290.out _; (with_reducible repeat (first | refine blk_drewN ?_ _ | refine blk_drew ?_ | refine blk_alloc ?_ _)); exact BK282.out⟩, ⟨by (with_reducible repeat (first | refine blk_drewN ?_ _ | refine blk_drew ?_ | refine blk_alloc ?_ _)); refine blk_put (cs := #[.int .i64 t287, .int .i64 0]) ?_ 1 _ rfl; (with_reducible repeat (first | refine blk_drewN ?_ _ | refine blk_drew ?_ | refine blk_alloc ?_ _)); refine blk_put (cs := #[.int .i64 0, .int .i64 0]) ?_ 0 _ rfl; (with_reducible repeat (first | refine blk_drewN ?_ _ | refine blk_drew ?_ | refine blk_alloc ?_ _)); exact BK290.out⟩, ⟨by repeat (first | (with_reducible first | exact HB.out | apply below_alloc | apply pw_below_drewN | apply below_drew1 | refine below_set ?_ GE282.out | refine below_set ?_ GE290.out) | exact HB.out)⟩⟩
      ·
       rw [if_neg c27] at H
       have c27b0 : (!(t279 == t287) || (!(t280 == t288))) = false := by simpa using c27
       clear c27
       have H' := Aside0.mk H
       clear H
       have hnb31 := NB282_290.out
       have hnc31 := NB290_282.out
       have hcz32_0 : w22.cell? ⟨gb282, 0, none⟩ = some (.int .i64 t279) := (blk_cell BK282.out 0).trans rfl
       have hcz32_1 : w22.cell? ⟨gb282, 1, none⟩ = some (.int .i64 t280) := (blk_cell BK282.out 1).trans rfl
       have hfz32_0 := blk_frozen BK282.out 0
       have hfz32_1 := blk_frozen BK282.out 1
       have hcz33_0 : w22.cell? ⟨gb290, 0, none⟩ = some (.int .i64 0) := (blk_cell BK290.out 0).trans rfl
       have hcz33_1 : w22.cell? ⟨gb290, 1, none⟩ = some (.int .i64 0) := (blk_cell BK290.out 1).trans rfl
       have hfz33_0 := blk_frozen BK290.out 0
       have hfz33_1 := blk_frozen BK290.out 1
       go_wp2
       go_meet
       case rel => exact ⟨_, ((true != true)), (by first | rfl | (simp; done) | (simp [*]; done)), H', ⟨by first | omega | exact Nat.le_refl _⟩, ⟨by (with_reducible repeat (first | refine blk_drewN ?_ _ | refine blk_drew ?_ | refine blk_alloc ?_ _)); refine blk_far ?_ NB282_290.out _; (with_reducible repeat (first | refine blk_drewN ?_ _ | refine blk_drew ?_ | refine blk_alloc ?_ _)); refine blk_far ?_ NB282_290.out _; (with_reducible repeat (first | refine blk_drewN ?_ _ | refine blk_drew ?_ | refine blk_alloc ?_ _)); exact BK282.out⟩, ⟨by (with_reducible repeat (first | refine blk_drewN ?_ _ | refine blk_drew ?_ | refine blk_alloc ?_ _)); refine blk_put (cs := #[.int .i64 t287, .int .i64 0]) ?_ 1 _ rfl; (with_reducible repeat (first | refine blk_drewN ?_ _ | refine blk_drew ?_ | refine blk_alloc ?_ _)); refine blk_put (cs := #[.int .i64 0, .int .i64 0]) ?_ 0 _ rfl; (with_reducible repeat (first | refine blk_drewN ?_ _ | refine blk_drew ?_ | refine blk_alloc ?_ _)); exact BK290.out⟩, ⟨by repeat (first | (with_reducible first | exact HB.out | apply below_alloc | apply pw_below_drewN | apply below_drew1 | refine below_set ?_ GE282.out | refine below_set ?_ GE290.out) | exact HB.out)⟩⟩
     ·
      rw [if_neg c26] at H
      have c26b0 : (t289 == 0) = false := beq_eq_false_iff_ne.mpr c26
      have c26b1 : (t289 != 0) = true := bne_iff_ne.mpr c26
      have H' := Aside0.mk H
      clear H
      go_wp2
      go_meet
      case rel => exact ⟨_, ((true != (t289 == 15))), (by first | rfl | (simp; done) | (simp [*]; done)), H', ⟨by first | omega | exact Nat.le_refl _⟩, ⟨by (with_reducible repeat (first | refine blk_drewN ?_ _ | refine blk_drew ?_ | refine blk_alloc ?_ _)); refine blk_far ?_ NB282_290.out _; (with_reducible repeat (first | refine blk_drewN ?_ _ | refine blk_drew ?_ | refine blk_alloc ?_ _)); refine blk_far ?_ NB282_290.out _; (with_reducible repeat (first | refine blk_drewN ?_ _ | refine blk_drew ?_ | refine blk_alloc ?_ _)); exact BK282.out⟩, ⟨by (with_reducible repeat (first | refine blk_drewN ?_ _ | refine blk_drew ?_ | refine blk_alloc ?_ _)); refine blk_put (cs := #[.int .i64 t287, .int .i64 0]) ?_ 1 _ rfl; (with_reducible repeat (first | refine blk_drewN ?_ _ | refine blk_drew ?_ | refine blk_alloc ?_ _)); refine blk_put (cs := #[.int .i64 0, .int .i64 0]) ?_ 0 _ rfl; (with_reducible repeat (first | refine blk_drewN ?_ _ | refine blk_drew ?_ | refine blk_alloc ?_ _)); exact BK290.out⟩, ⟨by repeat (first | (with_reducible first | exact HB.out | apply below_alloc | apply pw_below_drewN | apply below_drew1 | refine below_set ?_ GE282.out | refine below_set ?_ GE290.out) | exact HB.out)⟩⟩
    ·
     rw [if_neg c25] at H
     have c25b0 : (t281 == 0) = false := beq_eq_false_iff_ne.mpr c25
     have c25b1 : (t281 != 0) = true := bne_iff_ne.mpr c25
     (first | rw [c25b0] | (simp only [i64_w, i32_w]; rw [c25b0]) | skip)
     by_cases c34 : t289 = 0
     ·
      rw [if_pos c34] at H
      have c34b0 : (t289 == 0) = true := beq_iff_eq.mpr c34
      have c34b1 : (t289 != 0) = false := bne_eq_false_iff_eq.mpr c34
      clear c34
      have H' := Aside0.mk H
      clear H
      go_wp2
      go_meet
      case rel => exact ⟨_, (((t281 == 15) != true)), (by first | rfl | (simp; done) | (simp [*]; done)), H', ⟨by first | omega | exact Nat.le_refl _⟩, ⟨by (with_reducible repeat (first | refine blk_drewN ?_ _ | refine blk_drew ?_ | refine blk_alloc ?_ _)); refine blk_far ?_ NB282_290.out _; (with_reducible repeat (first | refine blk_drewN ?_ _ | refine blk_drew ?_ | refine blk_alloc ?_ _)); refine blk_far ?_ NB282_290.out _; (with_reducible repeat (first | refine blk_drewN ?_ _ | refine blk_drew ?_ | refine blk_alloc ?_ _)); exact BK282.out⟩, ⟨by (with_reducible repeat (first | refine blk_drewN ?_ _ | refine blk_drew ?_ | refine blk_alloc ?_ _)); refine blk_put (cs := #[.int .i64 t287, .int .i64 0]) ?_ 1 _ rfl; (with_reducible repeat (first | refine blk_drewN ?_ _ | refine blk_drew ?_ | refine blk_alloc ?_ _)); refine blk_put (cs := #[.int .i64 0, .int .i64 0]) ?_ 0 _ rfl; (with_reducible repeat (first | refine blk_drewN ?_ _ | refine blk_drew ?_ | refine blk_alloc ?_ _)); exact BK290.out⟩, ⟨by repeat (first | (with_reducible first | exact HB.out | apply below_alloc | apply pw_below_drewN | apply below_drew1 | refine below_set ?_ GE282.out | refine below_set ?_ GE290.out) | exact HB.out)⟩⟩
     ·
      rw [if_neg c34] at H
      have c34b0 : (t289 == 0) = false := beq_eq_false_iff_ne.mpr c34
      have c34b1 : (t289 != 0) = true := bne_iff_ne.mpr c34
      have H' := Aside0.mk H
      clear H
      go_wp2
      go_meet
      case rel => exact ⟨_, (((t281 == 15) != (t289 == 15))), (by first | rfl | (simp; done) | (simp [*]; done)), H', ⟨by first | omega | exact Nat.le_refl _⟩, ⟨by (with_reducible repeat (first | refine blk_drewN ?_ _ | refine blk_drew ?_ | refine blk_alloc ?_ _)); refine blk_far ?_ NB282_290.out _; (with_reducible repeat (first | refine blk_drewN ?_ _ | refine blk_drew ?_ | refine blk_alloc ?_ _)); refine blk_far ?_ NB282_290.out _; (with_reducible repeat (first | refine blk_drewN ?_ _ | refine blk_drew ?_ | refine blk_alloc ?_ _)); exact BK282.out⟩, ⟨by (with_reducible repeat (first | refine blk_drewN ?_ _ | refine blk_drew ?_ | refine blk_alloc ?_ _)); refine blk_put (cs := #[.int .i64 t287, .int .i64 0]) ?_ 1 _ rfl; (with_reducible repeat (first | refine blk_drewN ?_ _ | refine blk_drew ?_ | refine blk_alloc ?_ _)); refine blk_put (cs := #[.int .i64 0, .int .i64 0]) ?_ 0 _ rfl; (with_reducible repeat (first | refine blk_drewN ?_ _ | refine blk_drew ?_ | refine blk_alloc ?_ _)); exact BK290.out⟩, ⟨by repeat (first | (with_reducible first | exact HB.out | apply below_alloc | apply pw_below_drewN | apply below_drew1 | refine below_set ?_ GE282.out | refine below_set ?_ GE290.out) | exact HB.out)⟩⟩
   case rest =>
    clear HC11
    try clear c2
    try clear p2
    try clear c3
    try clear c4
    try clear c4b0
    try clear c4b1
    try clear c8
    try clear c9
    try clear c21
    try clear c22
    try clear c23
    try clear c24
    try clear c25
    try clear c25b0
    try clear c25b1
    try clear c26
    try clear c26b0
    try clear c26b1
    try clear c27
    try clear c27b0
    try clear c28
    try clear c31
    try clear c34
    try clear c34b0
    try clear c34b1
    try clear hcz17_0
    try clear hcz17_1
    try clear hcz24_0
    try clear hcz24_1
    try clear hcz29_0
    try clear hcz29_1
    try clear hcz30_0
    try clear hcz30_1
    try clear hcz32_0
    try clear hcz32_1
    try clear hcz33_0
    try clear hcz33_1
    try clear hfz17_0
    try clear hfz17_1
    try clear hfz24_0
    try clear hfz24_1
    try clear hfz29_0
    try clear hfz29_1
    try clear hfz30_0
    try clear hfz30_1
    try clear hfz32_0
    try clear hfz32_1
    try clear hfz33_0
    try clear hfz33_1
    obtain ⟨kq, x57_10, rfl, HA, HJ10, BK282, BK290, HB⟩ := hcut
    cases kq with
    | zero => exact absurd HA.out (by simp [spilelaw03_UnitOrder.j0])
    | succ kj10 =>
     have H := HA.out
     clear HA
     simp only [spilelaw03_UnitOrder.j0] at H
     by_cases c35 : x57_10 = true
     ·
      subst c35
      have H1 : (some false) = some r := by rw [if_pos rfl] at H; exact H
      clear H
      have H := H1
      clear H1
      subst hr_
      exact absurd H (by simp)
     ·
      replace c35 := Bool.eq_false_iff.mpr c35
      subst c35
      have H1 : (if t281 = 0 then (spilelaw03_UnitOrder.j1 kj10 l0 t281 (decide ((l0.length : Int) < 2)) t279 t280) else (spilelaw03_UnitOrder.j1 kj10 l0 t281 true t279 t280)) = some r := by rw [if_neg (show ¬ (false = true) by decide)] at H; exact H
      clear H
      have H := H1
      clear H1
      have HC36 := Aside0.mk H
      clear H
      go_upto_region 11 with (fail)
      go_cut [64] (fun v64 wc => ∃ (kq : Nat) (x64_35 : Bool), v64 = .bool x64_35 ∧ Aside0 (spilelaw03_UnitOrder.j1 kq l0 t281 x64_35 t279 t280 = some r) ∧ Aside0 (kq ≤ kj10) ∧ Aside0 (wc.heap[gb282]? = some (.cells #[.int .i64 t279, .int .i64 t280] 23 (0, 0))) ∧ Aside0 (wc.heap[gb290]? = some (.cells #[.int .i64 t287, .int .i64 t288] 23 (0, 0))) ∧ Aside0 (Below w.heap.size w wc))
      case first =>
       have H := HC36.out
       clear HC36
       by_cases c37 : t281 = 0
       ·
        rw [if_pos c37] at H
        have c37b0 : (t281 == 0) = true := beq_iff_eq.mpr c37
        have c37b1 : (t281 != 0) = false := bne_eq_false_iff_eq.mpr c37
        clear c37
        (first | rw [c37b0] | (simp only [i64_w, i32_w]; rw [c37b0]) | skip)
        have H' := Aside0.mk H
        clear H
        go_wp2
        go_meet
        case rel => exact ⟨_, (decide ((l0.length : Int) < 2)), (by first | rfl | (simp; done) | (simp [*]; done)), H', ⟨by have := HJ10.out; first | omega | exact Nat.le_refl _⟩, ⟨by (with_reducible repeat (first | refine blk_drewN ?_ _ | refine blk_drew ?_ | refine blk_alloc ?_ _)); exact BK282.out⟩, ⟨by (with_reducible repeat (first | refine blk_drewN ?_ _ | refine blk_drew ?_ | refine blk_alloc ?_ _)); exact BK290.out⟩, ⟨by repeat (first | (with_reducible first | exact HB.out | apply below_alloc | apply pw_below_drewN | apply below_drew1 | refine below_set ?_ GE282.out | refine below_set ?_ GE290.out) | exact HB.out)⟩⟩
       ·
        rw [if_neg c37] at H
        have c37b0 : (t281 == 0) = false := beq_eq_false_iff_ne.mpr c37
        have c37b1 : (t281 != 0) = true := bne_iff_ne.mpr c37
        (first | rw [c37b0] | (simp only [i64_w, i32_w]; rw [c37b0]) | skip)
        have H' := Aside0.mk H
        clear H
        go_wp2
        go_meet
        case rel => exact ⟨_, (true), (by first | rfl | (simp; done) | (simp [*]; done)), H', ⟨by have := HJ10.out; first | omega | exact Nat.le_refl _⟩, ⟨by (with_reducible repeat (first | refine blk_drewN ?_ _ | refine blk_drew ?_ | refine blk_alloc ?_ _)); exact BK282.out⟩, ⟨by (with_reducible repeat (first | refine blk_drewN ?_ _ | refine blk_drew ?_ | refine blk_alloc ?_ _)); exact BK290.out⟩, ⟨by repeat (first | (with_reducible first | exact HB.out | apply below_alloc | apply pw_below_drewN | apply below_drew1 | refine below_set ?_ GE282.out | refine below_set ?_ GE290.out) | exact HB.out)⟩⟩
      case rest =>
       clear HC36
       try clear c2
       try clear p2
       try clear c3
       try clear c4
       try clear c4b0
       try clear c4b1
       try clear c8
       try clear c9
       try clear c21
       try clear c22
       try clear c23
       try clear c24
       try clear c25
       try clear c25b0
       try clear c25b1
       try clear c26
       try clear c26b0
       try clear c26b1
       try clear c27
       try clear c27b0
       try clear c28
       try clear c31
       try clear c34
       try clear c34b0
       try clear c34b1
       try clear c35
       try clear c37
       try clear c37b0
       try clear c37b1
       try clear hcz17_0
       try clear hcz17_1
       try clear hcz24_0
       try clear hcz24_1
       try clear hcz29_0
       try clear hcz29_1
       try clear hcz30_0
       try clear hcz30_1
       try clear hcz32_0
       try clear hcz32_1
       try clear hcz33_0
       try clear hcz33_1
       try clear hfz17_0
       try clear hfz17_1
       try clear hfz24_0
       try clear hfz24_1
       try clear hfz29_0
       try clear hfz29_1
       try clear hfz30_0
       try clear hfz30_1
       try clear hfz32_0
       try clear hfz32_1
       try clear hfz33_0
       try clear hfz33_1
       try clear p2
       obtain ⟨kq, x64_35, rfl, HA, HJ35, BK282, BK290, HB⟩ := hcut
       cases kq with
       | zero => exact absurd HA.out (by simp [spilelaw03_UnitOrder.j1])
       | succ kj35 =>
        have H := HA.out
        clear HA
        simp only [spilelaw03_UnitOrder.j1] at H
        by_cases c38 : x64_35 = true
        ·
         subst c38
         have H1 : (some ((t281 == 0) == (!(t279 == 0) || (!(t280 == 0))))) = some r := by rw [if_pos rfl] at H; exact H
         clear H
         have H := H1
         clear H1
         obtain rfl := Option.some.inj H
         have hnb39 := NB282_290.out
         have hnc39 := NB290_282.out
         have hcz40_0 : wc.cell? ⟨gb282, 0, none⟩ = some (.int .i64 t279) := (blk_cell BK282.out 0).trans rfl
         have hcz40_1 : wc.cell? ⟨gb282, 1, none⟩ = some (.int .i64 t280) := (blk_cell BK282.out 1).trans rfl
         have hfz40_0 := blk_frozen BK282.out 0
         have hfz40_1 := blk_frozen BK282.out 1
         go_wp2
         go_ret
         exact ⟨by first | rfl | (simp [errW_none, errW_some] <;> rfl) | (simp [*, errW_none, errW_some] <;> rfl), by repeat (first | (with_reducible first | exact HB.out | apply below_alloc | apply pw_below_drewN | apply below_drew1 | refine below_set ?_ GE282.out | refine below_set ?_ GE290.out) | exact HB.out)⟩
        ·
         replace c38 := Bool.eq_false_iff.mpr c38
         subst c38
         have H1 : (if 2 ≤ (l0.length : Int) then ((slices_Clone23.f (l0.take 2)).bind fun t295 => ((unit_Sum.f kj35 t295).bind fun bt298 => ((some (([(⟨bt298.1, bt298.2.1⟩ : S23)] : List (S23)) : List (S23))).bind fun y302 => ((some (l0.drop 2 : List (S23))).bind fun y305 => (if y302.length + y305.length < 8796093022208 then ((unit_Sum.f kj35 (y302 ++ y305)).bind fun bt312 => (if bt298.2.2 = 0 then (if bt312.2.2 = 0 then (some (bt312.1 == t279 && (bt312.2.1 == t280))) else (some false)) else (some false))) else (none)))))) else (none)) = some r := by rw [if_neg (show ¬ (false = true) by decide)] at H; exact H
         clear H
         have H := H1
         clear H1
         by_cases c41 : 2 ≤ (l0.length : Int)
         ·
          rw [if_pos c41] at H
          have c41b0 := eq_true c41
          have c41b1 : decide (2 ≤ (l0.length : Int)) = true := decide_eq_true c41
          clear c41
          obtain ⟨y291, hy291⟩ : ∃ y_ : List (S23), y_ = (l0.take 2) := ⟨_, rfl⟩
          replace H : ((slices_Clone23.f y291).bind fun t295 => ((unit_Sum.f kj35 t295).bind fun bt298 => ((some (([(⟨bt298.1, bt298.2.1⟩ : S23)] : List (S23)) : List (S23))).bind fun y302 => ((some (l0.drop 2 : List (S23))).bind fun y305 => (if y302.length + y305.length < 8796093022208 then ((unit_Sum.f kj35 (y302 ++ y305)).bind fun bt312 => (if bt298.2.2 = 0 then (if bt312.2.2 = 0 then (some (bt312.1 == t279 && (bt312.2.1 == t280))) else (some false)) else (some false))) else (none)))))) = some r := by first | (rw [hy291]; with_reducible exact H) | (have H2_ := (Option.bind_some _ _).symm.trans H; rw [hy291]; with_reducible exact H2_) | (have H2_ := (Option.bind_some _ _).symm.trans H; with_reducible exact H2_) | with_reducible exact H | (rw [hy291]; exact H) | exact H
          have Ny291 := Aside0.mk hy291
          clear hy291
          replace H := Option.bind_eq_some_iff.mp H
          obtain ⟨t295, A420, H⟩ := H
          replace H : ((unit_Sum.f kj35 t295).bind fun bt298 => ((some (([(⟨bt298.1, bt298.2.1⟩ : S23)] : List (S23)) : List (S23))).bind fun y302 => ((some (l0.drop 2 : List (S23))).bind fun y305 => (if y302.length + y305.length < 8796093022208 then ((unit_Sum.f kj35 (y302 ++ y305)).bind fun bt312 => (if bt298.2.2 = 0 then (if bt312.2.2 = 0 then (some (bt312.1 == t279 && (bt312.2.1 == t280))) else (some false)) else (some false))) else (none))))) = some r := H
          have A42 := Aside0.mk A420
          clear A420
          replace H := Option.bind_eq_some_iff.mp H
          obtain ⟨⟨t298, t299, t300⟩, A430, H⟩ := H
          replace H : ((some (([(⟨t298, t299⟩ : S23)] : List (S23)) : List (S23))).bind fun y302 => ((some (l0.drop 2 : List (S23))).bind fun y305 => (if y302.length + y305.length < 8796093022208 then ((unit_Sum.f kj35 (y302 ++ y305)).bind fun bt312 => (if t300 = 0 then (if bt312.2.2 = 0 then (some (bt312.1 == t279 && (bt312.2.1 == t280))) else (some false)) else (some false))) else (none)))) = some r := H
          have A43 := Aside0.mk A430
          clear A430
          obtain ⟨y302, hy302⟩ : ∃ y_ : List (S23), y_ = (([(⟨t298, t299⟩ : S23)] : List (S23))) := ⟨_, rfl⟩
          replace H : ((some (l0.drop 2 : List (S23))).bind fun y305 => (if y302.length + y305.length < 8796093022208 then ((unit_Sum.f kj35 (y302 ++ y305)).bind fun bt312 => (if t300 = 0 then (if bt312.2.2 = 0 then (some (bt312.1 == t279 && (bt312.2.1 == t280))) else (some false)) else (some false))) else (none))) = some r := by first | (rw [hy302]; with_reducible exact H) | (have H2_ := (Option.bind_some _ _).symm.trans H; rw [hy302]; with_reducible exact H2_) | (have H2_ := (Option.bind_some _ _).symm.trans H; with_reducible exact H2_) | with_reducible exact H | (rw [hy302]; exact H) | exact H
          have Ny302 := Aside0.mk hy302
          clear hy302
          have c44b0 := eq_true (of_decide_eq_true (by first | (with_reducible assumption) | assumption) : 2 ≤ (l0.length : Int))
          obtain ⟨y305, hy305⟩ : ∃ y_ : List (S23), y_ = (l0.drop 2) := ⟨_, rfl⟩
          replace H : (if y302.length + y305.length < 8796093022208 then ((unit_Sum.f kj35 (y302 ++ y305)).bind fun bt312 => (if t300 = 0 then (if bt312.2.2 = 0 then (some (bt312.1 == t279 && (bt312.2.1 == t280))) else (some false)) else (some false))) else (none)) = some r := by first | (rw [hy305]; with_reducible exact H) | (have H2_ := (Option.bind_some _ _).symm.trans H; rw [hy305]; with_reducible exact H2_) | (have H2_ := (Option.bind_some _ _).symm.trans H; with_reducible exact H2_) | with_reducible exact H | (rw [hy305]; exact H) | exact H
          have Ny305 := Aside0.mk hy305
          clear hy305
          by_cases c45 : y302.length + y305.length < 8796093022208
          ·
           rw [if_pos c45] at H
           have LMc45 := Aside0.mk c45
           clear c45
           obtain ⟨y309, hy309⟩ : ∃ y_ : List (S23), y_ = (y302 ++ y305) := ⟨_, rfl⟩
           replace H : ((unit_Sum.f kj35 y309).bind fun bt312 => (if t300 = 0 then (if bt312.2.2 = 0 then (some (bt312.1 == t279 && (bt312.2.1 == t280))) else (some false)) else (some false))) = some r := by first | (rw [hy309]; with_reducible exact H) | (have H2_ := (Option.bind_some _ _).symm.trans H; rw [hy309]; with_reducible exact H2_) | (have H2_ := (Option.bind_some _ _).symm.trans H; with_reducible exact H2_) | with_reducible exact H | (rw [hy309]; exact H) | exact H
           have Ny309 := Aside0.mk hy309
           clear hy309
           replace H := Option.bind_eq_some_iff.mp H
           obtain ⟨⟨t312, t313, t314⟩, A460, H⟩ := H
           replace H : (if t300 = 0 then (if t314 = 0 then (some (t312 == t279 && (t313 == t280))) else (some false)) else (some false)) = some r := H
           have A46 := Aside0.mk A460
           clear A460
           by_cases c47 : t300 = 0
           ·
            rw [if_pos c47] at H
            have c47b0 : (t300 == 0) = true := beq_iff_eq.mpr c47
            have c47b1 : (t300 != 0) = false := bne_eq_false_iff_eq.mpr c47
            clear c47
            by_cases c48 : t314 = 0
            ·
             rw [if_pos c48] at H
             have c48b0 : (t314 == 0) = true := beq_iff_eq.mpr c48
             have c48b1 : (t314 != 0) = false := bne_eq_false_iff_eq.mpr c48
             clear c48
             obtain rfl := Option.some.inj H
             have q49 : (2 : Int) ≤ ((l0.length : Int) : Int) := of_decide_eq_true (by first | (with_reducible assumption) | assumption)
             obtain ⟨i049, hi049, _, hsz49, _⟩ := info_parts info23
             have hroom49 : l0.length ≤ c0 := HC0.out
             have hC49 : Kd.C k23 _ A0 l0.length l0 := HR0.out
             have hcut49 := cut_to (P := Tryd.prog) 42 23 .i64 Tryd.underlying42 hi049 A0 l0.length c0 2 (by omega) q49 hroom49
             have hr49 := Kd.C_take (m := 2) hC49 (by omega)
             have hy49 : y291.length = (2 : Int).toNat := (by rw [Ny291.out, List.length_take]; omega)
             rw [← Ny291.out] at hr49
             rw [← hy49] at hcut49
             have HR294 := Aside0.mk hr49
             have HC294 := Aside0.mk (show y291.length ≤ c0 from by omega)
             clear hr49 hC49 hroom49 hi049 hsz49
             have KY49 := Aside0.mk hy49
             clear hy49
             replace q49 := eq_true q49
             try go_wp2_with (first | ((with_reducible refine gate_callee (f := 22) rfl ?_); refine goesL_ (some 74) rfl rfl Tryd.func22 (by kernel_rfl) rfl #[.slice A0 y291.length c0] rfl (by (try simp only [List.map_toArray, List.map_cons, List.map_nil]); first | done | rfl | (simp only [List.length_drop, List.length_take]; rfl)) ?_; (with_reducible refine (slices_Clone23.calls _ _ y291 t295 _ ?side1 ?side2 A42.out).mono ?_); (case side1 => repeat (first | exact (Kd.C_below HR294.out HB.out) | (with_reducible refine Kd.C_alloc ?_ _) | (with_reducible refine Kd.C_drewN ?_ _) | (with_reducible refine Kd.C_drew ?_))); (case side2 => exact HC294.out); rintro e w50 ⟨v296, rfl, ho0, hb⟩; refine ⟨_, rfl, ?_⟩; have n0_ := Aside0.mk (Kd.R_lower (Kd.R_newB (Kd.R_newB ho0 (g := gb282) (o := .cells #[.int .i64 t279, .int .i64 t280] 23 (0, 0)) (by (with_reducible repeat (first | refine blk_drewN ?_ _ | refine blk_drew ?_ | refine blk_alloc ?_ _)); exact BK282.out)) (g := gb290) (o := .cells #[.int .i64 t287, .int .i64 t288] 23 (0, 0)) (by (with_reducible repeat (first | refine blk_drewN ?_ _ | refine blk_drew ?_ | refine blk_alloc ?_ _)); exact BK290.out)) (below_size (by repeat (first | (with_reducible first | exact HB.out | apply below_alloc | apply pw_below_drewN | apply below_drew1 | refine below_set ?_ GE282.out | refine below_set ?_ GE290.out) | exact HB.out)))); have n1_ := Aside0.mk (blk_below (g := gb282) (o := .cells #[.int .i64 t279, .int .i64 t280] 23 (0, 0)) (by (with_reducible repeat (first | refine blk_drewN ?_ _ | refine blk_drew ?_ | refine blk_alloc ?_ _)); exact BK282.out) hb); have n2_ := Aside0.mk (blk_below (g := gb290) (o := .cells #[.int .i64 t287, .int .i64 t288] 23 (0, 0)) (by (with_reducible repeat (first | refine blk_drewN ?_ _ | refine blk_drew ?_ | refine blk_alloc ?_ _)); exact BK290.out) hb); have n3_ := Aside0.mk (below_step (by repeat (first | (with_reducible first | exact HB.out | apply below_alloc | apply pw_below_drewN | apply below_drew1 | refine below_set ?_ GE282.out | refine below_set ?_ GE290.out) | exact HB.out)) hb); clear BK282; clear BK290; clear HB; have HO297 := n0_; have BK282 := n1_; have BK290 := n2_; have HB := n3_; clear n0_ n1_ n2_ n3_; (try clear hb); (try clear hb2); (try clear hk); (try clear hi); (try clear ho0); obtain ⟨Ao51, co51, eo51⟩ := Kd.R_slice HO297.out; subst eo51) | ((with_reducible refine gate_callee (f := 21) rfl ?_); refine goesL_ (some 75) rfl rfl Tryd.func21 (by kernel_rfl) rfl #[.slice Ao51 t295.length co51] rfl (by (try simp only [List.map_toArray, List.map_cons, List.map_nil]); first | done | rfl | (simp only [List.length_drop, List.length_take]; rfl)) ?_; (with_reducible refine (unit_Sum.calls kj35 _ _ t295 t298 t299 t300 _ ?side1 ?side2 A43.out).mono ?_); (case side1 => repeat (first | exact (Kd.R_reads' HO297.out).2.2 | (with_reducible refine Kd.C_alloc ?_ _) | (with_reducible refine Kd.C_drewN ?_ _) | (with_reducible refine Kd.C_drew ?_))); (case side2 => exact (Kd.R_reads' HO297.out).2.1); rintro e w52 ⟨rfl, hb⟩; refine ⟨_, rfl, ?_⟩; have n0_ := Aside0.mk (Kd.R_below (by (with_reducible repeat (first | apply Kd.R_alloc | apply Kd.R_drewN | apply Kd.R_drew)); exact HO297.out) hb); have n1_ := Aside0.mk (blk_below (g := gb282) (o := .cells #[.int .i64 t279, .int .i64 t280] 23 (0, 0)) (by (with_reducible repeat (first | refine blk_drewN ?_ _ | refine blk_drew ?_ | refine blk_alloc ?_ _)); exact BK282.out) hb); have n2_ := Aside0.mk (blk_below (g := gb290) (o := .cells #[.int .i64 t287, .int .i64 t288] 23 (0, 0)) (by (with_reducible repeat (first | refine blk_drewN ?_ _ | refine blk_drew ?_ | refine blk_alloc ?_ _)); exact BK290.out) hb); have n3_ := Aside0.mk (below_step (by repeat (first | (with_reducible first | exact HB.out | apply below_alloc | apply pw_below_drewN | apply below_drew1 | refine below_set ?_ GE282.out | refine below_set ?_ GE290.out) | exact HB.out)) hb); clear HO297; clear BK282; clear BK290; clear HB; have HO297 := n0_; have BK282 := n1_; have BK290 := n2_; have HB := n3_; clear n0_ n1_ n2_ n3_; (try clear hb); (try clear hb2); (try clear hk); (try clear hi)) | ((with_reducible refine gate_dst (N := 8) rfl ?_); (try (refine gate_guard (by rfl) ?_; dsimp only)); refine box_event ?hg (N := 8) ?hd (cs := #[.int .i64 0, .int .i64 0]) (t := 23) ?hr ?_; (case hd => rfl); (case hg => rfl); (case hr => first | (go_simp; done) | (go_simp; rfl)); intro gb301 hg w53 hbox hb; have n0_ := Aside0.mk (Kd.R_below (Kd.R_elderB (by (with_reducible repeat (first | apply Kd.R_alloc | apply Kd.R_drewN | apply Kd.R_drew)); exact HO297.out) gb301 (Nat.le_of_eq hg.symm)) hb); have n1_ := Aside0.mk (blk_below (g := gb282) (o := .cells #[.int .i64 t279, .int .i64 t280] 23 (0, 0)) (by (with_reducible repeat (first | refine blk_drewN ?_ _ | refine blk_drew ?_ | refine blk_alloc ?_ _)); exact BK282.out) hb); have n2_ := Aside0.mk (blk_below (g := gb290) (o := .cells #[.int .i64 t287, .int .i64 t288] 23 (0, 0)) (by (with_reducible repeat (first | refine blk_drewN ?_ _ | refine blk_drew ?_ | refine blk_alloc ?_ _)); exact BK290.out) hb); have n3_ := Aside0.mk (below_step (by repeat (first | (with_reducible first | exact HB.out | apply below_alloc | apply pw_below_drewN | apply below_drew1 | refine below_set ?_ GE282.out | refine below_set ?_ GE290.out) | exact HB.out)) hb); have n4_ := Aside0.mk (hbox); have n5_ := Aside0.mk ((by rw [hg]; exact (below_size (by repeat (first | (with_reducible first | exact HB.out | apply below_alloc | apply pw_below_drewN | apply below_drew1 | refine below_set ?_ GE282.out | refine below_set ?_ GE290.out) | exact HB.out))) : w.heap.size ≤ gb301)); have n6_ := Aside0.mk ((by rw [hg]; exact (below_size (by repeat (first | (with_reducible first | exact HB.out | apply below_alloc | apply pw_below_drewN | apply below_drew1 | refine below_set ?_ GE282.out | refine below_set ?_ GE290.out) | exact HB.out))) : w.heap.size ≤ gb301)); have n7_ := Aside0.mk ((by rw [hg]; exact Nat.ne_of_lt (blk_lt (g := gb282) (o := .cells #[.int .i64 t279, .int .i64 t280] 23 (0, 0)) (by (with_reducible repeat (first | refine blk_drewN ?_ _ | refine blk_drew ?_ | refine blk_alloc ?_ _)); exact BK282.out)) : gb282 ≠ gb301)); have n8_ := Aside0.mk ((by rw [hg]; exact Nat.ne_of_gt (blk_lt (g := gb282) (o := .cells #[.int .i64 t279, .int .i64 t280] 23 (0, 0)) (by (with_reducible repeat (first | refine blk_drewN ?_ _ | refine blk_drew ?_ | refine blk_alloc ?_ _)); exact BK282.out)) : gb301 ≠ gb282)); have n9_ := Aside0.mk ((by rw [hg]; exact Nat.ne_of_lt (blk_lt (g := gb290) (o := .cells #[.int .i64 t287, .int .i64 t288] 23 (0, 0)) (by (with_reducible repeat (first | refine blk_drewN ?_ _ | refine blk_drew ?_ | refine blk_alloc ?_ _)); exact BK290.out)) : gb290 ≠ gb301)); have n10_ := Aside0.mk ((by rw [hg]; exact Nat.ne_of_gt (blk_lt (g := gb290) (o := .cells #[.int .i64 t287, .int .i64 t288] 23 (0, 0)) (by (with_reducible repeat (first | refine blk_drewN ?_ _ | refine blk_drew ?_ | refine blk_alloc ?_ _)); exact BK290.out)) : gb301 ≠ gb290)); clear HO297; clear BK282; clear BK290; clear HB; have HO297 := n0_; have BK282 := n1_; have BK290 := n2_; have HB := n3_; have BK301 := n4_; have GW301 := n5_; have GE301 := n6_; have NB282_301 := n7_; have NB301_282 := n8_; have NB290_301 := n9_; have NB301_290 := n10_; clear n0_ n1_ n2_ n3_ n4_ n5_ n6_ n7_ n8_ n9_ n10_; clear hb hbox hg; have hnb54 := NB301_282.out; have hnc54 := NB282_301.out; have hnb55 := NB301_290.out; have hnc55 := NB290_301.out; have hcz56_0 : w53.cell? ⟨gb301, 0, none⟩ = some (.int .i64 0) := (blk_cell BK301.out 0).trans rfl; have hcz56_1 : w53.cell? ⟨gb301, 1, none⟩ = some (.int .i64 0) := (blk_cell BK301.out 1).trans rfl; have hfz56_0 := blk_frozen BK301.out 0; have hfz56_1 := blk_frozen BK301.out 1))
             have n0_ : Aside0 (Kd.R k23 23 ((w53.setCell ⟨gb301, 0, none⟩ (.int .i64 t298)).setCell ⟨gb301, 1, none⟩ (.int .i64 t299)) w.heap.size (fun k_ => k_ ≠ gb282 ∧ k_ ≠ gb290 ∧ k_ ≠ gb301) (.slice Ao51 t295.length co51) t295) := ⟨by (with_reducible repeat (first | apply Kd.R_alloc | apply Kd.R_drewN | apply Kd.R_drew)); exact Kd.R_mono (Kd.R_far (p := ⟨gb301, 1, none⟩) (Kd.R_far (p := ⟨gb301, 0, none⟩) (Kd.R_mono HO297.out (fun k_ hk => (⟨hk, hk.2⟩ : _ ∧ k_ ≠ gb301))) (fun _ hk => hk.2) (.int .i64 t298)) (fun _ hk => hk.2) (.int .i64 t299)) (fun _ hk => ⟨hk.1.1.1.2, ⟨hk.1.1.2, hk.1.2⟩⟩)⟩
             have n1_ : Aside0 (((w53.setCell ⟨gb301, 0, none⟩ (.int .i64 t298)).setCell ⟨gb301, 1, none⟩ (.int .i64 t299)).heap[gb282]? = some (.cells #[.int .i64 t279, .int .i64 t280] 23 (0, 0))) := ⟨by (with_reducible repeat (first | refine blk_drewN ?_ _ | refine blk_drew ?_ | refine blk_alloc ?_ _)); refine blk_far ?_ NB282_301.out _; (with_reducible repeat (first | refine blk_drewN ?_ _ | refine blk_drew ?_ | refine blk_alloc ?_ _)); refine blk_far ?_ NB282_301.out _; (with_reducible repeat (first | refine blk_drewN ?_ _ | refine blk_drew ?_ | refine blk_alloc ?_ _)); exact BK282.out⟩
             have n2_ : Aside0 (((w53.setCell ⟨gb301, 0, none⟩ (.int .i64 t298)).setCell ⟨gb301, 1, none⟩ (.int .i64 t299)).heap[gb290]? = some (.cells #[.int .i64 t287, .int .i64 t288] 23 (0, 0))) := ⟨by (with_reducible repeat (first | refine blk_drewN ?_ _ | refine blk_drew ?_ | refine blk_alloc ?_ _)); refine blk_far ?_ NB290_301.out _; (with_reducible repeat (first | refine blk_drewN ?_ _ | refine blk_drew ?_ | refine blk_alloc ?_ _)); refine blk_far ?_ NB290_301.out _; (with_reducible repeat (first | refine blk_drewN ?_ _ | refine blk_drew ?_ | refine blk_alloc ?_ _)); exact BK290.out⟩
             have n3_ : Aside0 (((w53.setCell ⟨gb301, 0, none⟩ (.int .i64 t298)).setCell ⟨gb301, 1, none⟩ (.int .i64 t299)).heap[gb301]? = some (.cells #[.int .i64 t298, .int .i64 t299] 23 (0, 0))) := ⟨by (with_reducible repeat (first | refine blk_drewN ?_ _ | refine blk_drew ?_ | refine blk_alloc ?_ _)); refine blk_put (cs := #[.int .i64 t298, .int .i64 0]) ?_ 1 _ rfl; (with_reducible repeat (first | refine blk_drewN ?_ _ | refine blk_drew ?_ | refine blk_alloc ?_ _)); refine blk_put (cs := #[.int .i64 0, .int .i64 0]) ?_ 0 _ rfl; (with_reducible repeat (first | refine blk_drewN ?_ _ | refine blk_drew ?_ | refine blk_alloc ?_ _)); exact BK301.out⟩
             have n4_ : Aside0 (Below w.heap.size w ((w53.setCell ⟨gb301, 0, none⟩ (.int .i64 t298)).setCell ⟨gb301, 1, none⟩ (.int .i64 t299))) := ⟨by repeat (first | (with_reducible first | exact HB.out | apply below_alloc | apply pw_below_drewN | apply below_drew1 | refine below_set ?_ GE282.out | refine below_set ?_ GE290.out | refine below_set ?_ GE301.out) | exact HB.out)⟩
             (try clear HO297)
             (try clear BK282)
             (try clear BK290)
             (try clear BK301)
             (try clear HB)
             generalize ((w53.setCell ⟨gb301, 0, none⟩ (.int .i64 t298)).setCell ⟨gb301, 1, none⟩ (.int .i64 t299)) = w57 at n0_ n1_ n2_ n3_ n4_ ⊢
             have HO297 := n0_
             have BK282 := n1_
             have BK290 := n2_
             have BK301 := n3_
             have HB := n4_
             clear n0_ n1_ n2_ n3_ n4_
             have n0_ := Aside0.mk (Kd.R_drew HO297.out)
             have n1_ := Aside0.mk (blk_drew BK282.out)
             have n2_ := Aside0.mk (blk_drew BK290.out)
             have n3_ := Aside0.mk (blk_drew BK301.out)
             have n4_ := Aside0.mk (below_drew1 HB.out)
             clear HO297
             clear BK282
             clear BK290
             clear BK301
             clear HB
             have HO297 := n0_
             have BK282 := n1_
             have BK290 := n2_
             have BK301 := n3_
             have HB := n4_
             clear n0_ n1_ n2_ n3_ n4_
             have q59 : (2 : Int) ≤ ((l0.length : Int) : Int) := of_decide_eq_true (by first | (with_reducible assumption) | assumption)
             obtain ⟨i059, hi059, _, hsz59, _⟩ := info_parts info23
             have hroom59 : l0.length ≤ c0 := HC0.out
             have hC59 : Kd.C k23 _ A0 l0.length l0 := HR0.out
             have hcut59 := cut_from (P := Tryd.prog) 42 23 .i64 Tryd.underlying42 hi059 2 hsz59 A0 l0.length c0 2 (by omega) q59
             have hr59 := Kd.C_drop (m := (2 : Int).toNat) (c := c0) hC59 (by omega) hroom59
             obtain ⟨A59, hA59⟩ : ∃ A1, A1 = (if c0 = (2 : Int).toNat then A0 else (A0 : Option Addr).map (·.add ((2 : Int).toNat * 2))) := ⟨_, rfl⟩
             obtain ⟨c59, hc59⟩ : ∃ c1, c1 = c0 - (2 : Int).toNat := ⟨_, rfl⟩
             have hy59 : y305.length = l0.length - (2 : Int).toNat := (by rw [Ny305.out, List.length_drop] <;> omega)
             rw [show (l0).drop (2 : Int).toNat = y305 from Ny305.out.symm] at hr59
             replace hr59 : Kd.C k23 _ A59 y305.length y305 := (by rw [hA59]; exact hr59)
             rw [← hy59, ← hA59, ← hc59] at hcut59
             have HR308 := Aside0.mk hr59
             have HC308 := Aside0.mk (show y305.length ≤ c59 from by rw [hy59, hc59]; exact Nat.sub_le_sub_right hroom59 _)
             clear hr59 hC59 hroom59 hi059 hsz59 hc59
             have KY59 := Aside0.mk hy59
             have KA59 := Aside0.mk hA59
             clear hy59 hA59
             replace q59 := eq_true q59
             refine start_ (n := 12) (S := fun w' => w'.cell? ⟨gb301, 0, none⟩ = some (.int .i64 t298) ∧ w'.cell? ⟨gb301, 1, none⟩ = some (.int .i64 t299)) (ds := []) #[false, false, false, false, false, false, false, false, false, false, false, false] (by kernel_rfl) rfl rfl ⟨(blk_cell BK301.out 0).trans rfl, (blk_cell BK301.out 1).trans rfl⟩ (fun hHeld => ?_); refine with_tabW spilelaw03_UnitOrder.tab14 spilelaw03_UnitOrder.bits14 (fun HT_ HW_ => ?_)
             generalize w57.drew = w58 at HO297 BK282 BK290 BK301 HB HR308 hHeld ⊢
             refine pure_ (i := 2) (N := some 81) (v := ?_) (a' := ?_) #[false, false, true, false, false, false, false, false, false, false, false, false] rfl rfl (any_of HT_.out (by kernel_rfl)) (fun _ _ _ h => h) (Or.inl ⟨by rfl, ?_⟩) ?_ ?_
             rotate_left
             ·
              intro w'
              go_simp
              with_reducible rfl
             rotate_left
             ·
              simp only [Act.put, List.setIfInBounds_toArray, List.set_cons_zero, List.set_cons_succ, i64_w, i32_w]
              rfl
             refine pure_ (i := 3) (N := some 82) (v := ?_) (a' := ?_) #[false, false, true, true, false, false, false, false, false, false, false, false] rfl rfl (any_of HT_.out (by kernel_rfl)) (fun _ _ _ h => h) (Or.inl ⟨by rfl, ?_⟩) ?_ ?_
             rotate_left
             ·
              intro w'
              go_simp
              with_reducible rfl
             rotate_left
             ·
              simp only [Act.put, List.setIfInBounds_toArray, List.set_cons_zero, List.set_cons_succ, i64_w, i32_w]
              rfl
             refine take_ (i := 0) (N := some 79) (v := ?_) (a' := ?_) #[true, false, true, true, false, false, false, false, false, false, false, false] rfl rfl (take_ofW HT_.out HW_.out (by kernel_rfl)) (fun _ _ _ h => h) (Or.inl ⟨by rfl, ?_⟩) hHeld ?_ ?_
             rotate_left
             ·
              rintro w' ⟨s0, s1⟩
              go_simp
              with_reducible rfl
             rotate_left
             ·
              simp only [Act.put, List.setIfInBounds_toArray, List.set_cons_zero, List.set_cons_succ, i64_w, i32_w]
              rfl
             refine join_ (σ := Value × Value × Nat) 2 #[true, true, true, true, true, true, true, true, true, true, false, false] (fun s_ => [(80, s_.1), (83, s_.2.1), (84, .tuple #[.agg #[.int .i64 t312, .int .i64 t313], .int .i64 t314]), (10, .pointer (some ⟨s_.2.2, 0, none⟩)), (78, .tuple #[.agg #[.int .i64 t312, .int .i64 t313], .int .i64 t314]), (85, .agg #[.int .i64 t312, .int .i64 t313]), (86, .int .i64 t314)]) (fun s_ w' => (w'.cell? ⟨gb301, 0, none⟩ = some (.int .i64 t298) ∧ w'.cell? ⟨gb301, 1, none⟩ = some (.int .i64 t299)) ∧ (Kd.R k23 23 w' w.heap.size (fun k_ => some k_ ≠ (s_.2.1 : Value).ownBlock ∧ k_ ≠ gb282 ∧ k_ ≠ gb290 ∧ k_ ≠ gb301 ∧ k_ ≠ s_.2.2) (.slice Ao51 t295.length co51) t295) ∧ (Kd.R k23 23 w' w.heap.size (fun k_ => some k_ ≠ (.slice Ao51 t295.length co51 : Value).ownBlock ∧ k_ ≠ gb282 ∧ k_ ≠ gb290 ∧ k_ ≠ gb301 ∧ k_ ≠ s_.2.2) s_.2.1 y309) ∧ (w'.heap[gb282]? = some (.cells #[.int .i64 t279, .int .i64 t280] 23 (0, 0))) ∧ (w'.heap[gb290]? = some (.cells #[.int .i64 t287, .int .i64 t288] 23 (0, 0))) ∧ (w'.heap[gb301]? = some (.cells #[.int .i64 t298, .int .i64 t299] 23 (0, 0))) ∧ (w'.heap[s_.2.2]? = some (.cells #[.int .i64 0, .int .i64 0] 23 (0, 0))) ∧ (w.heap.size ≤ s_.2.2) ∧ (w.heap.size ≤ s_.2.2) ∧ (gb282 ≠ s_.2.2) ∧ (s_.2.2 ≠ gb282) ∧ (gb290 ≠ s_.2.2) ∧ (s_.2.2 ≠ gb290) ∧ (gb301 ≠ s_.2.2) ∧ (s_.2.2 ≠ gb301) ∧ (Below w.heap.size w w')) ?_ ?_
             rotate_left
             ·
              intro hCont
              refine two_ (i := 1) (j := 9) (Ni := some 80) (Nj := some 10) #[true, true, true, true, false, false, false, false, false, false, false, false] #[true, false, true, true, false, false, false, false, false, true, false, false] rfl rfl rfl rfl (two_of HT_.out (by kernel_rfl)) (by decide) (by decide) (fun K hK => ?_) (fun K hK => ?_)
              ·
               skip
               refine Kd.R_lit_step k23 _ 23 ?hg (N := 80) ?hd (xs := ([(⟨t298, t299⟩ : S23)] : List (S23))) (inner := [.int .i64 t298, .int .i64 t299]) (ok := fun _ => True) (okp := fun _ => True) ?hr ?hp (fun _ hk => hk) trivial (Below.refl _ _) (Nat.le_refl _) (by simp) ?_; (case hd => rfl); (case hg => rfl); (case hr => first | (go_simp; done) | (go_simp; rfl)); (case hp => exact (Reps.c2 (show Kd.M k23 _ _ _ (⟨t298, t299⟩ : S23) [.int .i64 t298, .int .i64 t299] from (k23_mkM _ _ _ (⟨t298, t299⟩ : S23) )) (Reps.none _ _)))
               intro v303 w60 ho61 hb hg_ hnew_
               clear hg_ hnew_
               (first | rw [← Ny302.out] at ho61 | (simp only [Int.reduceToNat] at ho61; rw [← Ny302.out] at ho61))
               have n0_ := Aside0.mk (Kd.R_elder' (by (with_reducible repeat (first | apply Kd.R_alloc | apply Kd.R_drewN | apply Kd.R_drew)); exact HO297.out) (Kd.R_base ho61) hb)
               have n1_ := Aside0.mk (Kd.R_lower (Kd.R_newB (Kd.R_newB (Kd.R_newB (Kd.R_new' ho61 (Kd.R_lt (by (with_reducible repeat (first | apply Kd.R_alloc | apply Kd.R_drewN | apply Kd.R_drew)); exact HO297.out))) (g := gb282) (o := .cells #[.int .i64 t279, .int .i64 t280] 23 (0, 0)) (by (with_reducible repeat (first | refine blk_drewN ?_ _ | refine blk_drew ?_ | refine blk_alloc ?_ _)); exact BK282.out)) (g := gb290) (o := .cells #[.int .i64 t287, .int .i64 t288] 23 (0, 0)) (by (with_reducible repeat (first | refine blk_drewN ?_ _ | refine blk_drew ?_ | refine blk_alloc ?_ _)); exact BK290.out)) (g := gb301) (o := .cells #[.int .i64 t298, .int .i64 t299] 23 (0, 0)) (by (with_reducible repeat (first | refine blk_drewN ?_ _ | refine blk_drew ?_ | refine blk_alloc ?_ _)); exact BK301.out)) (below_size (by repeat (first | (with_reducible first | exact HB.out | apply below_alloc | apply pw_below_drewN | apply below_drew1 | refine below_set ?_ GE282.out | refine below_set ?_ GE290.out | refine below_set ?_ GE301.out) | exact HB.out))))
               have n2_ := Aside0.mk (blk_below (g := gb282) (o := .cells #[.int .i64 t279, .int .i64 t280] 23 (0, 0)) (by (with_reducible repeat (first | refine blk_drewN ?_ _ | refine blk_drew ?_ | refine blk_alloc ?_ _)); exact BK282.out) hb)
               have n3_ := Aside0.mk (blk_below (g := gb290) (o := .cells #[.int .i64 t287, .int .i64 t288] 23 (0, 0)) (by (with_reducible repeat (first | refine blk_drewN ?_ _ | refine blk_drew ?_ | refine blk_alloc ?_ _)); exact BK290.out) hb)
               have n4_ := Aside0.mk (blk_below (g := gb301) (o := .cells #[.int .i64 t298, .int .i64 t299] 23 (0, 0)) (by (with_reducible repeat (first | refine blk_drewN ?_ _ | refine blk_drew ?_ | refine blk_alloc ?_ _)); exact BK301.out) hb)
               have n5_ := Aside0.mk (below_step (by repeat (first | (with_reducible first | exact HB.out | apply below_alloc | apply pw_below_drewN | apply below_drew1 | refine below_set ?_ GE282.out | refine below_set ?_ GE290.out | refine below_set ?_ GE301.out) | exact HB.out)) hb)
               clear HO297
               clear BK282
               clear BK290
               clear BK301
               clear HB
               have HO297 := n0_
               have HO304 := n1_
               have BK282 := n2_
               have BK290 := n3_
               have BK301 := n4_
               have HB := n5_
               clear n0_ n1_ n2_ n3_ n4_ n5_
               clear hb ho61
               refine hK.out _ _ ⟨(blk_cell BK301.out 0).trans rfl, (blk_cell BK301.out 1).trans rfl⟩ (fun hHeld => ?_)
               clear hK K
               refine norm_ (a' := ?_) ?_ ?_
               rotate_left
               ·
                show Act.put _ (some 80) _ = _
                simp only [Act.put, List.setIfInBounds_toArray, List.set_cons_zero, List.set_cons_succ, i64_w, i32_w]
                rfl
               refine two_ (i := 4) (j := 9) (Ni := some 83) (Nj := some 10) #[true, true, true, true, true, false, false, false, false, false, false, false] #[true, true, true, true, false, false, false, false, false, true, false, false] rfl rfl rfl rfl (two_of HT_.out (by kernel_rfl)) (by decide) (by decide) (fun K hK => ?_) (fun K hK => ?_)
               ·
                skip
                refine Kd.R_append_rows_step k23 (w0 := w) w.heap.size (by rfl) (.tmp 80) (.tmp 82) 42 23 (.agg #[(.int .i64 0), (.int .i64 0)]) 16 rfl Tryd.underlying42 info23 rfl (by decide) (by omega) v303 y302 y305 _ _ _ (fun k_ => some k_ ≠ (.slice Ao51 t295.length co51 : Value).ownBlock ∧ k_ ≠ gb282 ∧ k_ ≠ gb290 ∧ k_ ≠ gb301) (fun _ => False) rfl rfl ?aO ?aR (fun _ _ h => h) (fun _ h => h.elim) ?aF ?aB ?aS ?aL ?_
                (case aR => repeat (first | exact (Kd.C_below HR308.out HB.out) | (with_reducible refine Kd.C_alloc ?_ _) | (with_reducible refine Kd.C_drewN ?_ _) | (with_reducible refine Kd.C_drew ?_)))
                (case aB => exact (by repeat (first | (with_reducible first | exact HB.out | apply below_alloc | apply pw_below_drewN | apply below_drew1 | refine below_set ?_ GE282.out | refine below_set ?_ GE290.out | refine below_set ?_ GE301.out) | exact HB.out)))
                (case aF => exact (fun k_ hk => ⟨Kd.fresh' (Kd.R_lt (by (with_reducible repeat (first | apply Kd.R_alloc | apply Kd.R_drewN | apply Kd.R_drew)); exact HO297.out)) k_ hk, Kd.freshB (g := gb282) (o := .cells #[.int .i64 t279, .int .i64 t280] 23 (0, 0)) (by (with_reducible repeat (first | refine blk_drewN ?_ _ | refine blk_drew ?_ | refine blk_alloc ?_ _)); exact BK282.out) k_ hk, Kd.freshB (g := gb290) (o := .cells #[.int .i64 t287, .int .i64 t288] 23 (0, 0)) (by (with_reducible repeat (first | refine blk_drewN ?_ _ | refine blk_drew ?_ | refine blk_alloc ?_ _)); exact BK290.out) k_ hk, Kd.freshB (g := gb301) (o := .cells #[.int .i64 t298, .int .i64 t299] 23 (0, 0)) (by (with_reducible repeat (first | refine blk_drewN ?_ _ | refine blk_drew ?_ | refine blk_alloc ?_ _)); exact BK301.out) k_ hk⟩))
                (case aO => exact (by (with_reducible repeat (first | apply Kd.R_alloc | apply Kd.R_drewN | apply Kd.R_drew)); exact Kd.R_mono HO304.out (fun _ hk => ⟨hk.1.1.1.2, ⟨hk.1.1.2, ⟨hk.1.2, hk.2⟩⟩⟩)))
                (case aS => exact (below_size (by repeat (first | (with_reducible first | exact HB.out | apply below_alloc | apply pw_below_drewN | apply below_drew1 | refine below_set ?_ GE282.out | refine below_set ?_ GE290.out | refine below_set ?_ GE301.out) | exact HB.out))))
                (case aL => have := LMc45.out; omega)
                intro v310 w62 ho hb hg hat
                rw [← Ny309.out] at ho
                have n0_ := Aside0.mk (blk_grown (g := gb282) (o := .cells #[.int .i64 t279, .int .i64 t280] 23 (0, 0)) (by (with_reducible repeat (first | refine blk_drewN ?_ _ | refine blk_drew ?_ | refine blk_alloc ?_ _)); exact BK282.out) hg (Kd.R_away HO304.out (fun _ hk => hk.1.1.2)))
                have n1_ := Aside0.mk (blk_grown (g := gb290) (o := .cells #[.int .i64 t287, .int .i64 t288] 23 (0, 0)) (by (with_reducible repeat (first | refine blk_drewN ?_ _ | refine blk_drew ?_ | refine blk_alloc ?_ _)); exact BK290.out) hg (Kd.R_away HO304.out (fun _ hk => hk.1.2)))
                have n2_ := Aside0.mk (Kd.R_after (ok := (fun k_ => k_ ≠ gb282 ∧ k_ ≠ gb290 ∧ k_ ≠ gb301)) (by (with_reducible repeat (first | apply Kd.R_alloc | apply Kd.R_drewN | apply Kd.R_drew)); exact HO297.out) hg hat)
                have n3_ := Aside0.mk (blk_grown (g := gb301) (o := .cells #[.int .i64 t298, .int .i64 t299] 23 (0, 0)) (by (with_reducible repeat (first | refine blk_drewN ?_ _ | refine blk_drew ?_ | refine blk_alloc ?_ _)); exact BK301.out) hg (Kd.R_away HO304.out (fun _ hk => hk.2)))
                have n4_ := Aside0.mk (hb)
                have n5_ := Aside0.mk (ho)
                clear BK282
                clear BK290
                clear HO297
                clear BK301
                clear HB
                clear HO304
                have BK282 := n0_
                have BK290 := n1_
                have HO297 := n2_
                have BK301 := n3_
                have HB := n4_
                have HO311 := n5_
                clear n0_ n1_ n2_ n3_ n4_ n5_
                clear ho hb hg hat
                obtain ⟨Ao63, co63, eo63⟩ := Kd.R_slice HO311.out
                (first | subst eo63 | (injection eo63 with f1_ f2_ f3_; have f4_ := f1_.symm; have f5_ := f3_.symm; clear f1_ f2_ f3_; subst f4_; subst f5_))
                refine hK.out _ _ ⟨(blk_cell BK301.out 0).trans rfl, (blk_cell BK301.out 1).trans rfl⟩ (fun hHeld => ?_)
                clear hK K
                refine norm_ (a' := ?_) ?_ ?_
                rotate_left
                ·
                 show Act.put _ (some 83) _ = _
                 simp only [Act.put, List.setIfInBounds_toArray, List.set_cons_zero, List.set_cons_succ, i64_w, i32_w]
                 rfl
                refine two_ (i := 5) (j := 9) (Ni := some 84) (Nj := some 10) #[true, true, true, true, true, true, false, false, false, false, false, false] #[true, true, true, true, true, false, false, false, false, true, false, false] rfl rfl rfl rfl (two_of HT_.out (by kernel_rfl)) (by decide) (by decide) (fun K hK => ?_) (fun K hK => ?_)
                ·
                 skip
                 refine goes_ Tryd.func21 (by kernel_rfl) rfl #[.slice Ao63 y309.length co63] (by rfl) rfl rfl (by (try simp only [List.map_toArray, List.map_cons, List.map_nil]); first | done | rfl | (simp only [List.length_drop, List.length_take]; rfl)) ?_
                 with_reducible refine (unit_Sum.calls kj35 _ _ y309 t312 t313 t314 _ ?side1 ?side2 A46.out).mono ?_
                 (case side1 => repeat (first | exact (Kd.R_reads' HO311.out).2.2 | (with_reducible refine Kd.C_alloc ?_ _) | (with_reducible refine Kd.C_drewN ?_ _) | (with_reducible refine Kd.C_drew ?_)))
                 (case side2 => exact (Kd.R_reads' HO311.out).2.1)
                 rintro e w64 ⟨rfl, hb⟩
                 refine ⟨_, rfl, ?_⟩
                 have n0_ := Aside0.mk (Kd.R_below (by (with_reducible repeat (first | apply Kd.R_alloc | apply Kd.R_drewN | apply Kd.R_drew)); exact HO297.out) hb)
                 have n1_ := Aside0.mk (Kd.R_below (by (with_reducible repeat (first | apply Kd.R_alloc | apply Kd.R_drewN | apply Kd.R_drew)); exact HO311.out) hb)
                 have n2_ := Aside0.mk (blk_below (g := gb282) (o := .cells #[.int .i64 t279, .int .i64 t280] 23 (0, 0)) (by (with_reducible repeat (first | refine blk_drewN ?_ _ | refine blk_drew ?_ | refine blk_alloc ?_ _)); exact BK282.out) hb)
                 have n3_ := Aside0.mk (blk_below (g := gb290) (o := .cells #[.int .i64 t287, .int .i64 t288] 23 (0, 0)) (by (with_reducible repeat (first | refine blk_drewN ?_ _ | refine blk_drew ?_ | refine blk_alloc ?_ _)); exact BK290.out) hb)
                 have n4_ := Aside0.mk (blk_below (g := gb301) (o := .cells #[.int .i64 t298, .int .i64 t299] 23 (0, 0)) (by (with_reducible repeat (first | refine blk_drewN ?_ _ | refine blk_drew ?_ | refine blk_alloc ?_ _)); exact BK301.out) hb)
                 have n5_ := Aside0.mk (below_step (by repeat (first | (with_reducible first | exact HB.out | apply below_alloc | apply pw_below_drewN | apply below_drew1 | refine below_set ?_ GE282.out | refine below_set ?_ GE290.out | refine below_set ?_ GE301.out) | exact HB.out)) hb)
                 clear HO297
                 clear HO311
                 clear BK282
                 clear BK290
                 clear BK301
                 clear HB
                 have HO297 := n0_
                 have HO311 := n1_
                 have BK282 := n2_
                 have BK290 := n3_
                 have BK301 := n4_
                 have HB := n5_
                 clear n0_ n1_ n2_ n3_ n4_ n5_
                 (try clear hb)
                 (try clear hb2)
                 (try clear hk)
                 (try clear hi)
                 refine hK.out _ _ ⟨(blk_cell BK301.out 0).trans rfl, (blk_cell BK301.out 1).trans rfl⟩ (fun hHeld => ?_)
                 clear hK K
                 refine norm_ (a' := ?_) ?_ ?_
                 rotate_left
                 ·
                  show Act.put _ (some 84) _ = _
                  simp only [Act.put, List.setIfInBounds_toArray, List.set_cons_zero, List.set_cons_succ, i64_w, i32_w]
                  rfl
                 refine pure_ (i := 6) (N := some 78) (v := ?_) (a' := ?_) #[true, true, true, true, true, true, true, false, false, false, false, false] rfl rfl (any_of HT_.out (by kernel_rfl)) (fun _ _ _ h => h) (Or.inl ⟨by rfl, ?_⟩) ?_ ?_
                 rotate_left
                 ·
                  intro w'
                  go_simp
                  with_reducible rfl
                 rotate_left
                 ·
                  simp only [Act.put, List.setIfInBounds_toArray, List.set_cons_zero, List.set_cons_succ, i64_w, i32_w]
                  rfl
                 refine pure_ (i := 7) (N := some 85) (v := ?_) (a' := ?_) #[true, true, true, true, true, true, true, true, false, false, false, false] rfl rfl (any_of HT_.out (by kernel_rfl)) (fun _ _ _ h => h) (Or.inl ⟨by rfl, ?_⟩) ?_ ?_
                 rotate_left
                 ·
                  intro w'
                  go_simp
                  with_reducible rfl
                 rotate_left
                 ·
                  simp only [Act.put, List.setIfInBounds_toArray, List.set_cons_zero, List.set_cons_succ, i64_w, i32_w]
                  rfl
                 refine pure_ (i := 8) (N := some 86) (v := ?_) (a' := ?_) #[true, true, true, true, true, true, true, true, true, false, false, false] rfl rfl (any_of HT_.out (by kernel_rfl)) (fun _ _ _ h => h) (Or.inl ⟨by rfl, ?_⟩) ?_ ?_
                 rotate_left
                 ·
                  intro w'
                  go_simp
                  with_reducible rfl
                 rotate_left
                 ·
                  simp only [Act.put, List.setIfInBounds_toArray, List.set_cons_zero, List.set_cons_succ, i64_w, i32_w]
                  rfl
                 refine one_ (i := 9) (N := some 10) #[true, true, true, true, true, true, true, true, true, true, false, false] rfl rfl (one_of HT_.out (by kernel_rfl)) (by decide) (fun K hK => ?_)
                 refine box_step ?hg (N := 10) ?hd (cs := #[.int .i64 0, .int .i64 0]) (t := 23) ?hr ?_; (case hd => rfl); (case hg => rfl); (case hr => first | (go_simp; done) | (go_simp; rfl))
                 intro gb315 hg w65 hbox hb
                 have n0_ := Aside0.mk (Kd.R_below (Kd.R_elderB (by (with_reducible repeat (first | apply Kd.R_alloc | apply Kd.R_drewN | apply Kd.R_drew)); exact HO297.out) gb315 (Nat.le_of_eq hg.symm)) hb)
                 have n1_ := Aside0.mk (Kd.R_below (Kd.R_elderB (by (with_reducible repeat (first | apply Kd.R_alloc | apply Kd.R_drewN | apply Kd.R_drew)); exact HO311.out) gb315 (Nat.le_of_eq hg.symm)) hb)
                 have n2_ := Aside0.mk (blk_below (g := gb282) (o := .cells #[.int .i64 t279, .int .i64 t280] 23 (0, 0)) (by (with_reducible repeat (first | refine blk_drewN ?_ _ | refine blk_drew ?_ | refine blk_alloc ?_ _)); exact BK282.out) hb)
                 have n3_ := Aside0.mk (blk_below (g := gb290) (o := .cells #[.int .i64 t287, .int .i64 t288] 23 (0, 0)) (by (with_reducible repeat (first | refine blk_drewN ?_ _ | refine blk_drew ?_ | refine blk_alloc ?_ _)); exact BK290.out) hb)
                 have n4_ := Aside0.mk (blk_below (g := gb301) (o := .cells #[.int .i64 t298, .int .i64 t299] 23 (0, 0)) (by (with_reducible repeat (first | refine blk_drewN ?_ _ | refine blk_drew ?_ | refine blk_alloc ?_ _)); exact BK301.out) hb)
                 have n5_ := Aside0.mk (below_step (by repeat (first | (with_reducible first | exact HB.out | apply below_alloc | apply pw_below_drewN | apply below_drew1 | refine below_set ?_ GE282.out | refine below_set ?_ GE290.out | refine below_set ?_ GE301.out) | exact HB.out)) hb)
                 have n6_ := Aside0.mk (hbox)
                 have n7_ := Aside0.mk ((by rw [hg]; exact (below_size (by repeat (first | (with_reducible first | exact HB.out | apply below_alloc | apply pw_below_drewN | apply below_drew1 | refine below_set ?_ GE282.out | refine below_set ?_ GE290.out | refine below_set ?_ GE301.out) | exact HB.out))) : w.heap.size ≤ gb315))
                 have n8_ := Aside0.mk ((by rw [hg]; exact (below_size (by repeat (first | (with_reducible first | exact HB.out | apply below_alloc | apply pw_below_drewN | apply below_drew1 | refine below_set ?_ GE282.out | refine below_set ?_ GE290.out | refine below_set ?_ GE301.out) | exact HB.out))) : w.heap.size ≤ gb315))
                 have n9_ := Aside0.mk ((by rw [hg]; exact Nat.ne_of_lt (blk_lt (g := gb282) (o := .cells #[.int .i64 t279, .int .i64 t280] 23 (0, 0)) (by (with_reducible repeat (first | refine blk_drewN ?_ _ | refine blk_drew ?_ | refine blk_alloc ?_ _)); exact BK282.out)) : gb282 ≠ gb315))
                 have n10_ := Aside0.mk ((by rw [hg]; exact Nat.ne_of_gt (blk_lt (g := gb282) (o := .cells #[.int .i64 t279, .int .i64 t280] 23 (0, 0)) (by (with_reducible repeat (first | refine blk_drewN ?_ _ | refine blk_drew ?_ | refine blk_alloc ?_ _)); exact BK282.out)) : gb315 ≠ gb282))
                 have n11_ := Aside0.mk ((by rw [hg]; exact Nat.ne_of_lt (blk_lt (g := gb290) (o := .cells #[.int .i64 t287, .int .i64 t288] 23 (0, 0)) (by (with_reducible repeat (first | refine blk_drewN ?_ _ | refine blk_drew ?_ | refine blk_alloc ?_ _)); exact BK290.out)) : gb290 ≠ gb315))
                 have n12_ := Aside0.mk ((by rw [hg]; exact Nat.ne_of_gt (blk_lt (g := gb290) (o := .cells #[.int .i64 t287, .int .i64 t288] 23 (0, 0)) (by (with_reducible repeat (first | refine blk_drewN ?_ _ | refine blk_drew ?_ | refine blk_alloc ?_ _)); exact BK290.out)) : gb315 ≠ gb290))
                 have n13_ := Aside0.mk ((by rw [hg]; exact Nat.ne_of_lt (blk_lt (g := gb301) (o := .cells #[.int .i64 t298, .int .i64 t299] 23 (0, 0)) (by (with_reducible repeat (first | refine blk_drewN ?_ _ | refine blk_drew ?_ | refine blk_alloc ?_ _)); exact BK301.out)) : gb301 ≠ gb315))
                 have n14_ := Aside0.mk ((by rw [hg]; exact Nat.ne_of_gt (blk_lt (g := gb301) (o := .cells #[.int .i64 t298, .int .i64 t299] 23 (0, 0)) (by (with_reducible repeat (first | refine blk_drewN ?_ _ | refine blk_drew ?_ | refine blk_alloc ?_ _)); exact BK301.out)) : gb315 ≠ gb301))
                 clear HO297
                 clear HO311
                 clear BK282
                 clear BK290
                 clear BK301
                 clear HB
                 have HO297 := n0_
                 have HO311 := n1_
                 have BK282 := n2_
                 have BK290 := n3_
                 have BK301 := n4_
                 have HB := n5_
                 have BK315 := n6_
                 have GW315 := n7_
                 have GE315 := n8_
                 have NB282_315 := n9_
                 have NB315_282 := n10_
                 have NB290_315 := n11_
                 have NB315_290 := n12_
                 have NB301_315 := n13_
                 have NB315_301 := n14_
                 clear n0_ n1_ n2_ n3_ n4_ n5_ n6_ n7_ n8_ n9_ n10_ n11_ n12_ n13_ n14_
                 clear hb hbox hg
                 refine hK.out _ _ ⟨(blk_cell BK301.out 0).trans rfl, (blk_cell BK301.out 1).trans rfl⟩ (fun hHeld => ?_)
                 clear hK K
                 refine norm_ (a' := ?_) ?_ ?_
                 rotate_left
                 ·
                  show Act.put _ (some 10) _ = _
                  simp only [Act.put, List.setIfInBounds_toArray, List.set_cons_zero, List.set_cons_succ, i64_w, i32_w]
                  rfl
                 exact norm_ (by simp only [Go.Proofs.YtmjglehdckgcnaaDoorW.PrintLast.putAll, Act.put, List.setIfInBounds_toArray, List.set_cons_zero, List.set_cons_succ]) (hCont (v303, .slice Ao63 y309.length co63, gb315) _ ⟨hHeld, (by (with_reducible repeat (first | apply Kd.R_alloc | apply Kd.R_drewN | apply Kd.R_drew)); exact Kd.R_mono HO297.out (fun _ hk => ⟨hk.1.2, ⟨hk.1.1.1, ⟨hk.1.1.2.1, ⟨hk.1.1.2.2, hk.2⟩⟩⟩⟩)), (by (with_reducible repeat (first | apply Kd.R_alloc | apply Kd.R_drewN | apply Kd.R_drew)); exact Kd.R_mono HO311.out (fun _ hk => ⟨hk.1.1, ⟨hk.1.2.1, ⟨hk.1.2.2.1, ⟨hk.1.2.2.2, hk.2⟩⟩⟩⟩)), (by (with_reducible repeat (first | refine blk_drewN ?_ _ | refine blk_drew ?_ | refine blk_alloc ?_ _)); exact BK282.out), (by (with_reducible repeat (first | refine blk_drewN ?_ _ | refine blk_drew ?_ | refine blk_alloc ?_ _)); exact BK290.out), (by (with_reducible repeat (first | refine blk_drewN ?_ _ | refine blk_drew ?_ | refine blk_alloc ?_ _)); exact BK301.out), (by (with_reducible repeat (first | refine blk_drewN ?_ _ | refine blk_drew ?_ | refine blk_alloc ?_ _)); exact BK315.out), GW315.out, GE315.out, NB282_315.out, NB315_282.out, NB290_315.out, NB315_290.out, NB301_315.out, NB315_301.out, (by repeat (first | (with_reducible first | exact HB.out | apply below_alloc | apply pw_below_drewN | apply below_drew1 | refine below_set ?_ GE282.out | refine below_set ?_ GE290.out | refine below_set ?_ GE301.out | refine below_set ?_ GE315.out) | exact HB.out))⟩)
                ·
                 skip
                 refine box_step ?hg (N := 10) ?hd (cs := #[.int .i64 0, .int .i64 0]) (t := 23) ?hr ?_; (case hd => rfl); (case hg => rfl); (case hr => first | (go_simp; done) | (go_simp; rfl))
                 intro gb315 hg w63 hbox hb
                 have n0_ := Aside0.mk (Kd.R_below (Kd.R_elderB (by (with_reducible repeat (first | apply Kd.R_alloc | apply Kd.R_drewN | apply Kd.R_drew)); exact HO297.out) gb315 (Nat.le_of_eq hg.symm)) hb)
                 have n1_ := Aside0.mk (Kd.R_below (Kd.R_elderB (by (with_reducible repeat (first | apply Kd.R_alloc | apply Kd.R_drewN | apply Kd.R_drew)); exact HO311.out) gb315 (Nat.le_of_eq hg.symm)) hb)
                 have n2_ := Aside0.mk (blk_below (g := gb282) (o := .cells #[.int .i64 t279, .int .i64 t280] 23 (0, 0)) (by (with_reducible repeat (first | refine blk_drewN ?_ _ | refine blk_drew ?_ | refine blk_alloc ?_ _)); exact BK282.out) hb)
                 have n3_ := Aside0.mk (blk_below (g := gb290) (o := .cells #[.int .i64 t287, .int .i64 t288] 23 (0, 0)) (by (with_reducible repeat (first | refine blk_drewN ?_ _ | refine blk_drew ?_ | refine blk_alloc ?_ _)); exact BK290.out) hb)
                 have n4_ := Aside0.mk (blk_below (g := gb301) (o := .cells #[.int .i64 t298, .int .i64 t299] 23 (0, 0)) (by (with_reducible repeat (first | refine blk_drewN ?_ _ | refine blk_drew ?_ | refine blk_alloc ?_ _)); exact BK301.out) hb)
                 have n5_ := Aside0.mk (below_step (by repeat (first | (with_reducible first | exact HB.out | apply below_alloc | apply pw_below_drewN | apply below_drew1 | refine below_set ?_ GE282.out | refine below_set ?_ GE290.out | refine below_set ?_ GE301.out) | exact HB.out)) hb)
                 have n6_ := Aside0.mk (hbox)
                 have n7_ := Aside0.mk ((by rw [hg]; exact (below_size (by repeat (first | (with_reducible first | exact HB.out | apply below_alloc | apply pw_below_drewN | apply below_drew1 | refine below_set ?_ GE282.out | refine below_set ?_ GE290.out | refine below_set ?_ GE301.out) | exact HB.out))) : w.heap.size ≤ gb315))
                 have n8_ := Aside0.mk ((by rw [hg]; exact (below_size (by repeat (first | (with_reducible first | exact HB.out | apply below_alloc | apply pw_below_drewN | apply below_drew1 | refine below_set ?_ GE282.out | refine below_set ?_ GE290.out | refine below_set ?_ GE301.out) | exact HB.out))) : w.heap.size ≤ gb315))
                 have n9_ := Aside0.mk ((by rw [hg]; exact Nat.ne_of_lt (blk_lt (g := gb282) (o := .cells #[.int .i64 t279, .int .i64 t280] 23 (0, 0)) (by (with_reducible repeat (first | refine blk_drewN ?_ _ | refine blk_drew ?_ | refine blk_alloc ?_ _)); exact BK282.out)) : gb282 ≠ gb315))
                 have n10_ := Aside0.mk ((by rw [hg]; exact Nat.ne_of_gt (blk_lt (g := gb282) (o := .cells #[.int .i64 t279, .int .i64 t280] 23 (0, 0)) (by (with_reducible repeat (first | refine blk_drewN ?_ _ | refine blk_drew ?_ | refine blk_alloc ?_ _)); exact BK282.out)) : gb315 ≠ gb282))
                 have n11_ := Aside0.mk ((by rw [hg]; exact Nat.ne_of_lt (blk_lt (g := gb290) (o := .cells #[.int .i64 t287, .int .i64 t288] 23 (0, 0)) (by (with_reducible repeat (first | refine blk_drewN ?_ _ | refine blk_drew ?_ | refine blk_alloc ?_ _)); exact BK290.out)) : gb290 ≠ gb315))
                 have n12_ := Aside0.mk ((by rw [hg]; exact Nat.ne_of_gt (blk_lt (g := gb290) (o := .cells #[.int .i64 t287, .int .i64 t288] 23 (0, 0)) (by (with_reducible repeat (first | refine blk_drewN ?_ _ | refine blk_drew ?_ | refine blk_alloc ?_ _)); exact BK290.out)) : gb315 ≠ gb290))
                 have n13_ := Aside0.mk ((by rw [hg]; exact Nat.ne_of_lt (blk_lt (g := gb301) (o := .cells #[.int .i64 t298, .int .i64 t299] 23 (0, 0)) (by (with_reducible repeat (first | refine blk_drewN ?_ _ | refine blk_drew ?_ | refine blk_alloc ?_ _)); exact BK301.out)) : gb301 ≠ gb315))
                 have n14_ := Aside0.mk ((by rw [hg]; exact Nat.ne_of_gt (blk_lt (g := gb301) (o := .cells #[.int .i64 t298, .int .i64 t299] 23 (0, 0)) (by (with_reducible repeat (first | refine blk_drewN ?_ _ | refine blk_drew ?_ | refine blk_alloc ?_ _)); exact BK301.out)) : gb315 ≠ gb301))
                 clear HO297
                 clear HO311
                 clear BK282
                 clear BK290
                 clear BK301
                 clear HB
                 have HO297 := n0_
                 have HO311 := n1_
                 have BK282 := n2_
                 have BK290 := n3_
                 have BK301 := n4_
                 have HB := n5_
                 have BK315 := n6_
                 have GW315 := n7_
                 have GE315 := n8_
                 have NB282_315 := n9_
                 have NB315_282 := n10_
                 have NB290_315 := n11_
                 have NB315_290 := n12_
                 have NB301_315 := n13_
                 have NB315_301 := n14_
                 clear n0_ n1_ n2_ n3_ n4_ n5_ n6_ n7_ n8_ n9_ n10_ n11_ n12_ n13_ n14_
                 clear hb hbox hg
                 obtain ⟨Ao64, co64, eo64⟩ := Kd.R_slice HO311.out
                 (first | subst eo64 | (injection eo64 with f1_ f2_ f3_; have f4_ := f1_.symm; have f5_ := f3_.symm; clear f1_ f2_ f3_; subst f4_; subst f5_))
                 refine hK.out _ _ ⟨(blk_cell BK301.out 0).trans rfl, (blk_cell BK301.out 1).trans rfl⟩ (fun hHeld => ?_)
                 clear hK K
                 refine norm_ (a' := ?_) ?_ ?_
                 rotate_left
                 ·
                  show Act.put _ (some 10) _ = _
                  simp only [Act.put, List.setIfInBounds_toArray, List.set_cons_zero, List.set_cons_succ, i64_w, i32_w]
                  rfl
                 refine one_ (i := 5) (N := some 84) #[true, true, true, true, true, true, false, false, false, true, false, false] rfl rfl (one_of HT_.out (by kernel_rfl)) (by decide) (fun K hK => ?_)
                 refine goes_ Tryd.func21 (by kernel_rfl) rfl #[.slice Ao64 y309.length co64] (by rfl) rfl rfl (by (try simp only [List.map_toArray, List.map_cons, List.map_nil]); first | done | rfl | (simp only [List.length_drop, List.length_take]; rfl)) ?_
                 with_reducible refine (unit_Sum.calls kj35 _ _ y309 t312 t313 t314 _ ?side1 ?side2 A46.out).mono ?_
                 (case side1 => repeat (first | exact (Kd.R_reads' HO311.out).2.2 | (with_reducible refine Kd.C_alloc ?_ _) | (with_reducible refine Kd.C_drewN ?_ _) | (with_reducible refine Kd.C_drew ?_)))
                 (case side2 => exact (Kd.R_reads' HO311.out).2.1)
                 rintro e w65 ⟨rfl, hb⟩
                 refine ⟨_, rfl, ?_⟩
                 have n0_ := Aside0.mk (Kd.R_below (by (with_reducible repeat (first | apply Kd.R_alloc | apply Kd.R_drewN | apply Kd.R_drew)); exact HO297.out) hb)
                 have n1_ := Aside0.mk (Kd.R_below (by (with_reducible repeat (first | apply Kd.R_alloc | apply Kd.R_drewN | apply Kd.R_drew)); exact HO311.out) hb)
                 have n2_ := Aside0.mk (blk_below (g := gb282) (o := .cells #[.int .i64 t279, .int .i64 t280] 23 (0, 0)) (by (with_reducible repeat (first | refine blk_drewN ?_ _ | refine blk_drew ?_ | refine blk_alloc ?_ _)); exact BK282.out) hb)
                 have n3_ := Aside0.mk (blk_below (g := gb290) (o := .cells #[.int .i64 t287, .int .i64 t288] 23 (0, 0)) (by (with_reducible repeat (first | refine blk_drewN ?_ _ | refine blk_drew ?_ | refine blk_alloc ?_ _)); exact BK290.out) hb)
                 have n4_ := Aside0.mk (blk_below (g := gb301) (o := .cells #[.int .i64 t298, .int .i64 t299] 23 (0, 0)) (by (with_reducible repeat (first | refine blk_drewN ?_ _ | refine blk_drew ?_ | refine blk_alloc ?_ _)); exact BK301.out) hb)
                 have n5_ := Aside0.mk (blk_below (g := gb315) (o := .cells #[.int .i64 0, .int .i64 0] 23 (0, 0)) (by (with_reducible repeat (first | refine blk_drewN ?_ _ | refine blk_drew ?_ | refine blk_alloc ?_ _)); exact BK315.out) hb)
                 have n6_ := Aside0.mk (below_step (by repeat (first | (with_reducible first | exact HB.out | apply below_alloc | apply pw_below_drewN | apply below_drew1 | refine below_set ?_ GE282.out | refine below_set ?_ GE290.out | refine below_set ?_ GE301.out | refine below_set ?_ GE315.out) | exact HB.out)) hb)
                 clear HO297
                 clear HO311
                 clear BK282
                 clear BK290
                 clear BK301
                 clear BK315
                 clear HB
                 have HO297 := n0_
                 have HO311 := n1_
                 have BK282 := n2_
                 have BK290 := n3_
                 have BK301 := n4_
                 have BK315 := n5_
                 have HB := n6_
                 clear n0_ n1_ n2_ n3_ n4_ n5_ n6_
                 (try clear hb)
                 (try clear hb2)
                 (try clear hk)
                 (try clear hi)
                 refine hK.out _ _ ⟨(blk_cell BK301.out 0).trans rfl, (blk_cell BK301.out 1).trans rfl⟩ (fun hHeld => ?_)
                 clear hK K
                 refine norm_ (a' := ?_) ?_ ?_
                 rotate_left
                 ·
                  show Act.put _ (some 84) _ = _
                  simp only [Act.put, List.setIfInBounds_toArray, List.set_cons_zero, List.set_cons_succ, i64_w, i32_w]
                  rfl
                 refine pure_ (i := 6) (N := some 78) (v := ?_) (a' := ?_) #[true, true, true, true, true, true, true, false, false, true, false, false] rfl rfl (any_of HT_.out (by kernel_rfl)) (fun _ _ _ h => h) (Or.inl ⟨by rfl, ?_⟩) ?_ ?_
                 rotate_left
                 ·
                  intro w'
                  go_simp
                  with_reducible rfl
                 rotate_left
                 ·
                  simp only [Act.put, List.setIfInBounds_toArray, List.set_cons_zero, List.set_cons_succ, i64_w, i32_w]
                  rfl
                 refine pure_ (i := 7) (N := some 85) (v := ?_) (a' := ?_) #[true, true, true, true, true, true, true, true, false, true, false, false] rfl rfl (any_of HT_.out (by kernel_rfl)) (fun _ _ _ h => h) (Or.inl ⟨by rfl, ?_⟩) ?_ ?_
                 rotate_left
                 ·
                  intro w'
                  go_simp
                  with_reducible rfl
                 rotate_left
                 ·
                  simp only [Act.put, List.setIfInBounds_toArray, List.set_cons_zero, List.set_cons_succ, i64_w, i32_w]
                  rfl
                 refine pure_ (i := 8) (N := some 86) (v := ?_) (a' := ?_) #[true, true, true, true, true, true, true, true, true, true, false, false] rfl rfl (any_of HT_.out (by kernel_rfl)) (fun _ _ _ h => h) (Or.inl ⟨by rfl, ?_⟩) ?_ ?_
                 rotate_left
                 ·
                  intro w'
                  go_simp
                  with_reducible rfl
                 rotate_left
                 ·
                  simp only [Act.put, List.setIfInBounds_toArray, List.set_cons_zero, List.set_cons_succ, i64_w, i32_w]
                  rfl
                 exact norm_ (by simp only [Go.Proofs.YtmjglehdckgcnaaDoorW.PrintLast.putAll, Act.put, List.setIfInBounds_toArray, List.set_cons_zero, List.set_cons_succ]) (hCont (v303, .slice Ao64 y309.length co64, gb315) _ ⟨hHeld, (by (with_reducible repeat (first | apply Kd.R_alloc | apply Kd.R_drewN | apply Kd.R_drew)); exact Kd.R_mono HO297.out (fun _ hk => ⟨hk.1.2, ⟨hk.1.1.1, ⟨hk.1.1.2.1, ⟨hk.1.1.2.2, hk.2⟩⟩⟩⟩)), (by (with_reducible repeat (first | apply Kd.R_alloc | apply Kd.R_drewN | apply Kd.R_drew)); exact Kd.R_mono HO311.out (fun _ hk => ⟨hk.1.1, ⟨hk.1.2.1, ⟨hk.1.2.2.1, ⟨hk.1.2.2.2, hk.2⟩⟩⟩⟩)), (by (with_reducible repeat (first | refine blk_drewN ?_ _ | refine blk_drew ?_ | refine blk_alloc ?_ _)); exact BK282.out), (by (with_reducible repeat (first | refine blk_drewN ?_ _ | refine blk_drew ?_ | refine blk_alloc ?_ _)); exact BK290.out), (by (with_reducible repeat (first | refine blk_drewN ?_ _ | refine blk_drew ?_ | refine blk_alloc ?_ _)); exact BK301.out), (by (with_reducible repeat (first | refine blk_drewN ?_ _ | refine blk_drew ?_ | refine blk_alloc ?_ _)); exact BK315.out), GW315.out, GE315.out, NB282_315.out, NB315_282.out, NB290_315.out, NB315_290.out, NB301_315.out, NB315_301.out, (by repeat (first | (with_reducible first | exact HB.out | apply below_alloc | apply pw_below_drewN | apply below_drew1 | refine below_set ?_ GE282.out | refine below_set ?_ GE290.out | refine below_set ?_ GE301.out | refine below_set ?_ GE315.out) | exact HB.out))⟩)
               ·
                skip
                refine box_step ?hg (N := 10) ?hd (cs := #[.int .i64 0, .int .i64 0]) (t := 23) ?hr ?_; (case hd => rfl); (case hg => rfl); (case hr => first | (go_simp; done) | (go_simp; rfl))
                intro gb315 hg w62 hbox hb
                have n0_ := Aside0.mk (Kd.R_below (Kd.R_elderB (by (with_reducible repeat (first | apply Kd.R_alloc | apply Kd.R_drewN | apply Kd.R_drew)); exact HO297.out) gb315 (Nat.le_of_eq hg.symm)) hb)
                have n1_ := Aside0.mk (Kd.R_below (Kd.R_elderB (by (with_reducible repeat (first | apply Kd.R_alloc | apply Kd.R_drewN | apply Kd.R_drew)); exact HO304.out) gb315 (Nat.le_of_eq hg.symm)) hb)
                have n2_ := Aside0.mk (blk_below (g := gb282) (o := .cells #[.int .i64 t279, .int .i64 t280] 23 (0, 0)) (by (with_reducible repeat (first | refine blk_drewN ?_ _ | refine blk_drew ?_ | refine blk_alloc ?_ _)); exact BK282.out) hb)
                have n3_ := Aside0.mk (blk_below (g := gb290) (o := .cells #[.int .i64 t287, .int .i64 t288] 23 (0, 0)) (by (with_reducible repeat (first | refine blk_drewN ?_ _ | refine blk_drew ?_ | refine blk_alloc ?_ _)); exact BK290.out) hb)
                have n4_ := Aside0.mk (blk_below (g := gb301) (o := .cells #[.int .i64 t298, .int .i64 t299] 23 (0, 0)) (by (with_reducible repeat (first | refine blk_drewN ?_ _ | refine blk_drew ?_ | refine blk_alloc ?_ _)); exact BK301.out) hb)
                have n5_ := Aside0.mk (below_step (by repeat (first | (with_reducible first | exact HB.out | apply below_alloc | apply pw_below_drewN | apply below_drew1 | refine below_set ?_ GE282.out | refine below_set ?_ GE290.out | refine below_set ?_ GE301.out) | exact HB.out)) hb)
                have n6_ := Aside0.mk (hbox)
                have n7_ := Aside0.mk ((by rw [hg]; exact (below_size (by repeat (first | (with_reducible first | exact HB.out | apply below_alloc | apply pw_below_drewN | apply below_drew1 | refine below_set ?_ GE282.out | refine below_set ?_ GE290.out | refine below_set ?_ GE301.out) | exact HB.out))) : w.heap.size ≤ gb315))
                have n8_ := Aside0.mk ((by rw [hg]; exact (below_size (by repeat (first | (with_reducible first | exact HB.out | apply below_alloc | apply pw_below_drewN | apply below_drew1 | refine below_set ?_ GE282.out | refine below_set ?_ GE290.out | refine below_set ?_ GE301.out) | exact HB.out))) : w.heap.size ≤ gb315))
                have n9_ := Aside0.mk ((by rw [hg]; exact Nat.ne_of_lt (blk_lt (g := gb282) (o := .cells #[.int .i64 t279, .int .i64 t280] 23 (0, 0)) (by (with_reducible repeat (first | refine blk_drewN ?_ _ | refine blk_drew ?_ | refine blk_alloc ?_ _)); exact BK282.out)) : gb282 ≠ gb315))
                have n10_ := Aside0.mk ((by rw [hg]; exact Nat.ne_of_gt (blk_lt (g := gb282) (o := .cells #[.int .i64 t279, .int .i64 t280] 23 (0, 0)) (by (with_reducible repeat (first | refine blk_drewN ?_ _ | refine blk_drew ?_ | refine blk_alloc ?_ _)); exact BK282.out)) : gb315 ≠ gb282))
                have n11_ := Aside0.mk ((by rw [hg]; exact Nat.ne_of_lt (blk_lt (g := gb290) (o := .cells #[.int .i64 t287, .int .i64 t288] 23 (0, 0)) (by (with_reducible repeat (first | refine blk_drewN ?_ _ | refine blk_drew ?_ | refine blk_alloc ?_ _)); exact BK290.out)) : gb290 ≠ gb315))
                have n12_ := Aside0.mk ((by rw [hg]; exact Nat.ne_of_gt (blk_lt (g := gb290) (o := .cells #[.int .i64 t287, .int .i64 t288] 23 (0, 0)) (by (with_reducible repeat (first | refine blk_drewN ?_ _ | refine blk_drew ?_ | refine blk_alloc ?_ _)); exact BK290.out)) : gb315 ≠ gb290))
                have n13_ := Aside0.mk ((by rw [hg]; exact Nat.ne_of_lt (blk_lt (g := gb301) (o := .cells #[.int .i64 t298, .int .i64 t299] 23 (0, 0)) (by (with_reducible repeat (first | refine blk_drewN ?_ _ | refine blk_drew ?_ | refine blk_alloc ?_ _)); exact BK301.out)) : gb301 ≠ gb315))
                have n14_ := Aside0.mk ((by rw [hg]; exact Nat.ne_of_gt (blk_lt (g := gb301) (o := .cells #[.int .i64 t298, .int .i64 t299] 23 (0, 0)) (by (with_reducible repeat (first | refine blk_drewN ?_ _ | refine blk_drew ?_ | refine blk_alloc ?_ _)); exact BK301.out)) : gb315 ≠ gb301))
                clear HO297
                clear HO304
                clear BK282
                clear BK290
                clear BK301
                clear HB
                have HO297 := n0_
                have HO304 := n1_
                have BK282 := n2_
                have BK290 := n3_
                have BK301 := n4_
                have HB := n5_
                have BK315 := n6_
                have GW315 := n7_
                have GE315 := n8_
                have NB282_315 := n9_
                have NB315_282 := n10_
                have NB290_315 := n11_
                have NB315_290 := n12_
                have NB301_315 := n13_
                have NB315_301 := n14_
                clear n0_ n1_ n2_ n3_ n4_ n5_ n6_ n7_ n8_ n9_ n10_ n11_ n12_ n13_ n14_
                clear hb hbox hg
                refine hK.out _ _ ⟨(blk_cell BK301.out 0).trans rfl, (blk_cell BK301.out 1).trans rfl⟩ (fun hHeld => ?_)
                clear hK K
                refine norm_ (a' := ?_) ?_ ?_
                rotate_left
                ·
                 show Act.put _ (some 10) _ = _
                 simp only [Act.put, List.setIfInBounds_toArray, List.set_cons_zero, List.set_cons_succ, i64_w, i32_w]
                 rfl
                refine one_ (i := 4) (N := some 83) #[true, true, true, true, true, false, false, false, false, true, false, false] rfl rfl (one_of HT_.out (by kernel_rfl)) (by decide) (fun K hK => ?_)
                refine Kd.R_append_rows_step k23 (w0 := w) w.heap.size (by rfl) (.tmp 80) (.tmp 82) 42 23 (.agg #[(.int .i64 0), (.int .i64 0)]) 16 rfl Tryd.underlying42 info23 rfl (by decide) (by omega) v303 y302 y305 _ _ _ (fun k_ => some k_ ≠ (.slice Ao51 t295.length co51 : Value).ownBlock ∧ k_ ≠ gb282 ∧ k_ ≠ gb290 ∧ k_ ≠ gb301 ∧ k_ ≠ gb315) (fun _ => False) rfl rfl ?aO ?aR (fun _ _ h => h) (fun _ h => h.elim) ?aF ?aB ?aS ?aL ?_
                (case aR => repeat (first | exact (Kd.C_below HR308.out HB.out) | (with_reducible refine Kd.C_alloc ?_ _) | (with_reducible refine Kd.C_drewN ?_ _) | (with_reducible refine Kd.C_drew ?_)))
                (case aB => exact (by repeat (first | (with_reducible first | exact HB.out | apply below_alloc | apply pw_below_drewN | apply below_drew1 | refine below_set ?_ GE282.out | refine below_set ?_ GE290.out | refine below_set ?_ GE301.out | refine below_set ?_ GE315.out) | exact HB.out)))
                (case aF => exact (fun k_ hk => ⟨Kd.fresh' (Kd.R_lt (by (with_reducible repeat (first | apply Kd.R_alloc | apply Kd.R_drewN | apply Kd.R_drew)); exact HO297.out)) k_ hk, Kd.freshB (g := gb282) (o := .cells #[.int .i64 t279, .int .i64 t280] 23 (0, 0)) (by (with_reducible repeat (first | refine blk_drewN ?_ _ | refine blk_drew ?_ | refine blk_alloc ?_ _)); exact BK282.out) k_ hk, Kd.freshB (g := gb290) (o := .cells #[.int .i64 t287, .int .i64 t288] 23 (0, 0)) (by (with_reducible repeat (first | refine blk_drewN ?_ _ | refine blk_drew ?_ | refine blk_alloc ?_ _)); exact BK290.out) k_ hk, Kd.freshB (g := gb301) (o := .cells #[.int .i64 t298, .int .i64 t299] 23 (0, 0)) (by (with_reducible repeat (first | refine blk_drewN ?_ _ | refine blk_drew ?_ | refine blk_alloc ?_ _)); exact BK301.out) k_ hk, Kd.freshB (g := gb315) (o := .cells #[.int .i64 0, .int .i64 0] 23 (0, 0)) (by (with_reducible repeat (first | refine blk_drewN ?_ _ | refine blk_drew ?_ | refine blk_alloc ?_ _)); exact BK315.out) k_ hk⟩))
                (case aO => exact (by (with_reducible repeat (first | apply Kd.R_alloc | apply Kd.R_drewN | apply Kd.R_drew)); exact Kd.R_mono HO304.out (fun _ hk => ⟨hk.1.1.1.1.2, ⟨hk.1.1.1.2, ⟨hk.1.1.2, ⟨hk.1.2, hk.2⟩⟩⟩⟩)))
                (case aS => exact (below_size (by repeat (first | (with_reducible first | exact HB.out | apply below_alloc | apply pw_below_drewN | apply below_drew1 | refine below_set ?_ GE282.out | refine below_set ?_ GE290.out | refine below_set ?_ GE301.out | refine below_set ?_ GE315.out) | exact HB.out))))
                (case aL => have := LMc45.out; omega)
                intro v310 w63 ho hb hg hat
                rw [← Ny309.out] at ho
                have n0_ := Aside0.mk (blk_grown (g := gb282) (o := .cells #[.int .i64 t279, .int .i64 t280] 23 (0, 0)) (by (with_reducible repeat (first | refine blk_drewN ?_ _ | refine blk_drew ?_ | refine blk_alloc ?_ _)); exact BK282.out) hg (Kd.R_away HO304.out (fun _ hk => hk.1.1.1.2)))
                have n1_ := Aside0.mk (blk_grown (g := gb290) (o := .cells #[.int .i64 t287, .int .i64 t288] 23 (0, 0)) (by (with_reducible repeat (first | refine blk_drewN ?_ _ | refine blk_drew ?_ | refine blk_alloc ?_ _)); exact BK290.out) hg (Kd.R_away HO304.out (fun _ hk => hk.1.1.2)))
                have n2_ := Aside0.mk (Kd.R_after (ok := (fun k_ => k_ ≠ gb282 ∧ k_ ≠ gb290 ∧ k_ ≠ gb301 ∧ k_ ≠ gb315)) (by (with_reducible repeat (first | apply Kd.R_alloc | apply Kd.R_drewN | apply Kd.R_drew)); exact Kd.R_mono HO297.out (fun _ hk => ⟨⟨hk.1.1.1, ⟨hk.1.1.2.1, ⟨hk.1.1.2.2, hk.2⟩⟩⟩, hk.1.2⟩)) hg hat)
                have n3_ := Aside0.mk (blk_grown (g := gb301) (o := .cells #[.int .i64 t298, .int .i64 t299] 23 (0, 0)) (by (with_reducible repeat (first | refine blk_drewN ?_ _ | refine blk_drew ?_ | refine blk_alloc ?_ _)); exact BK301.out) hg (Kd.R_away HO304.out (fun _ hk => hk.1.2)))
                have n4_ := Aside0.mk (blk_grown (g := gb315) (o := .cells #[.int .i64 0, .int .i64 0] 23 (0, 0)) (by (with_reducible repeat (first | refine blk_drewN ?_ _ | refine blk_drew ?_ | refine blk_alloc ?_ _)); exact BK315.out) hg (Kd.R_away HO304.out (fun _ hk => hk.2)))
                have n5_ := Aside0.mk (hb)
                have n6_ := Aside0.mk (ho)
                clear BK282
                clear BK290
                clear HO297
                clear BK301
                clear BK315
                clear HB
                clear HO304
                have BK282 := n0_
                have BK290 := n1_
                have HO297 := n2_
                have BK301 := n3_
                have BK315 := n4_
                have HB := n5_
                have HO311 := n6_
                clear n0_ n1_ n2_ n3_ n4_ n5_ n6_
                clear ho hb hg hat
                obtain ⟨Ao64, co64, eo64⟩ := Kd.R_slice HO311.out
                (first | subst eo64 | (injection eo64 with f1_ f2_ f3_; have f4_ := f1_.symm; have f5_ := f3_.symm; clear f1_ f2_ f3_; subst f4_; subst f5_))
                refine hK.out _ _ ⟨(blk_cell BK301.out 0).trans rfl, (blk_cell BK301.out 1).trans rfl⟩ (fun hHeld => ?_)
                clear hK K
                refine norm_ (a' := ?_) ?_ ?_
                rotate_left
                ·
                 show Act.put _ (some 83) _ = _
                 simp only [Act.put, List.setIfInBounds_toArray, List.set_cons_zero, List.set_cons_succ, i64_w, i32_w]
                 rfl
                refine one_ (i := 5) (N := some 84) #[true, true, true, true, true, true, false, false, false, true, false, false] rfl rfl (one_of HT_.out (by kernel_rfl)) (by decide) (fun K hK => ?_)
                refine goes_ Tryd.func21 (by kernel_rfl) rfl #[.slice Ao64 y309.length co64] (by rfl) rfl rfl (by (try simp only [List.map_toArray, List.map_cons, List.map_nil]); first | done | rfl | (simp only [List.length_drop, List.length_take]; rfl)) ?_
                with_reducible refine (unit_Sum.calls kj35 _ _ y309 t312 t313 t314 _ ?side1 ?side2 A46.out).mono ?_
                (case side1 => repeat (first | exact (Kd.R_reads' HO311.out).2.2 | (with_reducible refine Kd.C_alloc ?_ _) | (with_reducible refine Kd.C_drewN ?_ _) | (with_reducible refine Kd.C_drew ?_)))
                (case side2 => exact (Kd.R_reads' HO311.out).2.1)
                rintro e w65 ⟨rfl, hb⟩
                refine ⟨_, rfl, ?_⟩
                have n0_ := Aside0.mk (Kd.R_below (by (with_reducible repeat (first | apply Kd.R_alloc | apply Kd.R_drewN | apply Kd.R_drew)); exact HO297.out) hb)
                have n1_ := Aside0.mk (Kd.R_below (by (with_reducible repeat (first | apply Kd.R_alloc | apply Kd.R_drewN | apply Kd.R_drew)); exact HO311.out) hb)
                have n2_ := Aside0.mk (blk_below (g := gb282) (o := .cells #[.int .i64 t279, .int .i64 t280] 23 (0, 0)) (by (with_reducible repeat (first | refine blk_drewN ?_ _ | refine blk_drew ?_ | refine blk_alloc ?_ _)); exact BK282.out) hb)
                have n3_ := Aside0.mk (blk_below (g := gb290) (o := .cells #[.int .i64 t287, .int .i64 t288] 23 (0, 0)) (by (with_reducible repeat (first | refine blk_drewN ?_ _ | refine blk_drew ?_ | refine blk_alloc ?_ _)); exact BK290.out) hb)
                have n4_ := Aside0.mk (blk_below (g := gb301) (o := .cells #[.int .i64 t298, .int .i64 t299] 23 (0, 0)) (by (with_reducible repeat (first | refine blk_drewN ?_ _ | refine blk_drew ?_ | refine blk_alloc ?_ _)); exact BK301.out) hb)
                have n5_ := Aside0.mk (blk_below (g := gb315) (o := .cells #[.int .i64 0, .int .i64 0] 23 (0, 0)) (by (with_reducible repeat (first | refine blk_drewN ?_ _ | refine blk_drew ?_ | refine blk_alloc ?_ _)); exact BK315.out) hb)
                have n6_ := Aside0.mk (below_step (by repeat (first | (with_reducible first | exact HB.out | apply below_alloc | apply pw_below_drewN | apply below_drew1 | refine below_set ?_ GE282.out | refine below_set ?_ GE290.out | refine below_set ?_ GE301.out | refine below_set ?_ GE315.out) | exact HB.out)) hb)
                clear HO297
                clear HO311
                clear BK282
                clear BK290
                clear BK301
                clear BK315
                clear HB
                have HO297 := n0_
                have HO311 := n1_
                have BK282 := n2_
                have BK290 := n3_
                have BK301 := n4_
                have BK315 := n5_
                have HB := n6_
                clear n0_ n1_ n2_ n3_ n4_ n5_ n6_
                (try clear hb)
                (try clear hb2)
                (try clear hk)
                (try clear hi)
                refine hK.out _ _ ⟨(blk_cell BK301.out 0).trans rfl, (blk_cell BK301.out 1).trans rfl⟩ (fun hHeld => ?_)
                clear hK K
                refine norm_ (a' := ?_) ?_ ?_
                rotate_left
                ·
                 show Act.put _ (some 84) _ = _
                 simp only [Act.put, List.setIfInBounds_toArray, List.set_cons_zero, List.set_cons_succ, i64_w, i32_w]
                 rfl
                refine pure_ (i := 6) (N := some 78) (v := ?_) (a' := ?_) #[true, true, true, true, true, true, true, false, false, true, false, false] rfl rfl (any_of HT_.out (by kernel_rfl)) (fun _ _ _ h => h) (Or.inl ⟨by rfl, ?_⟩) ?_ ?_
                rotate_left
                ·
                 intro w'
                 go_simp
                 with_reducible rfl
                rotate_left
                ·
                 simp only [Act.put, List.setIfInBounds_toArray, List.set_cons_zero, List.set_cons_succ, i64_w, i32_w]
                 rfl
                refine pure_ (i := 7) (N := some 85) (v := ?_) (a' := ?_) #[true, true, true, true, true, true, true, true, false, true, false, false] rfl rfl (any_of HT_.out (by kernel_rfl)) (fun _ _ _ h => h) (Or.inl ⟨by rfl, ?_⟩) ?_ ?_
                rotate_left
                ·
                 intro w'
                 go_simp
                 with_reducible rfl
                rotate_left
                ·
                 simp only [Act.put, List.setIfInBounds_toArray, List.set_cons_zero, List.set_cons_succ, i64_w, i32_w]
                 rfl
                refine pure_ (i := 8) (N := some 86) (v := ?_) (a' := ?_) #[true, true, true, true, true, true, true, true, true, true, false, false] rfl rfl (any_of HT_.out (by kernel_rfl)) (fun _ _ _ h => h) (Or.inl ⟨by rfl, ?_⟩) ?_ ?_
                rotate_left
                ·
                 intro w'
                 go_simp
                 with_reducible rfl
                rotate_left
                ·
                 simp only [Act.put, List.setIfInBounds_toArray, List.set_cons_zero, List.set_cons_succ, i64_w, i32_w]
                 rfl
                exact norm_ (by simp only [Go.Proofs.YtmjglehdckgcnaaDoorW.PrintLast.putAll, Act.put, List.setIfInBounds_toArray, List.set_cons_zero, List.set_cons_succ]) (hCont (v303, .slice Ao64 y309.length co64, gb315) _ ⟨hHeld, (by (with_reducible repeat (first | apply Kd.R_alloc | apply Kd.R_drewN | apply Kd.R_drew)); exact Kd.R_mono HO297.out (fun _ hk => ⟨hk.2, ⟨hk.1.1, ⟨hk.1.2.1, ⟨hk.1.2.2.1, hk.1.2.2.2⟩⟩⟩⟩)), (by (with_reducible repeat (first | apply Kd.R_alloc | apply Kd.R_drewN | apply Kd.R_drew)); exact HO311.out), (by (with_reducible repeat (first | refine blk_drewN ?_ _ | refine blk_drew ?_ | refine blk_alloc ?_ _)); exact BK282.out), (by (with_reducible repeat (first | refine blk_drewN ?_ _ | refine blk_drew ?_ | refine blk_alloc ?_ _)); exact BK290.out), (by (with_reducible repeat (first | refine blk_drewN ?_ _ | refine blk_drew ?_ | refine blk_alloc ?_ _)); exact BK301.out), (by (with_reducible repeat (first | refine blk_drewN ?_ _ | refine blk_drew ?_ | refine blk_alloc ?_ _)); exact BK315.out), GW315.out, GE315.out, NB282_315.out, NB315_282.out, NB290_315.out, NB315_290.out, NB301_315.out, NB315_301.out, (by repeat (first | (with_reducible first | exact HB.out | apply below_alloc | apply pw_below_drewN | apply below_drew1 | refine below_set ?_ GE282.out | refine below_set ?_ GE290.out | refine below_set ?_ GE301.out | refine below_set ?_ GE315.out) | exact HB.out))⟩)
              ·
               skip
               refine box_step ?hg (N := 10) ?hd (cs := #[.int .i64 0, .int .i64 0]) (t := 23) ?hr ?_; (case hd => rfl); (case hg => rfl); (case hr => first | (go_simp; done) | (go_simp; rfl))
               intro gb315 hg w60 hbox hb
               have n0_ := Aside0.mk (Kd.R_below (Kd.R_elderB (by (with_reducible repeat (first | apply Kd.R_alloc | apply Kd.R_drewN | apply Kd.R_drew)); exact HO297.out) gb315 (Nat.le_of_eq hg.symm)) hb)
               have n1_ := Aside0.mk (blk_below (g := gb282) (o := .cells #[.int .i64 t279, .int .i64 t280] 23 (0, 0)) (by (with_reducible repeat (first | refine blk_drewN ?_ _ | refine blk_drew ?_ | refine blk_alloc ?_ _)); exact BK282.out) hb)
               have n2_ := Aside0.mk (blk_below (g := gb290) (o := .cells #[.int .i64 t287, .int .i64 t288] 23 (0, 0)) (by (with_reducible repeat (first | refine blk_drewN ?_ _ | refine blk_drew ?_ | refine blk_alloc ?_ _)); exact BK290.out) hb)
               have n3_ := Aside0.mk (blk_below (g := gb301) (o := .cells #[.int .i64 t298, .int .i64 t299] 23 (0, 0)) (by (with_reducible repeat (first | refine blk_drewN ?_ _ | refine blk_drew ?_ | refine blk_alloc ?_ _)); exact BK301.out) hb)
               have n4_ := Aside0.mk (below_step (by repeat (first | (with_reducible first | exact HB.out | apply below_alloc | apply pw_below_drewN | apply below_drew1 | refine below_set ?_ GE282.out | refine below_set ?_ GE290.out | refine below_set ?_ GE301.out) | exact HB.out)) hb)
               have n5_ := Aside0.mk (hbox)
               have n6_ := Aside0.mk ((by rw [hg]; exact (below_size (by repeat (first | (with_reducible first | exact HB.out | apply below_alloc | apply pw_below_drewN | apply below_drew1 | refine below_set ?_ GE282.out | refine below_set ?_ GE290.out | refine below_set ?_ GE301.out) | exact HB.out))) : w.heap.size ≤ gb315))
               have n7_ := Aside0.mk ((by rw [hg]; exact (below_size (by repeat (first | (with_reducible first | exact HB.out | apply below_alloc | apply pw_below_drewN | apply below_drew1 | refine below_set ?_ GE282.out | refine below_set ?_ GE290.out | refine below_set ?_ GE301.out) | exact HB.out))) : w.heap.size ≤ gb315))
               have n8_ := Aside0.mk ((by rw [hg]; exact Nat.ne_of_lt (blk_lt (g := gb282) (o := .cells #[.int .i64 t279, .int .i64 t280] 23 (0, 0)) (by (with_reducible repeat (first | refine blk_drewN ?_ _ | refine blk_drew ?_ | refine blk_alloc ?_ _)); exact BK282.out)) : gb282 ≠ gb315))
               have n9_ := Aside0.mk ((by rw [hg]; exact Nat.ne_of_gt (blk_lt (g := gb282) (o := .cells #[.int .i64 t279, .int .i64 t280] 23 (0, 0)) (by (with_reducible repeat (first | refine blk_drewN ?_ _ | refine blk_drew ?_ | refine blk_alloc ?_ _)); exact BK282.out)) : gb315 ≠ gb282))
               have n10_ := Aside0.mk ((by rw [hg]; exact Nat.ne_of_lt (blk_lt (g := gb290) (o := .cells #[.int .i64 t287, .int .i64 t288] 23 (0, 0)) (by (with_reducible repeat (first | refine blk_drewN ?_ _ | refine blk_drew ?_ | refine blk_alloc ?_ _)); exact BK290.out)) : gb290 ≠ gb315))
               have n11_ := Aside0.mk ((by rw [hg]; exact Nat.ne_of_gt (blk_lt (g := gb290) (o := .cells #[.int .i64 t287, .int .i64 t288] 23 (0, 0)) (by (with_reducible repeat (first | refine blk_drewN ?_ _ | refine blk_drew ?_ | refine blk_alloc ?_ _)); exact BK290.out)) : gb315 ≠ gb290))
               have n12_ := Aside0.mk ((by rw [hg]; exact Nat.ne_of_lt (blk_lt (g := gb301) (o := .cells #[.int .i64 t298, .int .i64 t299] 23 (0, 0)) (by (with_reducible repeat (first | refine blk_drewN ?_ _ | refine blk_drew ?_ | refine blk_alloc ?_ _)); exact BK301.out)) : gb301 ≠ gb315))
               have n13_ := Aside0.mk ((by rw [hg]; exact Nat.ne_of_gt (blk_lt (g := gb301) (o := .cells #[.int .i64 t298, .int .i64 t299] 23 (0, 0)) (by (with_reducible repeat (first | refine blk_drewN ?_ _ | refine blk_drew ?_ | refine blk_alloc ?_ _)); exact BK301.out)) : gb315 ≠ gb301))
               clear HO297
               clear BK282
               clear BK290
               clear BK301
               clear HB
               have HO297 := n0_
               have BK282 := n1_
               have BK290 := n2_
               have BK301 := n3_
               have HB := n4_
               have BK315 := n5_
               have GW315 := n6_
               have GE315 := n7_
               have NB282_315 := n8_
               have NB315_282 := n9_
               have NB290_315 := n10_
               have NB315_290 := n11_
               have NB301_315 := n12_
               have NB315_301 := n13_
               clear n0_ n1_ n2_ n3_ n4_ n5_ n6_ n7_ n8_ n9_ n10_ n11_ n12_ n13_
               clear hb hbox hg
               refine hK.out _ _ ⟨(blk_cell BK301.out 0).trans rfl, (blk_cell BK301.out 1).trans rfl⟩ (fun hHeld => ?_)
               clear hK K
               refine norm_ (a' := ?_) ?_ ?_
               rotate_left
               ·
                show Act.put _ (some 10) _ = _
                simp only [Act.put, List.setIfInBounds_toArray, List.set_cons_zero, List.set_cons_succ, i64_w, i32_w]
                rfl
               refine one_ (i := 1) (N := some 80) #[true, true, true, true, false, false, false, false, false, true, false, false] rfl rfl (one_of HT_.out (by kernel_rfl)) (by decide) (fun K hK => ?_)
               refine Kd.R_lit_step k23 _ 23 ?hg (N := 80) ?hd (xs := ([(⟨t298, t299⟩ : S23)] : List (S23))) (inner := [.int .i64 t298, .int .i64 t299]) (ok := fun _ => True) (okp := fun _ => True) ?hr ?hp (fun _ hk => hk) trivial (Below.refl _ _) (Nat.le_refl _) (by simp) ?_; (case hd => rfl); (case hg => rfl); (case hr => first | (go_simp; done) | (go_simp; rfl)); (case hp => exact (Reps.c2 (show Kd.M k23 _ _ _ (⟨t298, t299⟩ : S23) [.int .i64 t298, .int .i64 t299] from (k23_mkM _ _ _ (⟨t298, t299⟩ : S23) )) (Reps.none _ _)))
               intro v303 w61 ho62 hb hg_ hnew_
               clear hg_ hnew_
               (first | rw [← Ny302.out] at ho62 | (simp only [Int.reduceToNat] at ho62; rw [← Ny302.out] at ho62))
               have n0_ := Aside0.mk (Kd.R_elder' (by (with_reducible repeat (first | apply Kd.R_alloc | apply Kd.R_drewN | apply Kd.R_drew)); exact HO297.out) (Kd.R_base ho62) hb)
               have n1_ := Aside0.mk (Kd.R_lower (Kd.R_newB (Kd.R_newB (Kd.R_newB (Kd.R_newB (Kd.R_new' ho62 (Kd.R_lt (by (with_reducible repeat (first | apply Kd.R_alloc | apply Kd.R_drewN | apply Kd.R_drew)); exact HO297.out))) (g := gb282) (o := .cells #[.int .i64 t279, .int .i64 t280] 23 (0, 0)) (by (with_reducible repeat (first | refine blk_drewN ?_ _ | refine blk_drew ?_ | refine blk_alloc ?_ _)); exact BK282.out)) (g := gb290) (o := .cells #[.int .i64 t287, .int .i64 t288] 23 (0, 0)) (by (with_reducible repeat (first | refine blk_drewN ?_ _ | refine blk_drew ?_ | refine blk_alloc ?_ _)); exact BK290.out)) (g := gb301) (o := .cells #[.int .i64 t298, .int .i64 t299] 23 (0, 0)) (by (with_reducible repeat (first | refine blk_drewN ?_ _ | refine blk_drew ?_ | refine blk_alloc ?_ _)); exact BK301.out)) (g := gb315) (o := .cells #[.int .i64 0, .int .i64 0] 23 (0, 0)) (by (with_reducible repeat (first | refine blk_drewN ?_ _ | refine blk_drew ?_ | refine blk_alloc ?_ _)); exact BK315.out)) (below_size (by repeat (first | (with_reducible first | exact HB.out | apply below_alloc | apply pw_below_drewN | apply below_drew1 | refine below_set ?_ GE282.out | refine below_set ?_ GE290.out | refine below_set ?_ GE301.out | refine below_set ?_ GE315.out) | exact HB.out))))
               have n2_ := Aside0.mk (blk_below (g := gb282) (o := .cells #[.int .i64 t279, .int .i64 t280] 23 (0, 0)) (by (with_reducible repeat (first | refine blk_drewN ?_ _ | refine blk_drew ?_ | refine blk_alloc ?_ _)); exact BK282.out) hb)
               have n3_ := Aside0.mk (blk_below (g := gb290) (o := .cells #[.int .i64 t287, .int .i64 t288] 23 (0, 0)) (by (with_reducible repeat (first | refine blk_drewN ?_ _ | refine blk_drew ?_ | refine blk_alloc ?_ _)); exact BK290.out) hb)
               have n4_ := Aside0.mk (blk_below (g := gb301) (o := .cells #[.int .i64 t298, .int .i64 t299] 23 (0, 0)) (by (with_reducible repeat (first | refine blk_drewN ?_ _ | refine blk_drew ?_ | refine blk_alloc ?_ _)); exact BK301.out) hb)
               have n5_ := Aside0.mk (blk_below (g := gb315) (o := .cells #[.int .i64 0, .int .i64 0] 23 (0, 0)) (by (with_reducible repeat (first | refine blk_drewN ?_ _ | refine blk_drew ?_ | refine blk_alloc ?_ _)); exact BK315.out) hb)
               have n6_ := Aside0.mk (below_step (by repeat (first | (with_reducible first | exact HB.out | apply below_alloc | apply pw_below_drewN | apply below_drew1 | refine below_set ?_ GE282.out | refine below_set ?_ GE290.out | refine below_set ?_ GE301.out | refine below_set ?_ GE315.out) | exact HB.out)) hb)
               clear HO297
               clear BK282
               clear BK290
               clear BK301
               clear BK315
               clear HB
               have HO297 := n0_
               have HO304 := n1_
               have BK282 := n2_
               have BK290 := n3_
               have BK301 := n4_
               have BK315 := n5_
               have HB := n6_
               clear n0_ n1_ n2_ n3_ n4_ n5_ n6_
               clear hb ho62
               refine hK.out _ _ ⟨(blk_cell BK301.out 0).trans rfl, (blk_cell BK301.out 1).trans rfl⟩ (fun hHeld => ?_)
               clear hK K
               refine norm_ (a' := ?_) ?_ ?_
               rotate_left
               ·
                show Act.put _ (some 80) _ = _
                simp only [Act.put, List.setIfInBounds_toArray, List.set_cons_zero, List.set_cons_succ, i64_w, i32_w]
                rfl
               refine one_ (i := 4) (N := some 83) #[true, true, true, true, true, false, false, false, false, true, false, false] rfl rfl (one_of HT_.out (by kernel_rfl)) (by decide) (fun K hK => ?_)
               refine Kd.R_append_rows_step k23 (w0 := w) w.heap.size (by rfl) (.tmp 80) (.tmp 82) 42 23 (.agg #[(.int .i64 0), (.int .i64 0)]) 16 rfl Tryd.underlying42 info23 rfl (by decide) (by omega) v303 y302 y305 _ _ _ (fun k_ => some k_ ≠ (.slice Ao51 t295.length co51 : Value).ownBlock ∧ k_ ≠ gb282 ∧ k_ ≠ gb290 ∧ k_ ≠ gb301 ∧ k_ ≠ gb315) (fun _ => False) rfl rfl ?aO ?aR (fun _ _ h => h) (fun _ h => h.elim) ?aF ?aB ?aS ?aL ?_
               (case aR => repeat (first | exact (Kd.C_below HR308.out HB.out) | (with_reducible refine Kd.C_alloc ?_ _) | (with_reducible refine Kd.C_drewN ?_ _) | (with_reducible refine Kd.C_drew ?_)))
               (case aB => exact (by repeat (first | (with_reducible first | exact HB.out | apply below_alloc | apply pw_below_drewN | apply below_drew1 | refine below_set ?_ GE282.out | refine below_set ?_ GE290.out | refine below_set ?_ GE301.out | refine below_set ?_ GE315.out) | exact HB.out)))
               (case aF => exact (fun k_ hk => ⟨Kd.fresh' (Kd.R_lt (by (with_reducible repeat (first | apply Kd.R_alloc | apply Kd.R_drewN | apply Kd.R_drew)); exact HO297.out)) k_ hk, Kd.freshB (g := gb282) (o := .cells #[.int .i64 t279, .int .i64 t280] 23 (0, 0)) (by (with_reducible repeat (first | refine blk_drewN ?_ _ | refine blk_drew ?_ | refine blk_alloc ?_ _)); exact BK282.out) k_ hk, Kd.freshB (g := gb290) (o := .cells #[.int .i64 t287, .int .i64 t288] 23 (0, 0)) (by (with_reducible repeat (first | refine blk_drewN ?_ _ | refine blk_drew ?_ | refine blk_alloc ?_ _)); exact BK290.out) k_ hk, Kd.freshB (g := gb301) (o := .cells #[.int .i64 t298, .int .i64 t299] 23 (0, 0)) (by (with_reducible repeat (first | refine blk_drewN ?_ _ | refine blk_drew ?_ | refine blk_alloc ?_ _)); exact BK301.out) k_ hk, Kd.freshB (g := gb315) (o := .cells #[.int .i64 0, .int .i64 0] 23 (0, 0)) (by (with_reducible repeat (first | refine blk_drewN ?_ _ | refine blk_drew ?_ | refine blk_alloc ?_ _)); exact BK315.out) k_ hk⟩))
               (case aO => exact (by (with_reducible repeat (first | apply Kd.R_alloc | apply Kd.R_drewN | apply Kd.R_drew)); exact Kd.R_mono HO304.out (fun _ hk => ⟨hk.1.1.1.1.2, ⟨hk.1.1.1.2, ⟨hk.1.1.2, ⟨hk.1.2, hk.2⟩⟩⟩⟩)))
               (case aS => exact (below_size (by repeat (first | (with_reducible first | exact HB.out | apply below_alloc | apply pw_below_drewN | apply below_drew1 | refine below_set ?_ GE282.out | refine below_set ?_ GE290.out | refine below_set ?_ GE301.out | refine below_set ?_ GE315.out) | exact HB.out))))
               (case aL => have := LMc45.out; omega)
               intro v310 w63 ho hb hg hat
               rw [← Ny309.out] at ho
               have n0_ := Aside0.mk (blk_grown (g := gb282) (o := .cells #[.int .i64 t279, .int .i64 t280] 23 (0, 0)) (by (with_reducible repeat (first | refine blk_drewN ?_ _ | refine blk_drew ?_ | refine blk_alloc ?_ _)); exact BK282.out) hg (Kd.R_away HO304.out (fun _ hk => hk.1.1.1.2)))
               have n1_ := Aside0.mk (blk_grown (g := gb290) (o := .cells #[.int .i64 t287, .int .i64 t288] 23 (0, 0)) (by (with_reducible repeat (first | refine blk_drewN ?_ _ | refine blk_drew ?_ | refine blk_alloc ?_ _)); exact BK290.out) hg (Kd.R_away HO304.out (fun _ hk => hk.1.1.2)))
               have n2_ := Aside0.mk (Kd.R_after (ok := (fun k_ => k_ ≠ gb282 ∧ k_ ≠ gb290 ∧ k_ ≠ gb301 ∧ k_ ≠ gb315)) (by (with_reducible repeat (first | apply Kd.R_alloc | apply Kd.R_drewN | apply Kd.R_drew)); exact Kd.R_mono HO297.out (fun _ hk => ⟨⟨hk.1.1.1, ⟨hk.1.1.2.1, ⟨hk.1.1.2.2, hk.1.2⟩⟩⟩, hk.2⟩)) hg hat)
               have n3_ := Aside0.mk (blk_grown (g := gb301) (o := .cells #[.int .i64 t298, .int .i64 t299] 23 (0, 0)) (by (with_reducible repeat (first | refine blk_drewN ?_ _ | refine blk_drew ?_ | refine blk_alloc ?_ _)); exact BK301.out) hg (Kd.R_away HO304.out (fun _ hk => hk.1.2)))
               have n4_ := Aside0.mk (blk_grown (g := gb315) (o := .cells #[.int .i64 0, .int .i64 0] 23 (0, 0)) (by (with_reducible repeat (first | refine blk_drewN ?_ _ | refine blk_drew ?_ | refine blk_alloc ?_ _)); exact BK315.out) hg (Kd.R_away HO304.out (fun _ hk => hk.2)))
               have n5_ := Aside0.mk (hb)
               have n6_ := Aside0.mk (ho)
               clear BK282
               clear BK290
               clear HO297
               clear BK301
               clear BK315
               clear HB
               clear HO304
               have BK282 := n0_
               have BK290 := n1_
               have HO297 := n2_
               have BK301 := n3_
               have BK315 := n4_
               have HB := n5_
               have HO311 := n6_
               clear n0_ n1_ n2_ n3_ n4_ n5_ n6_
               clear ho hb hg hat
               obtain ⟨Ao64, co64, eo64⟩ := Kd.R_slice HO311.out
               (first | subst eo64 | (injection eo64 with f1_ f2_ f3_; have f4_ := f1_.symm; have f5_ := f3_.symm; clear f1_ f2_ f3_; subst f4_; subst f5_))
               refine hK.out _ _ ⟨(blk_cell BK301.out 0).trans rfl, (blk_cell BK301.out 1).trans rfl⟩ (fun hHeld => ?_)
               clear hK K
               refine norm_ (a' := ?_) ?_ ?_
               rotate_left
               ·
                show Act.put _ (some 83) _ = _
                simp only [Act.put, List.setIfInBounds_toArray, List.set_cons_zero, List.set_cons_succ, i64_w, i32_w]
                rfl
               refine one_ (i := 5) (N := some 84) #[true, true, true, true, true, true, false, false, false, true, false, false] rfl rfl (one_of HT_.out (by kernel_rfl)) (by decide) (fun K hK => ?_)
               refine goes_ Tryd.func21 (by kernel_rfl) rfl #[.slice Ao64 y309.length co64] (by rfl) rfl rfl (by (try simp only [List.map_toArray, List.map_cons, List.map_nil]); first | done | rfl | (simp only [List.length_drop, List.length_take]; rfl)) ?_
               with_reducible refine (unit_Sum.calls kj35 _ _ y309 t312 t313 t314 _ ?side1 ?side2 A46.out).mono ?_
               (case side1 => repeat (first | exact (Kd.R_reads' HO311.out).2.2 | (with_reducible refine Kd.C_alloc ?_ _) | (with_reducible refine Kd.C_drewN ?_ _) | (with_reducible refine Kd.C_drew ?_)))
               (case side2 => exact (Kd.R_reads' HO311.out).2.1)
               rintro e w65 ⟨rfl, hb⟩
               refine ⟨_, rfl, ?_⟩
               have n0_ := Aside0.mk (Kd.R_below (by (with_reducible repeat (first | apply Kd.R_alloc | apply Kd.R_drewN | apply Kd.R_drew)); exact HO297.out) hb)
               have n1_ := Aside0.mk (Kd.R_below (by (with_reducible repeat (first | apply Kd.R_alloc | apply Kd.R_drewN | apply Kd.R_drew)); exact HO311.out) hb)
               have n2_ := Aside0.mk (blk_below (g := gb282) (o := .cells #[.int .i64 t279, .int .i64 t280] 23 (0, 0)) (by (with_reducible repeat (first | refine blk_drewN ?_ _ | refine blk_drew ?_ | refine blk_alloc ?_ _)); exact BK282.out) hb)
               have n3_ := Aside0.mk (blk_below (g := gb290) (o := .cells #[.int .i64 t287, .int .i64 t288] 23 (0, 0)) (by (with_reducible repeat (first | refine blk_drewN ?_ _ | refine blk_drew ?_ | refine blk_alloc ?_ _)); exact BK290.out) hb)
               have n4_ := Aside0.mk (blk_below (g := gb301) (o := .cells #[.int .i64 t298, .int .i64 t299] 23 (0, 0)) (by (with_reducible repeat (first | refine blk_drewN ?_ _ | refine blk_drew ?_ | refine blk_alloc ?_ _)); exact BK301.out) hb)
               have n5_ := Aside0.mk (blk_below (g := gb315) (o := .cells #[.int .i64 0, .int .i64 0] 23 (0, 0)) (by (with_reducible repeat (first | refine blk_drewN ?_ _ | refine blk_drew ?_ | refine blk_alloc ?_ _)); exact BK315.out) hb)
               have n6_ := Aside0.mk (below_step (by repeat (first | (with_reducible first | exact HB.out | apply below_alloc | apply pw_below_drewN | apply below_drew1 | refine below_set ?_ GE282.out | refine below_set ?_ GE290.out | refine below_set ?_ GE301.out | refine below_set ?_ GE315.out) | exact HB.out)) hb)
               clear HO297
               clear HO311
               clear BK282
               clear BK290
               clear BK301
               clear BK315
               clear HB
               have HO297 := n0_
               have HO311 := n1_
               have BK282 := n2_
               have BK290 := n3_
               have BK301 := n4_
               have BK315 := n5_
               have HB := n6_
               clear n0_ n1_ n2_ n3_ n4_ n5_ n6_
               (try clear hb)
               (try clear hb2)
               (try clear hk)
               (try clear hi)
               refine hK.out _ _ ⟨(blk_cell BK301.out 0).trans rfl, (blk_cell BK301.out 1).trans rfl⟩ (fun hHeld => ?_)
               clear hK K
               refine norm_ (a' := ?_) ?_ ?_
               rotate_left
               ·
                show Act.put _ (some 84) _ = _
                simp only [Act.put, List.setIfInBounds_toArray, List.set_cons_zero, List.set_cons_succ, i64_w, i32_w]
                rfl
               refine pure_ (i := 6) (N := some 78) (v := ?_) (a' := ?_) #[true, true, true, true, true, true, true, false, false, true, false, false] rfl rfl (any_of HT_.out (by kernel_rfl)) (fun _ _ _ h => h) (Or.inl ⟨by rfl, ?_⟩) ?_ ?_
               rotate_left
               ·
                intro w'
                go_simp
                with_reducible rfl
               rotate_left
               ·
                simp only [Act.put, List.setIfInBounds_toArray, List.set_cons_zero, List.set_cons_succ, i64_w, i32_w]
                rfl
               refine pure_ (i := 7) (N := some 85) (v := ?_) (a' := ?_) #[true, true, true, true, true, true, true, true, false, true, false, false] rfl rfl (any_of HT_.out (by kernel_rfl)) (fun _ _ _ h => h) (Or.inl ⟨by rfl, ?_⟩) ?_ ?_
               rotate_left
               ·
                intro w'
                go_simp
                with_reducible rfl
               rotate_left
               ·
                simp only [Act.put, List.setIfInBounds_toArray, List.set_cons_zero, List.set_cons_succ, i64_w, i32_w]
                rfl
               refine pure_ (i := 8) (N := some 86) (v := ?_) (a' := ?_) #[true, true, true, true, true, true, true, true, true, true, false, false] rfl rfl (any_of HT_.out (by kernel_rfl)) (fun _ _ _ h => h) (Or.inl ⟨by rfl, ?_⟩) ?_ ?_
               rotate_left
               ·
                intro w'
                go_simp
                with_reducible rfl
               rotate_left
               ·
                simp only [Act.put, List.setIfInBounds_toArray, List.set_cons_zero, List.set_cons_succ, i64_w, i32_w]
                rfl
               exact norm_ (by simp only [Go.Proofs.YtmjglehdckgcnaaDoorW.PrintLast.putAll, Act.put, List.setIfInBounds_toArray, List.set_cons_zero, List.set_cons_succ]) (hCont (v303, .slice Ao64 y309.length co64, gb315) _ ⟨hHeld, (by (with_reducible repeat (first | apply Kd.R_alloc | apply Kd.R_drewN | apply Kd.R_drew)); exact Kd.R_mono HO297.out (fun _ hk => ⟨hk.2, ⟨hk.1.1, ⟨hk.1.2.1, ⟨hk.1.2.2.1, hk.1.2.2.2⟩⟩⟩⟩)), (by (with_reducible repeat (first | apply Kd.R_alloc | apply Kd.R_drewN | apply Kd.R_drew)); exact HO311.out), (by (with_reducible repeat (first | refine blk_drewN ?_ _ | refine blk_drew ?_ | refine blk_alloc ?_ _)); exact BK282.out), (by (with_reducible repeat (first | refine blk_drewN ?_ _ | refine blk_drew ?_ | refine blk_alloc ?_ _)); exact BK290.out), (by (with_reducible repeat (first | refine blk_drewN ?_ _ | refine blk_drew ?_ | refine blk_alloc ?_ _)); exact BK301.out), (by (with_reducible repeat (first | refine blk_drewN ?_ _ | refine blk_drew ?_ | refine blk_alloc ?_ _)); exact BK315.out), GW315.out, GE315.out, NB282_315.out, NB315_282.out, NB290_315.out, NB315_290.out, NB301_315.out, NB315_301.out, (by repeat (first | (with_reducible first | exact HB.out | apply below_alloc | apply pw_below_drewN | apply below_drew1 | refine below_set ?_ GE282.out | refine below_set ?_ GE290.out | refine below_set ?_ GE301.out | refine below_set ?_ GE315.out) | exact HB.out))⟩)
             rintro ⟨v303, v310, gb315⟩ w66 ⟨hS_, h0_, h1_, h2_, h3_, h4_, h5_, h6_, h7_, h8_, h9_, h10_, h11_, h12_, h13_, h14_⟩
             have n0_ : Aside0 (Kd.R k23 23 w66 w.heap.size (fun k_ => some k_ ≠ (v310 : Value).ownBlock ∧ k_ ≠ gb282 ∧ k_ ≠ gb290 ∧ k_ ≠ gb301 ∧ k_ ≠ gb315) (.slice Ao51 t295.length co51) t295) := ⟨h0_⟩
             have n1_ : Aside0 (Kd.R k23 23 w66 w.heap.size (fun k_ => some k_ ≠ (.slice Ao51 t295.length co51 : Value).ownBlock ∧ k_ ≠ gb282 ∧ k_ ≠ gb290 ∧ k_ ≠ gb301 ∧ k_ ≠ gb315) v310 y309) := ⟨h1_⟩
             have n2_ : Aside0 (w66.heap[gb282]? = some (.cells #[.int .i64 t279, .int .i64 t280] 23 (0, 0))) := ⟨h2_⟩
             have n3_ : Aside0 (w66.heap[gb290]? = some (.cells #[.int .i64 t287, .int .i64 t288] 23 (0, 0))) := ⟨h3_⟩
             have n4_ : Aside0 (w66.heap[gb301]? = some (.cells #[.int .i64 t298, .int .i64 t299] 23 (0, 0))) := ⟨h4_⟩
             have n5_ : Aside0 (w66.heap[gb315]? = some (.cells #[.int .i64 0, .int .i64 0] 23 (0, 0))) := ⟨h5_⟩
             have n6_ : Aside0 (w.heap.size ≤ gb315) := ⟨h6_⟩
             have n7_ : Aside0 (w.heap.size ≤ gb315) := ⟨h7_⟩
             have n8_ : Aside0 (gb282 ≠ gb315) := ⟨h8_⟩
             have n9_ : Aside0 (gb315 ≠ gb282) := ⟨h9_⟩
             have n10_ : Aside0 (gb290 ≠ gb315) := ⟨h10_⟩
             have n11_ : Aside0 (gb315 ≠ gb290) := ⟨h11_⟩
             have n12_ : Aside0 (gb301 ≠ gb315) := ⟨h12_⟩
             have n13_ : Aside0 (gb315 ≠ gb301) := ⟨h13_⟩
             have n14_ : Aside0 (Below w.heap.size w w66) := ⟨h14_⟩
             clear HO297
             clear BK282
             clear BK290
             clear BK301
             clear HB
             clear h0_ h1_ h2_ h3_ h4_ h5_ h6_ h7_ h8_ h9_ h10_ h11_ h12_ h13_ h14_
             have HO297 := n0_
             have HO311 := n1_
             have BK282 := n2_
             have BK290 := n3_
             have BK301 := n4_
             have BK315 := n5_
             have GW315 := n6_
             have GE315 := n7_
             have NB282_315 := n8_
             have NB315_282 := n9_
             have NB290_315 := n10_
             have NB315_290 := n11_
             have NB301_315 := n12_
             have NB315_301 := n13_
             have HB := n14_
             clear n0_ n1_ n2_ n3_ n4_ n5_ n6_ n7_ n8_ n9_ n10_ n11_ n12_ n13_ n14_
             have hHeld : w66.cell? ⟨gb301, 0, none⟩ = some (.int .i64 t298) ∧ w66.cell? ⟨gb301, 1, none⟩ = some (.int .i64 t299) := hS_
             refine norm_ (a' := ?_) ?_ ?_
             rotate_left
             ·
              simp only [Go.Proofs.YtmjglehdckgcnaaDoorW.PrintLast.putAll, Act.put, List.setIfInBounds_toArray, List.set_cons_zero, List.set_cons_succ]
              rfl
             refine one_ (i := 10) (N := none) #[true, true, true, true, true, true, true, true, true, true, true, false] rfl rfl (one_of HT_.out (by kernel_rfl)) (by decide) (fun K hK => ?_)
             have hs67 : w66.cell? ⟨gb315, 0, none⟩ = some (.int .i64 0) := (blk_cell BK315.out 0).trans rfl
             have hfs67 := blk_frozen BK315.out 0
             have hns67_0 := NB282_315.out
             have hns67_1 := NB290_315.out
             have hns67_2 := NB301_315.out
             have hms67_0 := NB315_282.out
             have hms67_1 := NB315_290.out
             have hms67_2 := NB315_301.out
             have hs68 : w66.cell? ⟨gb315, 1, none⟩ = some (.int .i64 0) := (blk_cell BK315.out 1).trans rfl
             have hfs68 := blk_frozen BK315.out 1
             have hns68_0 := NB282_315.out
             have hns68_1 := NB290_315.out
             have hns68_2 := NB301_315.out
             have hms68_0 := NB315_282.out
             have hms68_1 := NB315_290.out
             have hms68_2 := NB315_301.out
             refine skip_ (w1 := ?_) (by rfl) rfl ?_ ?_
             rotate_left
             ·
              go_simp
              rfl
             refine hK.out _ _ ⟨((cell_far (p := ⟨gb315, _, none⟩) NB301_315.out _).trans (((cell_far (p := ⟨gb315, _, none⟩) NB301_315.out _).trans (hHeld.1)))), ((cell_far (p := ⟨gb315, _, none⟩) NB301_315.out _).trans (((cell_far (p := ⟨gb315, _, none⟩) NB301_315.out _).trans (hHeld.2))))⟩ (fun hHeld => ?_)
             clear hK K
             refine pure_ (i := 11) (N := some 11) (v := ?_) (a' := ?_) #[true, true, true, true, true, true, true, true, true, true, true, true] rfl rfl (any_of HT_.out (by kernel_rfl)) (fun _ _ _ h => h) (Or.inl ⟨by rfl, ?_⟩) ?_ ?_
             rotate_left
             ·
              intro w'
              go_simp
              with_reducible rfl
             rotate_left
             ·
              simp only [Act.put, List.setIfInBounds_toArray, List.set_cons_zero, List.set_cons_succ, i64_w, i32_w]
              rfl
             refine done_ (done_of HT_.out (by kernel_rfl)) ?_
             have hnb69 := NB315_282.out
             have hnc69 := NB282_315.out
             have hnb70 := NB315_290.out
             have hnc70 := NB290_315.out
             have hnb71 := NB315_301.out
             have hnc71 := NB301_315.out
             have hcz72_0 : w66.cell? ⟨gb315, 0, none⟩ = some (.int .i64 0) := (blk_cell BK315.out 0).trans rfl
             have hcz72_1 : w66.cell? ⟨gb315, 1, none⟩ = some (.int .i64 0) := (blk_cell BK315.out 1).trans rfl
             have hfz72_0 := blk_frozen BK315.out 0
             have hfz72_1 := blk_frozen BK315.out 1
             have hnb73 := NB282_290.out
             have hnc73 := NB290_282.out
             have hcz74_0 : w66.cell? ⟨gb282, 0, none⟩ = some (.int .i64 t279) := (blk_cell BK282.out 0).trans rfl
             have hcz74_1 : w66.cell? ⟨gb282, 1, none⟩ = some (.int .i64 t280) := (blk_cell BK282.out 1).trans rfl
             have hfz74_0 := blk_frozen BK282.out 0
             have hfz74_1 := blk_frozen BK282.out 1
             try go_wp2
             go_ret
             exact ⟨by first | rfl | (simp [errW_none, errW_some] <;> rfl) | (simp [*, errW_none, errW_some] <;> rfl), by repeat (first | (with_reducible first | exact HB.out | apply below_alloc | apply pw_below_drewN | apply below_drew1 | refine below_set ?_ GE282.out | refine below_set ?_ GE290.out | refine below_set ?_ GE301.out | refine below_set ?_ GE315.out) | exact HB.out)⟩
            ·
             rw [if_neg c48] at H
             have c48b0 : (t314 == 0) = false := beq_eq_false_iff_ne.mpr c48
             have c48b1 : (t314 != 0) = true := bne_iff_ne.mpr c48
             subst hr_
             exact absurd H (by simp)
           ·
            rw [if_neg c47] at H
            have c47b0 : (t300 == 0) = false := beq_eq_false_iff_ne.mpr c47
            have c47b1 : (t300 != 0) = true := bne_iff_ne.mpr c47
            subst hr_
            exact absurd H (by simp)
          ·
           rw [if_neg c45] at H
           exact absurd H (by simp)
         ·
          rw [if_neg c41] at H
          exact absurd H (by simp)
 ·
  replace c3 := Bool.eq_false_iff.mpr c3
  subst c3
  have H1 : (some false) = some r := by rw [if_neg (show ¬ (false = true) by decide)] at H; exact H
  clear H
  have H := H1
  clear H1
  subst hr_
  exact absurd H (by simp)
end Go.Proofs.YtmjglehdckgcnaaDoor.Pr
namespace Go.Proofs.YtmjglehdckgcnaaDoor.Opn
open Go Go.RowKit Go.Proofs.YtmjglehdckgcnaaDoorW.PrintWords Go.Proofs.YtmjglehdckgcnaaDoor.O Go.Proofs.YtmjglehdckgcnaaDoor.Pr
theorem opens3 : Opens Tryd.prog 3 (Kd.int .i64) (fun x => (Lit.int .i64 x).wf = true) := opens_int Tryd.underlying3 (by kernel_rfl)
def ok23 (x : S23) : Prop := (Lit.int .i64 x.f0).wf = true ∧ (Lit.int .i64 x.f1).wf = true
theorem opens23 : Opens Tryd.prog 23 k23 ok23 :=
  ⟨by kernel_rfl, fun H enc w base sp held fuel cs x h => by
    obtain ⟨xs, n, _, _, hl, hx, hf⟩ := DataW.trod_struct Tryd.underlying23 h
    have hc_ : Tryd.prog.cellsOf 23 = 2 := by kernel_rfl
    rw [hc_] at hl
    obtain ⟨c0, c1, rfl⟩ : ∃ c0 c1, cs = [c0, c1] := by
      clear h hf hx
      rcases cs with _ | ⟨c0, _ | ⟨c1, _ | ⟨_, _⟩⟩⟩
      all_goals first | exact ⟨_, _, rfl⟩ | (simp at hl)
    obtain ⟨y0, hy0⟩ : ∃ y, xs[0]? = some y := ⟨xs[0]'(by rw [hx]; decide), List.getElem?_eq_getElem _⟩
    have e0 : DataW.trod enc Tryd.prog w base sp held n 3 ((List.drop 0 [c0, c1]).take (Tryd.prog.cellsOf 3)) = xs[0]? := hf 0 _ rfl
    rw [hy0, show Tryd.prog.cellsOf 3 = 1 from by kernel_rfl] at e0
    obtain ⟨v0, K0, o0⟩ := opens3.2 H enc w base sp held n _ _ e0
    replace K0 : (Kd.int .i64).K w v0 [c0] := K0
    obtain ⟨y1, hy1⟩ : ∃ y, xs[1]? = some y := ⟨xs[1]'(by rw [hx]; decide), List.getElem?_eq_getElem _⟩
    have e1 : DataW.trod enc Tryd.prog w base sp held n 3 ((List.drop 1 [c0, c1]).take (Tryd.prog.cellsOf 3)) = xs[1]? := hf 1 _ rfl
    rw [hy1, show Tryd.prog.cellsOf 3 = 1 from by kernel_rfl] at e1
    obtain ⟨v1, K1, o1⟩ := opens3.2 H enc w base sp held n _ _ e1
    replace K1 : (Kd.int .i64).K w v1 [c1] := K1
    obtain rfl : c0 = _ := List.singleton_inj.1 K0
    obtain rfl : c1 = _ := List.singleton_inj.1 K1
    refine ⟨⟨v0, v1⟩, ?_, o0, o1⟩
    exact k23_mk w ⟨v0, v1⟩ ⟩
theorem opens42 : Opens Tryd.prog 42 (Kd.slice 23 k23) (fun x => (x.length ≤ maxLen ∧ ∀ x0_, x0_ ∈ x → ok23 x0_)) := opens_slice (P := Tryd.prog) (t := 42) (e := 23) Tryd.underlying42 (by kernel_rfl) opens23
end Go.Proofs.YtmjglehdckgcnaaDoor.Opn
namespace Go.Proofs.YtmjglehdckgcnaaDoor.Pure
open Go Go.RowKit Go.Proofs.YtmjglehdckgcnaaDoor.Pr Go.Proofs.YtmjglehdckgcnaaDoor.Opn
def unitOrderPure : Prop := ∀ (l0 : (List S23)), (l0.length ≤ maxLen ∧ ∀ x0_, x0_ ∈ l0 → ok23 x0_) → ∃ k, spilelaw03_UnitOrder.f k l0 = some true
end Go.Proofs.YtmjglehdckgcnaaDoor.Pure
namespace Go.Proofs.YtmjglehdckgcnaaDoor.SQ
def lowK (k : Int) : Int := if k = 5 then -400 else 0
def highK (k : Int) : Int := if k = 1 then 1073741824 else if k = 2 then 10000 else if k = 3 then 10737418240000 else if k = 4 then 128849018880000 else if k = 5 then 600 else if k = 6 then 100000 else if k = 7 then 1125899906842624 else 0
def errQ (q : Int × Int) : Int := if q.1 < 1 ∨ 7 < q.1 then 1 else if q.2 < lowK q.1 ∨ highK q.1 < q.2 then 2 else 0
theorem errQ_zero (q : Int × Int) : errQ q = 0 ↔ (1 ≤ q.1 ∧ q.1 ≤ 7) ∧ lowK q.1 ≤ q.2 ∧ q.2 ≤ highK q.1 := by
  unfold errQ
  split
  · constructor
    · intro h; omega
    · intro h; omega
  · split
    · constructor
      · intro h; omega
      · intro h; omega
    · constructor
      · intro _; omega
      · intro _; rfl
/-- All sums of the first ones are in a range. -/
def goS (lo hi : Int) : Int → List Int → Option Int
  | s, [] => some s
  | s, x :: r => if lo ≤ s + x ∧ s + x ≤ hi then goS lo hi (s + x) r else none
def sumI : List Int → Int
  | [] => 0
  | x :: r => x + sumI r
theorem goS_sum {lo hi : Int} : ∀ (l : List Int) (s v : Int), goS lo hi s l = some v → v = s + sumI l
  | [], s, v, h => by
    have := Option.some.inj h
    simp only [sumI]
    omega
  | x :: r, s, v, h => by
    unfold goS at h
    split at h
    · have := goS_sum r _ v h
      simp only [sumI]
      omega
    · cases h
theorem sumI_app : ∀ a b : List Int, sumI (a ++ b) = sumI a + sumI b
  | [], b => by simp [sumI]
  | x :: r, b => by
    simp only [List.cons_append, sumI]
    rw [sumI_app r b]
    omega
theorem sumI_reverse : ∀ a : List Int, sumI a.reverse = sumI a
  | [] => rfl
  | x :: r => by
    rw [List.reverse_cons, sumI_app, sumI_reverse r]
    simp only [sumI]
    omega
/-- The sum of quantities: kind, amount, error. -/
def sumQ : List (Int × Int) → (Int × Int) × Int
  | [] => ((0, 0), 9)
  | q :: r => if 64 < (q :: r).length then ((0, 0), 8) else if (q :: r).any (fun x => decide (errQ x ≠ 0)) = true then ((0, 0), 1) else if (q :: r).any (fun x => decide (x.1 ≠ q.1)) = true then ((0, 0), 10)
    else match goS (lowK q.1) (highK q.1) 0 ((q :: r).map Prod.snd) with
      | some v => ((q.1, v), 0)
      | none => ((0, 0), 15)
theorem sumQ_cons (q : Int × Int) (r : List (Int × Int)) : sumQ (q :: r) = if 64 < (q :: r).length then (((0, 0), 8) : (Int × Int) × Int) else if (q :: r).any (fun x => decide (errQ x ≠ 0)) = true then ((0, 0), 1) else if (q :: r).any (fun x => decide (x.1 ≠ q.1)) = true then ((0, 0), 10)
    else match goS (lowK q.1) (highK q.1) 0 ((q :: r).map Prod.snd) with
      | some v => ((q.1, v), 0)
      | none => ((0, 0), 15) := rfl
def fineQ (l : List (Int × Int)) (k : Int) : Prop := l ≠ [] ∧ l.length ≤ 64 ∧ (∀ x, x ∈ l → errQ x = 0) ∧ ∀ x, x ∈ l → x.1 = k
theorem sumQ_fine {l : List (Int × Int)} {k : Int} (h : fineQ l k) : sumQ l = match goS (lowK k) (highK k) 0 (l.map Prod.snd) with
    | some v => (((k, v), 0) : (Int × Int) × Int)
    | none => ((0, 0), 15) := by
  obtain ⟨h1, h2, h3, h4⟩ := h
  cases l with
  | nil => exact absurd rfl h1
  | cons q r =>
    have hq : q.1 = k := h4 q List.mem_cons_self
    rw [sumQ_cons]
    rw [if_neg (by omega : ¬ 64 < (q :: r).length), if_neg, if_neg, hq]
    · rw [List.any_eq_true]
      rintro ⟨x, hx, e⟩
      have := of_decide_eq_true e
      rw [h4 x hx, hq] at this
      exact this rfl
    · rw [List.any_eq_true]
      rintro ⟨x, hx, e⟩
      exact of_decide_eq_true e (h3 x hx)
theorem sumQ_of {l : List (Int × Int)} (h : (sumQ l).2 = 0 ∨ (sumQ l).2 = 15) : ∃ k, fineQ l k := by
  cases l with
  | nil => simp [sumQ] at h
  | cons q r =>
    rw [sumQ_cons] at h
    split at h
    · simp at h
    · rename_i h1
      split at h
      · simp at h
      · rename_i h2
        split at h
        · simp at h
        · rename_i h3
          refine ⟨q.1, by simp, by omega, fun x hx => ?_, fun x hx => ?_⟩
          · rcases Int.decEq (errQ x) 0 with e | e
            · exact absurd (List.any_eq_true.2 ⟨x, hx, decide_eq_true e⟩) h2
            · exact e
          · rcases Int.decEq x.1 q.1 with e | e
            · exact absurd (List.any_eq_true.2 ⟨x, hx, decide_eq_true e⟩) h3
            · exact e
theorem fine_err {l : List (Int × Int)} {k : Int} (h : fineQ l k) : (sumQ l).2 = 0 ∨ (sumQ l).2 = 15 := by
  rw [sumQ_fine h]
  split
  · exact Or.inl rfl
  · exact Or.inr rfl
theorem fine_reverse {l : List (Int × Int)} {k : Int} (h : fineQ l k) : fineQ l.reverse k :=
  ⟨fun e => h.1 (List.reverse_eq_nil_iff.1 e), by rw [List.length_reverse]; exact h.2.1, fun x hx => h.2.2.1 x (List.mem_reverse.1 hx), fun x hx => h.2.2.2 x (List.mem_reverse.1 hx)⟩
/-- The order does not matter, as far as there is a sum. -/
theorem sumQ_reverse (l : List (Int × Int)) : ((sumQ l).2 = 0 → (sumQ l.reverse).2 = 0 → (sumQ l).1 = (sumQ l.reverse).1) ∧ (((sumQ l).2 = 0 ∨ (sumQ l).2 = 15) ↔ ((sumQ l.reverse).2 = 0 ∨ (sumQ l.reverse).2 = 15)) := by
  refine ⟨fun h1 h2 => ?_, ⟨fun h => ?_, fun h => ?_⟩⟩
  · obtain ⟨k, hk⟩ := sumQ_of (Or.inl h1)
    have hr := fine_reverse hk
    rw [sumQ_fine hk] at h1 ⊢
    rw [sumQ_fine hr] at h2 ⊢
    cases e1 : goS (lowK k) (highK k) 0 (l.map Prod.snd) with
    | none => rw [e1] at h1; simp at h1
    | some v =>
      cases e2 : goS (lowK k) (highK k) 0 (l.reverse.map Prod.snd) with
      | none => rw [e2] at h2; simp at h2
      | some u =>
        have g1 := goS_sum _ _ _ e1
        have g2 := goS_sum _ _ _ e2
        rw [List.map_reverse, sumI_reverse] at g2
        show (k, v) = (k, u)
        rw [g1, g2]
  · obtain ⟨k, hk⟩ := sumQ_of h
    exact fine_err (fine_reverse hk)
  · obtain ⟨k, hk⟩ := sumQ_of h
    have := fine_err (fine_reverse hk)
    rw [List.reverse_reverse] at this
    exact this
/-- A sum has a kind. -/
theorem sumQ_kind (l : List (Int × Int)) : ((sumQ l).2 = 0 ↔ (sumQ l).1 ≠ (0, 0)) := by
  constructor
  · intro h
    obtain ⟨k, hk⟩ := sumQ_of (Or.inl h)
    rw [sumQ_fine hk] at h ⊢
    obtain ⟨h1, _, h3, h4⟩ := hk
    cases l with
    | nil => exact absurd rfl h1
    | cons q r =>
      have e0 := (errQ_zero q).1 (h3 q List.mem_cons_self)
      have e1 := h4 q List.mem_cons_self
      split
      · intro e
        have := congrArg Prod.fst e
        simp at this
        omega
      · rename_i e
        rw [e] at h
        simp at h
  · intro h
    cases l with
    | nil => simp [sumQ] at h
    | cons q r =>
      rw [sumQ_cons] at h ⊢
      split
      · rename_i c; rw [if_pos c] at h; simp at h
      · rename_i c; rw [if_neg c] at h
        split
        · rename_i c; rw [if_pos c] at h; simp at h
        · rename_i c; rw [if_neg c] at h
          split
          · rename_i c; rw [if_pos c] at h; simp at h
          · rename_i c; rw [if_neg c] at h
            split
            · rfl
            · rename_i e; rw [e] at h; simp at h
/-- Two quantities joined to their sum. -/
theorem sumQ_two {a b : Int × Int} {r : List (Int × Int)} (h : (sumQ (a :: b :: r)).2 = 0) :
    (sumQ [a, b]).2 = 0 ∧ (sumQ ((sumQ [a, b]).1 :: r)).2 = 0 ∧ (sumQ ((sumQ [a, b]).1 :: r)).1 = (sumQ (a :: b :: r)).1 := by
  obtain ⟨k, hk⟩ := sumQ_of (Or.inl h)
  rw [sumQ_fine hk] at h ⊢
  have ha := hk.2.2.2 a (by simp)
  have hb := hk.2.2.2 b (by simp)
  have ea := (errQ_zero a).1 (hk.2.2.1 a (by simp))
  have eb := (errQ_zero b).1 (hk.2.2.1 b (by simp))
  have h2 : fineQ [a, b] k := ⟨by simp, by simp, fun x hx => hk.2.2.1 x (by simp at hx ⊢; rcases hx with hx | hx <;> simp [hx]), fun x hx => hk.2.2.2 x (by simp at hx ⊢; rcases hx with hx | hx <;> simp [hx])⟩
  rw [ha] at ea
  rw [hb] at eb
  have c0 : lowK k ≤ 0 + a.2 ∧ 0 + a.2 ≤ highK k := by omega
  have e1 : goS (lowK k) (highK k) 0 ((a :: b :: r).map Prod.snd) = if lowK k ≤ 0 + a.2 + b.2 ∧ 0 + a.2 + b.2 ≤ highK k then goS (lowK k) (highK k) (0 + a.2 + b.2) (r.map Prod.snd) else none := by
    show (if lowK k ≤ 0 + a.2 ∧ 0 + a.2 ≤ highK k then goS (lowK k) (highK k) (0 + a.2) (b.2 :: r.map Prod.snd) else none) = _
    rw [if_pos c0]
    rfl
  rw [e1] at h ⊢
  by_cases c : lowK k ≤ 0 + a.2 + b.2 ∧ 0 + a.2 + b.2 ≤ highK k
  · rw [if_pos c] at h ⊢
    have e2 : sumQ [a, b] = ((k, 0 + a.2 + b.2), 0) := by
      rw [sumQ_fine h2]
      have : goS (lowK k) (highK k) 0 ([a, b].map Prod.snd) = some (0 + a.2 + b.2) := by
        show (if lowK k ≤ 0 + a.2 ∧ 0 + a.2 ≤ highK k then goS (lowK k) (highK k) (0 + a.2) [b.2] else none) = _
        rw [if_pos c0]
        show (if lowK k ≤ 0 + a.2 + b.2 ∧ 0 + a.2 + b.2 ≤ highK k then some (0 + a.2 + b.2) else none) = _
        rw [if_pos c]
      rw [this]
    rw [e2]
    have h3 : fineQ ((k, 0 + a.2 + b.2) :: r) k := by
      refine ⟨by simp, ?_, fun x hx => ?_, fun x hx => ?_⟩
      · have := hk.2.1
        simp only [List.length_cons] at this ⊢
        omega
      · rcases List.mem_cons.1 hx with rfl | hx
        · exact (errQ_zero _).2 ⟨ea.1, c⟩
        · exact hk.2.2.1 x (by simp [hx])
      · rcases List.mem_cons.1 hx with rfl | hx
        · rfl
        · exact hk.2.2.2 x (by simp [hx])
    rw [sumQ_fine h3]
    have e3 : goS (lowK k) (highK k) 0 (((k, 0 + a.2 + b.2) :: r).map Prod.snd) = goS (lowK k) (highK k) (0 + a.2 + b.2) (r.map Prod.snd) := by
      show (if lowK k ≤ 0 + (0 + a.2 + b.2) ∧ 0 + (0 + a.2 + b.2) ≤ highK k then goS (lowK k) (highK k) (0 + (0 + a.2 + b.2)) (r.map Prod.snd) else none) = _
      rw [Int.zero_add (0 + a.2 + b.2), if_pos c]
    show _ ∧ (match goS (lowK k) (highK k) 0 (((k, 0 + a.2 + b.2) :: r).map Prod.snd) with
      | some v => ((k, v), (0 : Int))
      | none => ((0, 0), 15)).2 = 0 ∧ _
    rw [e3]
    exact ⟨rfl, h, rfl⟩
  · rw [if_neg c] at h
    simp at h
end Go.Proofs.YtmjglehdckgcnaaDoor.SQ
namespace Go.Proofs.YtmjglehdckgcnaaDoor.Pr
open Go Go.RowKit Go.Lib Go.Proofs.YtmjglehdckgcnaaDoorW.PrintWords Go.Proofs.YtmjglehdckgcnaaDoorW.PrintLast Go.Proofs.YtmjglehdckgcnaaDoorW.PrintMore Go.Proofs.YtmjglehdckgcnaaDoor.X Go.Proofs.YtmjglehdckgcnaaDoor.TX Go.Proofs.YtmjglehdckgcnaaDoor.PL Go.Proofs.YtmjglehdckgcnaaDoor.SQ
theorem seven {K : Int} (h : 1 ≤ K ∧ K ≤ 7) : K = 1 ∨ K = 2 ∨ K = 3 ∨ K = 4 ∨ K = 5 ∨ K = 6 ∨ K = 7 := by omega
theorem limits_eq {K : Int} (h : 1 ≤ K ∧ K ≤ 7) : unit_limits.f K = some (lowK K, highK K) := by
  rcases seven h with rfl | rfl | rfl | rfl | rfl | rfl | rfl <;> decide
theorem check_ev (K a : Int) : Ev (fun k => unit_Check.f k K a) (errQ (K, a)) := by
  unfold unit_Check.f
  by_cases h1 : K < 1
  · refine evp h1 ?_
    refine Ev.step (fun k => unit_Check.j0.eq_2 ..) ?_
    refine evp rfl (evr ?_)
    unfold errQ
    rw [if_pos (Or.inl h1)]
  · refine evn h1 ?_
    refine Ev.step (fun k => unit_Check.j0.eq_2 ..) ?_
    by_cases h7 : K > 7
    · refine evp (decide_eq_true h7) (evr ?_)
      unfold errQ
      rw [if_pos (Or.inr h7)]
    · refine evn (by simpa using h7) ?_
      refine evb (evc (fun _ => limits_eq ⟨by omega, by omega⟩) rfl) ?_
      have e : errQ (K, a) = if a < lowK K ∨ highK K < a then 2 else 0 := by
        unfold errQ
        exact if_neg (by show ¬ (K < 1 ∨ 7 < K); omega)
      rw [e]
      show Ev (fun n => if a < lowK K then some 2 else if a > highK K then some 2 else some 0) (if a < lowK K ∨ highK K < a then 2 else 0)
      by_cases c1 : a < lowK K
      · exact evp c1 (evr (if_pos (Or.inl c1)).symm)
      · refine evn c1 ?_
        by_cases c2 : a > highK K
        · exact evp c2 (evr (if_pos (Or.inr c2)).symm)
        · exact evn c2 (evr (if_neg (by omega)).symm)
theorem err_bounds {K a : Int} (h : errQ (K, a) = 0) : (1 ≤ K ∧ K ≤ 7) ∧ -1000 ≤ a ∧ a ≤ 1125899906842624 := by
  obtain ⟨h1, h2, h3⟩ := (errQ_zero (K, a)).1 h
  have h1 : 1 ≤ K ∧ K ≤ 7 := h1
  have h2 : lowK K ≤ a := h2
  have h3 : a ≤ highK K := h3
  refine ⟨h1, ?_, ?_⟩
  · have : -1000 ≤ lowK K := by unfold lowK; split <;> omega
    omega
  · have : highK K ≤ 1125899906842624 := by rcases seven h1 with rfl | rfl | rfl | rfl | rfl | rfl | rfl <;> decide
    omega
def printR (K a : Int) (s : ByteArray) : ByteArray × Int := if errQ (K, a) = 0 then (match unitAt s.data.toList with
  | none => (⟨#[]⟩, 4)
  | some p => if p.1 = K then (textB a p.2 s, 0) else (⟨#[]⟩, 10)) else (⟨#[]⟩, 1)
def parse2R (kd : Int) (z : Nat) (neg : Bool) (wl pl : List UInt8) : Int × Int × Int :=
  if z < pl.length then (0, 0, 2) else if 18 < (trimLeftS (wl ++ (pl ++ List.replicate (z - pl.length) 48)) [48]).length then (0, 0, 2)
  else if errQ (kd, signed neg (valT z wl pl)) = 0 then (kd, signed neg (valT z wl pl), 0) else (0, 0, errQ (kd, signed neg (valT z wl pl)))
def parseR (s : ByteArray) : Int × Int × Int :=
  if (s.size : Int) > 64 then (0, 0, 8) else match unitAt (cut1 32 s.data.toList).2.1 with
  | none => (0, 0, 3)
  | some p => match numT (cut1 32 s.data.toList).1 with
    | none => (0, 0, 3)
    | some q => parse2R p.1 p.2.toNat q.1 q.2.1 q.2.2
/-- What is read, if it is read. -/
theorem parse_ok {s : ByteArray} {K a : Int} (h : parseR s = (K, a, 0)) : ∃ z neg wl pl, ¬ (s.size : Int) > 64 ∧ unitAt (cut1 32 s.data.toList).2.1 = some (K, z) ∧ 0 ≤ z ∧ z ≤ 8 ∧ numT (cut1 32 s.data.toList).1 = some (neg, wl, pl)
    ∧ pl.length ≤ z.toNat ∧ a = signed neg (valT z.toNat wl pl) ∧ errQ (K, a) = 0 := by
  unfold parseR at h
  split at h
  · cases h
  · rename_i c
    cases hu : unitAt (cut1 32 s.data.toList).2.1 with
    | none => rw [hu] at h; cases h
    | some p =>
      obtain ⟨kd, z⟩ := p
      rw [hu] at h
      cases hq : numT (cut1 32 s.data.toList).1 with
      | none => rw [hq] at h; cases h
      | some q =>
        obtain ⟨neg, wl, pl⟩ := q
        rw [hq] at h
        have h : parse2R kd z.toNat neg wl pl = (K, a, 0) := h
        have hsm := unit_small hu
        unfold parse2R at h
        split at h
        · cases h
        · rename_i c1
          split at h
          · cases h
          · split at h
            · rename_i c3
              simp only [Prod.mk.injEq] at h
              obtain ⟨rfl, rfl, -⟩ := h
              exact ⟨z, neg, wl, pl, c, rfl, hsm.2.1, hsm.2.2, rfl, by omega, rfl, c3⟩
            · rename_i c3
              simp only [Prod.mk.injEq] at h
              exact absurd h.2.2 c3
theorem cut_flag {s : List UInt8} {p : Int × Int} (h : unitAt (cut1 32 s).2.1 = some p) : (cut1 32 s).2.2 = true := by
  cases c : (cut1 32 s).2.2 with
  | true => rfl
  | false => exact absurd (cut1_no 32 s c).2 (unitAt_ne h)
/-- A number that is read with a sign is not 0. -/
theorem num_neg {s wl pl : List UInt8} {z : Nat} (h : numT s = some (true, wl, pl)) (hp : pl.length ≤ z) : valT z wl pl ≠ 0 := by
  intro e
  have h1 := decT_numT h hp
  rw [e] at h1
  have h2 : s = [45, 48] := by
    rw [← h1]
    unfold decT
    rw [Nat.zero_div, Nat.zero_mod, rest_zero, digits_small (by decide)]
    decide
  have h3 : numT [45, 48] = none := by decide
  rw [h2, h3] at h
  cases h
theorem signed_abs (neg : Bool) (n : Nat) : (signed neg n).natAbs = n := by
  unfold signed
  split <;> omega
theorem signed_neg {neg : Bool} {n : Nat} (h : neg = true → n ≠ 0) : decide (signed neg n < 0) = neg := by
  unfold signed
  cases neg with
  | true =>
    have := h rfl
    rw [if_pos rfl]
    exact decide_eq_true (by omega)
  | false =>
    rw [if_neg (by simp)]
    exact decide_eq_false (by omega)
/-- What is read is printed as it was. -/
theorem again {s : ByteArray} {K a : Int} (h : parseR s = (K, a, 0)) : (cut1 32 s.data.toList).2.2 = true ∧ printR K a ⟨(cut1 32 s.data.toList).2.1.toArray⟩ = (s, 0) ∧ errQ (K, a) = 0 := by
  obtain ⟨z, neg, wl, pl, hs, hu, h0, h8, hq, hpz, rfl, he⟩ := parse_ok h
  have hf := cut_flag hu
  refine ⟨hf, ?_, he⟩
  unfold printR
  rw [if_pos he]
  show (match unitAt (cut1 32 s.data.toList).2.1 with | none => _ | some p => _) = _
  rw [hu]
  show (if K = K then (textB (signed neg (valT z.toNat wl pl)) z ⟨(cut1 32 s.data.toList).2.1.toArray⟩, (0 : Int)) else (⟨#[]⟩, 10)) = _
  rw [if_pos rfl]
  refine Prod.ext ?_ rfl
  apply bytes_ext
  show decT (decide (signed neg (valT z.toNat wl pl) < 0)) z.toNat (signed neg (valT z.toNat wl pl)).natAbs ++ 32 :: (cut1 32 s.data.toList).2.1 = s.data.toList
  rw [signed_abs, signed_neg (fun e => by subst e; exact num_neg hq hpz), decT_numT hq hpz]
  exact (cut1_sum 32 s.data.toList hf).symm
end Go.Proofs.YtmjglehdckgcnaaDoor.Pr
namespace Go.Proofs.YtmjglehdckgcnaaDoor.Pr
open Go Go.RowKit Go.Lib Go.Proofs.YtmjglehdckgcnaaDoorW.PrintWords Go.Proofs.YtmjglehdckgcnaaDoorW.PrintLast Go.Proofs.YtmjglehdckgcnaaDoorW.PrintMore Go.Proofs.YtmjglehdckgcnaaDoor.X Go.Proofs.YtmjglehdckgcnaaDoor.TX Go.Proofs.YtmjglehdckgcnaaDoor.PL Go.Proofs.YtmjglehdckgcnaaDoor.SQ
def q2 (x : S23) : Int × Int := (x.f0, x.f1)
def qs (l : List S23) : List (Int × Int) := l.map q2
theorem rd_at {l : List S23} {i : Nat} (h : i < l.length) : rd_T23 l (i : Int) = l[i] := by
  unfold rd_T23
  rw [Int.toNat_natCast, List.getD_eq_getElem?_getD, List.getElem?_eq_getElem h]
  rfl
theorem rd_int {l : List S23} {i : Int} (h0 : 0 ≤ i) (h : i < (l.length : Int)) : ∃ n : Nat, ∃ hn : n < l.length, i = (n : Int) ∧ rd_T23 l i = l[n] := by
  have hn : i.toNat < l.length := by omega
  refine ⟨i.toNat, hn, by omega, ?_⟩
  have e := rd_at hn
  rw [show ((i.toNat : Nat) : Int) = i by omega] at e
  exact e
theorem any_index {l : List S23} {P : S23 → Prop} [DecidablePred P] {r : Int} (h : (0 ≤ r ∧ 0 ≤ r ∧ r < (l.length : Int) ∧ P (rd_T23 l r) ∧ ∀ j, 0 ≤ j → j < r → ¬ P (rd_T23 l j)) ∨ (r = -1 ∧ ∀ j, 0 ≤ j → j < (l.length : Int) → ¬ P (rd_T23 l j))) :
    decide (r ≥ 0) = l.any fun x => decide (P x) := by
  rcases h with ⟨h0, _, h1, h2, _⟩ | ⟨h0, h1⟩
  · obtain ⟨n, hn, e, e2⟩ := rd_int h0 h1
    rw [e2] at h2
    rw [decide_eq_true (show r ≥ 0 from h0)]
    exact (List.any_eq_true.2 ⟨_, List.getElem_mem hn, decide_eq_true h2⟩).symm
  · subst h0
    cases q : l.any fun x => decide (P x) with
    | false => rfl
    | true =>
      obtain ⟨x, hx, hp⟩ := List.any_eq_true.1 q
      obtain ⟨n, hn, e⟩ := List.getElem_of_mem hx
      have := h1 (n : Int) (by omega) (by omega)
      rw [rd_at hn, e] at this
      exact absurd (of_decide_eq_true hp) this
theorem bad_ev {l : List S23} (hl : l.length ≤ 64) : Ev (fun k => api_Quantity_39_at_40.f k l) (l.any fun x => decide (errQ (q2 x) ≠ 0)) := by
  have hi := fun a b c => index_ev (l.length : Int) (fun i => errQ (q2 (rd_T23 l i)) ≠ 0) (fun i k => api_Quantity_61_at_40.l0 k l (l.length : Int) i) a b c 0 (by omega) (by omega)
  obtain ⟨r, r1, r2⟩ := hi
    (by
      refine Ev.step (fun k => api_Quantity_61_at_40.l0.eq_2 ..) ?_
      exact evn (by omega) (evr rfl))
    (by
      intro i h0 h1 hq
      refine Ev.step (fun k => api_Quantity_61_at_40.l0.eq_2 ..) ?_
      refine evp h1 (evp h0 (evp h1 ?_))
      refine evb (a := true) ?_ (evp rfl (evr rfl))
      unfold unit_Sum_1.f
      refine evb (check_ev _ _) (evr ?_)
      exact bne_iff_ne.2 hq)
    (by
      intro i h0 h1 hq r hr
      refine Ev.step (fun k => api_Quantity_61_at_40.l0.eq_2 ..) ?_
      refine evp h1 (evp h0 (evp h1 ?_))
      refine evb (a := false) ?_ (evn (by decide) ?_)
      · unfold unit_Sum_1.f
        refine evb (check_ev _ _) (evr ?_)
        exact bne_eq_false_iff_eq.2 (Classical.byContradiction hq)
      · rw [w64 (by omega) (by omega)]
        exact hr)
  unfold api_Quantity_39_at_40.f
  refine evb (show Ev (fun k => api_Quantity_61_at_40.f k l) r from r1) (evr ?_)
  exact any_index (P := fun x => errQ (q2 x) ≠ 0) r2
theorem mixed_ev {l : List S23} (hl : l.length ≤ 64) (hne : 0 < l.length) : Ev (fun k => api_Quantity_39_at_41.f k l l) (l.any fun x => decide (x.f0 ≠ (rd_T23 l 0).f0)) := by
  have hi := fun a b c => index_ev (l.length : Int) (fun i => (rd_T23 l i).f0 ≠ (rd_T23 l 0).f0) (fun i k => api_Quantity_61_at_41.l0 k l (l.length : Int) i l) a b c 0 (by omega) (by omega)
  obtain ⟨r, r1, r2⟩ := hi
    (by
      refine Ev.step (fun k => api_Quantity_61_at_41.l0.eq_2 ..) ?_
      exact evn (by omega) (evr rfl))
    (by
      intro i h0 h1 hq
      refine Ev.step (fun k => api_Quantity_61_at_41.l0.eq_2 ..) ?_
      refine evp h1 (evp h0 (evp h1 ?_))
      refine evb (a := true) ?_ (evp rfl (evr rfl))
      unfold unit_Sum_2.f
      refine evp (by omega) (evr ?_)
      exact bne_iff_ne.2 hq)
    (by
      intro i h0 h1 hq r hr
      refine Ev.step (fun k => api_Quantity_61_at_41.l0.eq_2 ..) ?_
      refine evp h1 (evp h0 (evp h1 ?_))
      refine evb (a := false) ?_ (evn (by decide) ?_)
      · unfold unit_Sum_2.f
        refine evp (by omega) (evr ?_)
        exact bne_eq_false_iff_eq.2 (Classical.byContradiction hq)
      · rw [w64 (by omega) (by omega)]
        exact hr)
  unfold api_Quantity_39_at_41.f
  refine evb (show Ev (fun k => api_Quantity_61_at_41.f k l l) r from r1) (evr ?_)
  exact any_index (P := fun x => x.f0 ≠ (rd_T23 l 0).f0) r2
def outS (K : Int) : Option Int → Int × Int × Int
  | some v => (K, v, 0)
  | none => (0, 0, 15)
theorem qs_drop {l : List S23} {i : Nat} (h : i < l.length) : ((qs l).drop i).map Prod.snd = l[i].f1 :: ((qs l).drop (i + 1)).map Prod.snd := by
  unfold qs
  rw [← List.map_drop, ← List.map_drop, List.drop_eq_getElem_cons h]
  rfl
theorem err_in {K a : Int} (hK : 1 ≤ K ∧ K ≤ 7) : errQ (K, a) = 0 ↔ lowK K ≤ a ∧ a ≤ highK K := by
  rw [errQ_zero]
  exact ⟨fun h => h.2, fun h => ⟨hK, h⟩⟩
theorem low_high {K : Int} (hK : 1 ≤ K ∧ K ≤ 7) : -400 ≤ lowK K ∧ lowK K ≤ 0 ∧ 0 ≤ highK K ∧ highK K ≤ 1125899906842624 := by
  rcases seven hK with rfl | rfl | rfl | rfl | rfl | rfl | rfl <;> decide
theorem sum_loop {l : List S23} {K : Int} (hl : l.length ≤ 64) (hf : fineQ (qs l) K) (hK : 1 ≤ K ∧ K ≤ 7) : ∀ (d i : Nat) (s : Int), 1 ≤ i → i + d = l.length → lowK K ≤ s → s ≤ highK K →
    Ev (fun k => unit_Sum.l0 k l (l.length : Int) (i : Int) K s) (outS K (goS (lowK K) (highK K) s (((qs l).drop i).map Prod.snd)))
  | 0, i, s, h1, hi, hs0, hs1 => by
    refine Ev.step (fun k => unit_Sum.l0.eq_2 ..) ?_
    rw [List.drop_of_length_le (by unfold qs; rw [List.length_map]; omega)]
    exact evn (by omega) (evr rfl)
  | d + 1, i, s, h1, hi, hs0, hs1 => by
    have hil : i < l.length := by omega
    have hb := low_high hK
    have hm : q2 l[i] ∈ qs l := List.mem_map_of_mem (List.getElem_mem hil)
    have hx := err_bounds (hf.2.2.1 _ hm)
    have hx2 : -1000 ≤ l[i].f1 := hx.2.1
    have hx3 : l[i].f1 ≤ 1125899906842624 := hx.2.2
    refine Ev.step (fun k => unit_Sum.l0.eq_2 ..) ?_
    refine evp (by omega) (evp (by omega) (evp (by omega) (evp (by omega) ?_)))
    rw [rd_at hil, w64 (x := s + l[i].f1) (by omega) (by omega), w64 (x := (i : Int) + 1) (by omega) (by omega), show ((i : Int) + 1) = ((i + 1 : Nat) : Int) by omega, qs_drop hil]
    refine evb (check_ev _ _) ?_
    unfold goS
    by_cases c : errQ (K, s + l[i].f1) = 0
    · have c2 := (err_in hK).1 c
      rw [if_pos c2]
      exact evp c (sum_loop hl hf hK d (i + 1) (s + l[i].f1) (by omega) (by omega) c2.1 c2.2)
    · rw [if_neg (fun q => c ((err_in hK).2 q))]
      exact evn c (evr rfl)
def trip (x : (Int × Int) × Int) : Int × Int × Int := (x.1.1, x.1.2, x.2)
theorem any_qs {l : List S23} (P : Int × Int → Bool) : (l.any fun x => P (q2 x)) = (qs l).any P := by
  unfold qs
  rw [List.any_map]
  rfl
theorem sum_ev (l : List S23) : Ev (fun k => unit_Sum.f k l) (trip (sumQ (qs l))) := by
  have hlen : (qs l).length = l.length := by unfold qs; rw [List.length_map]
  unfold unit_Sum.f
  cases hl : l with
  | nil => exact evn (by simp) (evp (by simp) (evr rfl))
  | cons x r =>
    rw [← hl]
    have hq : qs l = q2 x :: qs r := by rw [hl]; rfl
    have h0 : 0 < l.length := by rw [hl]; simp
    have e0 : rd_T23 l 0 = x := by
      have := rd_at h0
      rw [show ((0 : Nat) : Int) = 0 from rfl] at this
      rw [this]
      simp [hl]
    rw [hq, sumQ_cons, ← hq, hlen]
    by_cases c1 : 64 < l.length
    · rw [if_pos c1]
      exact evp (by omega) (evr rfl)
    · rw [if_neg c1]
      refine evn (by omega) (evn (by omega) ?_)
      refine evb (bad_ev (by omega)) ?_
      rw [any_qs fun x => decide (errQ x ≠ 0)]
      by_cases c2 : ((qs l).any fun x => decide (errQ x ≠ 0)) = true
      · rw [if_pos c2]
        exact evp c2 (evr rfl)
      · rw [if_neg c2]
        refine evn c2 ?_
        refine evb (mixed_ev (by omega) h0) ?_
        rw [e0, show (l.any fun y => decide (y.f0 ≠ x.f0)) = (qs l).any (fun y => decide (y.1 ≠ (q2 x).1)) from any_qs fun y => decide (y.1 ≠ x.f0)]
        by_cases c3 : ((qs l).any fun y => decide (y.1 ≠ (q2 x).1)) = true
        · rw [if_pos c3]
          exact evp c3 (evr rfl)
        · rw [if_neg c3]
          refine evn c3 (evp (by omega) ?_)
          have hf : fineQ (qs l) x.f0 := by
            refine ⟨by rw [hq]; simp, by rw [hlen]; omega, fun y hy => ?_, fun y hy => ?_⟩
            · rcases Int.decEq (errQ y) 0 with e | e
              · exact absurd (List.any_eq_true.2 ⟨y, hy, decide_eq_true e⟩) c2
              · exact e
            · rcases Int.decEq y.1 x.f0 with e | e
              · exact absurd (List.any_eq_true.2 ⟨y, hy, decide_eq_true e⟩) c3
              · exact e
          have hx := hf.2.2.1 (q2 x) (by rw [hq]; exact List.mem_cons_self)
          have hK : 1 ≤ x.f0 ∧ x.f0 ≤ 7 := (err_bounds hx).1
          have hx2 := (err_in hK).1 hx
          have hb := low_high hK
          have ex : l[0] = x := by simp [hl]
          show Ev (fun k => unit_Sum.l0 k l (l.length : Int) 0 x.f0 0) (trip (match goS (lowK x.f0) (highK x.f0) 0 ((qs l).map Prod.snd) with | some v => ((x.f0, v), 0) | none => ((0, 0), 15)))
          have e1 : trip (match goS (lowK x.f0) (highK x.f0) 0 ((qs l).map Prod.snd) with | some v => ((x.f0, v), 0) | none => ((0, 0), 15)) = outS x.f0 (goS (lowK x.f0) (highK x.f0) 0 ((qs l).map Prod.snd)) := by
            cases goS (lowK x.f0) (highK x.f0) 0 ((qs l).map Prod.snd) <;> rfl
          rw [e1]
          have e2 : (qs l).map Prod.snd = x.f1 :: ((qs l).drop 1).map Prod.snd := by
            have := qs_drop h0
            rw [List.drop_zero] at this
            rw [this, ex]
          rw [e2]
          unfold goS
          rw [if_pos (by rw [Int.zero_add]; exact hx2), Int.zero_add]
          refine Ev.step (fun k => unit_Sum.l0.eq_2 ..) ?_
          refine evp (by omega) (evp (by omega) (evp (by omega) (evn (by omega) ?_)))
          rw [e0, Int.zero_add x.f1, w64 (x := x.f1) (by omega) (by omega), show wrap64 (0 + 1) = ((1 : Nat) : Int) from w64 (by omega) (by omega)]
          exact sum_loop (by omega) hf hK (l.length - 1) 1 x.f1 (by omega) (by omega) hx2.1 hx2.2
end Go.Proofs.YtmjglehdckgcnaaDoor.Pr
namespace Go.Proofs.YtmjglehdckgcnaaDoor.Pure
open Go Go.RowKit Go.Lib Go.Proofs.YtmjglehdckgcnaaDoorW.PrintWords Go.Proofs.YtmjglehdckgcnaaDoorW.PrintLast Go.Proofs.YtmjglehdckgcnaaDoorW.PrintMore Go.Proofs.YtmjglehdckgcnaaDoor.X Go.Proofs.YtmjglehdckgcnaaDoor.Pr Go.Proofs.YtmjglehdckgcnaaDoor.TX Go.Proofs.YtmjglehdckgcnaaDoor.PL Go.Proofs.YtmjglehdckgcnaaDoor.SQ
/-- The outermost t elements at either end stand in each other's places. -/
def Turned (l y : List S23) (t : Nat) : Prop := y.length = l.length ∧ ∀ i, (h : i < l.length) → (hy : i < y.length) → y[i] = if i < t ∨ l.length ≤ i + t then l[l.length - 1 - i]'(by omega) else l[i]
theorem turned_end {l y : List S23} {t : Nat} (h : Turned l y t) (ht : ¬ (t : Int) < (l.length : Int) - 1 - t) : y = l.reverse := by
  obtain ⟨h1, h2⟩ := h
  refine List.ext_getElem (by rw [List.length_reverse, h1]) fun i hi hr => ?_
  have hil : i < l.length := by omega
  rw [List.getElem_reverse, h2 i hil hi]
  by_cases c : i < t ∨ l.length ≤ i + t
  · rw [if_pos c]
  · rw [if_neg c]
    have : l.length - 1 - i = i := by omega
    simp only [this]
theorem s23_eta (x : S23) : (⟨x.f0, x.f1⟩ : S23) = x := rfl
theorem turned_step {l y : List S23} {t : Nat} (h : Turned l y t) (ht : (t : Int) < (l.length : Int) - 1 - t) (h1 : t < y.length) (h2 : l.length - 1 - t < y.length) : Turned l ((y.set t y[l.length - 1 - t]).set (l.length - 1 - t) y[t]) (t + 1) := by
  obtain ⟨k1, k2⟩ := h
  refine ⟨by rw [List.length_set, List.length_set, k1], fun i hi hy => ?_⟩
  have hiy : i < y.length := by omega
  have e1 := k2 t (by omega) h1
  rw [if_neg (by omega)] at e1
  have e2 := k2 (l.length - 1 - t) (by omega) h2
  rw [if_neg (by omega)] at e2
  rw [List.getElem_set]
  by_cases c1 : l.length - 1 - t = i
  · rw [if_pos c1, if_pos (Or.inr (by omega)), e1]
    have : l.length - 1 - i = t := by omega
    simp only [this]
  · rw [if_neg c1, List.getElem_set]
    by_cases c2 : t = i
    · rw [if_pos c2, if_pos (Or.inl (by omega)), e2]
      simp only [c2]
    · rw [if_neg c2, k2 i hi hiy]
      by_cases c3 : i < t ∨ l.length ≤ i + t
      · rw [if_pos c3, if_pos (by omega)]
      · rw [if_neg c3, if_neg (by omega)]
theorem rev_loop {l : List S23} (hl : l.length ≤ 1000) : ∀ (d t : Nat) (y : List S23), t + d = l.length → Turned l y t → Ev (fun k => api_Quantity_24.l0 k y (t : Int) ((l.length : Int) - 1 - t)) l.reverse := by
  intro d
  induction d with
  | zero =>
    intro t y hd hy
    have hc : ¬ (t : Int) < (l.length : Int) - 1 - t := by omega
    refine Ev.step (fun k => api_Quantity_24.l0.eq_2 ..) ?_
    exact evn hc (evr (turned_end hy hc))
  | succ d ih =>
    intro t y hd hy
    refine Ev.step (fun k => api_Quantity_24.l0.eq_2 ..) ?_
    by_cases c : (t : Int) < (l.length : Int) - 1 - t
    · have hyl := hy.1
      have h1 : t < y.length := by omega
      have h2 : l.length - 1 - t < y.length := by omega
      have ej : (l.length : Int) - 1 - t = ((l.length - 1 - t : Nat) : Int) := by omega
      refine evp c (evp (by omega) (evp (by omega) (evp (by omega) (evp (by omega) ?_))))
      rw [ej, rd_at h1, rd_at h2, s23_eta, s23_eta, Int.toNat_natCast, Int.toNat_natCast, w64 (x := (t : Int) + 1) (by omega) (by omega), w64 (x := ((l.length - 1 - t : Nat) : Int) - 1) (by omega) (by omega),
        show (t : Int) + 1 = ((t + 1 : Nat) : Int) by omega, show ((l.length - 1 - t : Nat) : Int) - 1 = (l.length : Int) - 1 - ((t + 1 : Nat) : Int) by omega]
      exact ih (t + 1) _ (by omega) (turned_step hy c h1 h2)
    · exact evn c (evr (turned_end hy c))
theorem rev_ev {l : List S23} (hl : l.length ≤ 1000) : Ev (fun k => api_Quantity_24.f k l) l.reverse := by
  unfold api_Quantity_24.f
  have h := rev_loop hl l.length 0 l (by omega) ⟨rfl, fun i h hy => by rw [if_neg (by omega)]⟩
  rw [w64 (by omega) (by omega)]
  have e : (l.length : Int) - 1 - ((0 : Nat) : Int) = (l.length : Int) - 1 := by omega
  rw [e] at h
  exact h
theorem qs_reverse (l : List S23) : qs l.reverse = (qs l).reverse := List.map_reverse ..
theorem order_j1 {l : List S23} (hl : l.length ≤ 65) (b : Bool) (hb : b = false → (sumQ (qs l)).2 = 0 ∧ 2 ≤ l.length) : Ev (fun k => spilelaw03_UnitOrder.j1 k l (sumQ (qs l)).2 b (sumQ (qs l)).1.1 (sumQ (qs l)).1.2) true := by
  refine Ev.step (fun k => spilelaw03_UnitOrder.j1.eq_2 ..) ?_
  cases b with
  | true =>
    refine evp rfl (evr ?_)
    have hk := sumQ_kind (qs l)
    by_cases c : (sumQ (qs l)).2 = 0
    · have h2 := hk.1 c
      have h3 : (!((sumQ (qs l)).1.1 == 0) || !((sumQ (qs l)).1.2 == 0)) = true := by
        cases q : (!((sumQ (qs l)).1.1 == 0) || !((sumQ (qs l)).1.2 == 0)) with
        | true => rfl
        | false =>
          exfalso
          rw [Bool.or_eq_false_iff, Bool.not_eq_false', Bool.not_eq_false', beq_iff_eq, beq_iff_eq] at q
          exact h2 (Prod.ext q.1 q.2)
      rw [h3, c]
      rfl
    · have h2 : (sumQ (qs l)).1 = (0, 0) := Classical.byContradiction fun q => c (hk.2 q)
      rw [h2, beq_eq_false_iff_ne.2 c]
      rfl
  | false =>
    obtain ⟨h0, h2⟩ := hb rfl
    refine evn (by decide) (evp (by omega) ?_)
    match l, h2, h0, hl with
    | [], h2, _, _ => exact absurd h2 (by simp)
    | [_], h2, _, _ => exact absurd h2 (by simp)
    | a :: b :: r, h2, h0, hl =>
      have hc : slices_Clone23.f ((a :: b :: r).take 2) = some [a, b] := rfl
      refine evb (evc (fun _ => hc) rfl) ?_
      refine evb (sum_ev [a, b]) ?_
      refine evb (evr rfl) (evb (evr rfl) ?_)
      have hlr : r.length ≤ 63 := by simp at hl; omega
      refine evp (by simp; omega) ?_
      obtain ⟨t1, t2⟩ := sumQ_two (a := q2 a) (b := q2 b) (r := qs r) h0
      refine evb (sum_ev _) ?_
      have e : qs ([(⟨(trip (sumQ (qs [a, b]))).1, (trip (sumQ (qs [a, b]))).2.1⟩ : S23)] ++ (a :: b :: r).drop 2) = (sumQ [q2 a, q2 b]).1 :: qs r := rfl
      rw [e]
      refine evp t1 (evp t2.1 (evr ?_))
      show ((sumQ ((sumQ [q2 a, q2 b]).1 :: qs r)).1.1 == (sumQ (q2 a :: q2 b :: qs r)).1.1 && (sumQ ((sumQ [q2 a, q2 b]).1 :: qs r)).1.2 == (sumQ (q2 a :: q2 b :: qs r)).1.2) = true
      rw [t2.2]
      simp
theorem order_j0 {l : List S23} (hl : l.length ≤ 65) : Ev (fun k => spilelaw03_UnitOrder.j0 k l (sumQ (qs l)).2 false (sumQ (qs l)).1.1 (sumQ (qs l)).1.2) true := by
  refine Ev.step (fun k => spilelaw03_UnitOrder.j0.eq_2 ..) ?_
  refine evn (by decide) ?_
  by_cases c : (sumQ (qs l)).2 = 0
  · exact evp c (order_j1 hl _ fun h => ⟨c, by have := of_decide_eq_false h; omega⟩)
  · exact evn c (order_j1 hl true fun h => by cases h)
theorem UnitOrder : unitOrderPure := by
  intro l hl
  refine Ev.rounds (?_ : Ev (fun k => spilelaw03_UnitOrder.f k l) true)
  unfold spilelaw03_UnitOrder.f
  refine evb (evc (fun _ => rfl) rfl : Ev (fun _ => spilelaw03_awake.f) true) ?_
  refine evp rfl ?_
  by_cases c : (l.length : Int) > 65
  · exact evp c (evr rfl)
  · refine evn c ?_
    have hc : slices_Clone23.f l = some l := by
      unfold slices_Clone23.f
      rw [if_pos (by omega)]
    refine evb (evc (fun _ => hc) rfl) ?_
    refine evb (sum_ev l) ?_
    refine evb (evc (fun _ => hc) rfl) ?_
    refine evb (rev_ev (by omega)) ?_
    refine evb (sum_ev l.reverse) ?_
    rw [qs_reverse]
    obtain ⟨s1, s2⟩ := sumQ_reverse (qs l)
    have hj := order_j0 (l := l) (by omega)
    show Ev (fun n => if (sumQ (qs l)).2 = 0 then (if (sumQ (qs l).reverse).2 = 0 then (if (!((sumQ (qs l)).1.1 == (sumQ (qs l).reverse).1.1) || (!((sumQ (qs l)).1.2 == (sumQ (qs l).reverse).1.2))) = true then _ else _) else _) else (if (sumQ (qs l).reverse).2 = 0 then _ else _)) true
    by_cases c1 : (sumQ (qs l)).2 = 0
    · refine evp c1 ?_
      by_cases c2 : (sumQ (qs l).reverse).2 = 0
      · refine evp c2 ?_
        have e := s1 c1 c2
        refine evn (by rw [e]; simp) ?_
        exact hj
      · refine evn c2 ?_
        have h15 : (sumQ (qs l).reverse).2 = 15 := (s2.1 (Or.inl c1)).resolve_left c2
        show Ev (fun n => spilelaw03_UnitOrder.j0 n l (sumQ (qs l)).2 (true != ((sumQ (qs l).reverse).2 == 15)) (sumQ (qs l)).1.1 (sumQ (qs l)).1.2) true
        rw [h15]
        exact hj
    · refine evn c1 ?_
      by_cases c2 : (sumQ (qs l).reverse).2 = 0
      · refine evp c2 ?_
        have h15 : (sumQ (qs l)).2 = 15 := (s2.2 (Or.inl c2)).resolve_left c1
        show Ev (fun n => spilelaw03_UnitOrder.j0 n l (sumQ (qs l)).2 (((sumQ (qs l)).2 == 15) != true) (sumQ (qs l)).1.1 (sumQ (qs l)).1.2) true
        have e : (((sumQ (qs l)).2 == 15) != true) = false := by rw [h15]; rfl
        rw [e]
        exact hj
      · refine evn c2 ?_
        show Ev (fun n => spilelaw03_UnitOrder.j0 n l (sumQ (qs l)).2 (((sumQ (qs l)).2 == 15) != ((sumQ (qs l).reverse).2 == 15)) (sumQ (qs l)).1.1 (sumQ (qs l)).1.2) true
        have e : (((sumQ (qs l)).2 == 15) != ((sumQ (qs l).reverse).2 == 15)) = false := by
          by_cases d : (sumQ (qs l)).2 = 15
          · have d2 : (sumQ (qs l).reverse).2 = 15 := (s2.1 (Or.inr d)).resolve_left c2
            rw [d, d2]
            rfl
          · have d2 : (sumQ (qs l).reverse).2 ≠ 15 := fun q => ((s2.2 (Or.inr q)).elim c1 d)
            rw [beq_eq_false_iff_ne.2 d, beq_eq_false_iff_ne.2 d2]
            rfl
        rw [e]
        exact hj
end Go.Proofs.YtmjglehdckgcnaaDoor.Pure
namespace Go.Proofs.YtmjglehdckgcnaaDoor.X
open Go
variable {H : Type} {enc : TypeId × Value → H}
theorem wrap_shaped {a : Assume} {C : Checked} {os : Os} {f : FuncId} {fn : Func} {s : ChangeSpec} {conds : List PathCond} {apart fresh handsOn again : Bool} {X : World → Array Value → Prop}
    (hX : ∀ (w w' : World) (args : Array Value), w.heap = w'.heap → X w args → X w' args)
    (own : ownKnob C.prog.godebug = none) (started : os.Started) (noInit : C.prog.inits.idxOf? f = none) (hfn : C.prog.funcs[f]? = some fn)
    (witness : ∃ (w : World) (tape : Tape) (i : Input), w.os = os ∧ (w.forCall tape i).Shaped C.prog ∧ i.vars = [] ∧ Input.okWide C.prog (w.forCall tape i) .any w.heap.size f i ∧
      ((s.pre enc C.prog fn conds apart (w.forCall tape i).memory i.args ∧ X (w.forCall tape i).memory i.args) ∧ sizedMet enc C.prog fn (OpenSpec.ofChange s) apart (w.forCall tape i).memory i.args) ∧ a.holds C.prog (lone (Frame.enter C.prog f i.args .normal) [] (w.forCall tape i)))
    (walk : ∀ (W : World) (base : Nat) (args : Array Value) (ds gs : List (DataW H)) (before : List MemPlace),
      (∀ (j : Nat) t v, fn.params[j]? = some t → args[j]? = some v → Value.okWide C.prog W .any base t v) →
      DataW.Whole enc C.prog fn.params.toList s.vars apart W args.toList ds gs before → X W args → W.ShapedOpen C.prog →
      Calls C.prog f args W fun e W' => ∃ v, e = .returned v ∧ s.post enc C.prog fn apart fresh handsOn again W args v W') :
    ReturnsInHanded a C os f .any (fun w args => (s.pre enc C.prog fn conds apart w args ∧ X w args) ∧ sizedMet enc C.prog fn (OpenSpec.ofChange s) apart w args) (s.post enc C.prog fn apart fresh handsOn again) := by
  refine returnsInHanded_of_calls own started noInit witness ?_
  intro w tape i _ hsh _ hok hpre _
  obtain ⟨_, _, _, fn', hfn', _, _, _, _, hval⟩ := hok
  obtain rfl : fn' = fn := Option.some.inj (hfn'.symm.trans hfn)
  obtain ⟨⟨⟨ds, gs, before, hw, _⟩, hx⟩, _⟩ := hpre
  refine (walk (w.forCall tape i) w.heap.size i.args ds gs before hval (DataW.Whole.of_heap (w' := w.forCall tape i) (by rfl) hw) (hX _ _ _ (by rfl) hx) hsh).mono fun e W' ⟨v, he, hp⟩ => ?_
  subst he
  exact ChangeSpec.post_blind hp
end Go.Proofs.YtmjglehdckgcnaaDoor.X
namespace Go.Proofs.YtmjglehdckgcnaaDoor.unitOrder
open Go Go.ChangeShapes Go.WideShapes Go.ChangeAt Go.RowKit
open Go.ChangeMaps (open_string shut_string)
open Go.Proofs.YtmjglehdckgcnaaDoorW.PrintWords Go.Proofs.YtmjglehdckgcnaaDoor.O Go.Proofs.YtmjglehdckgcnaaDoor.Opn Go.Proofs.YtmjglehdckgcnaaDoor.Pr Go.Proofs.YtmjglehdckgcnaaDoor.X
theorem own : ownKnob Tryd.prog.godebug = none := by kernel_rfl
theorem laidOut : laidOutB Tryd.prog = true := by kernel_rfl
abbrev laidL : List (String × DataW Unit) := [("math/bits.deBruijn32tab", Rows.laid_math_bits_deBruijn32tab), ("math/bits.deBruijn64tab", Rows.laid_math_bits_deBruijn64tab), ("internal/strconv.uint64pow10", Rows.laid_internal_strconv_uint64pow10), ("unicode/utf8.acceptRanges", Rows.laid_unicode_utf8_acceptRanges), ("strconv.ErrRange", Rows.laid_strconv_ErrRange), ("strconv.ErrSyntax", Rows.laid_strconv_ErrSyntax), ("unicode/utf8.first", Rows.laid_unicode_utf8_first)]
set_option maxRecDepth 100000 in
theorem lifted (os : Os) (started : os.Started) (H : Type) (enc : TypeId × Value → H) :
    ReturnsInHanded {} Tryd.checked os 8 .any (fun w args => (Rows.unitOrderSpec.pre enc Tryd.prog Tryd.f8 [] false w args ∧ laidMetH Tryd.prog laidL w) ∧ sizedMet enc Tryd.prog Tryd.f8 (OpenSpec.ofChange Rows.unitOrderSpec) false w args)
      (Rows.unitOrderSpec.post enc Tryd.prog Tryd.f8 false true false false) := by
  refine wrap_shaped (C := Tryd.checked) (X := (fun w _ => laidMetH Tryd.prog laidL w)) (fun _ _ _ hh h => h.of_heap hh) own started (by kernel_rfl) Tryd.func8
    (ChangeSpec.witness_shaped (enc := enc) (C := Tryd.checked) (os := os) (X := (fun w _ => laidMetH Tryd.prog laidL w)) false (World.laidAll Tryd.prog os laidL) #[.slice none 0 0] 8 (World.laidAll_os _ _ _) (World.shaped_of_ZipB (by kernel_rfl) (by kernel_rfl)) (by kernel_rfl) (by kernel_rfl) (by kernel_rfl) (by rw [MakeChecks.laidMetH_plain _ _ _ (by kernel_rfl)]; exact laidMet_laidAll _ (by kernel_rfl) (by kernel_rfl))) ?_
  intro W base args ds gs before hval0 hW hL hsh
  have hval : ∀ (j : Nat) t v, Tryd.f8.params[j]? = some t → args[j]? = some v → Value.okWide Tryd.prog W .any base t v := hval0
  have hW' := hW
  obtain ⟨p, q, hA0, hV, rfl, hfz, hnd⟩ := hW
  have hA : DataW.TrodAll enc Tryd.prog W 0 (fun _ => true) true Tryd.f8.params.toList args.toList ds p := hA0
  rw [Tryd.params8] at hA hval
  obtain ⟨v0, vs0, d0, ds0, p0, q0, hargs, rfl, rfl, h0, r0⟩ := trodAll_cons hA
  obtain ⟨rfl, rfl, rfl⟩ := trodAll_nil r0
  obtain rfl : args = #[v0] := by cases args; simp_all
  obtain ⟨rfl, rfl⟩ := trodVars_none hV
  obtain ⟨a0_, len0_, cap0_, rfl⟩ := okWide_slice Tryd.underlying42 (hval 0 42 v0 rfl rfl)
  have k0 := h0
  have lt0 : ∀ x ∈ p0, x.block < W.heap.size := by obtain ⟨m, hm⟩ := k0; exact DataW.trod_lt m _ _ _ hm
  obtain ⟨l0, K0, ok0⟩ : ∃ x, (Kd.slice 23 k23).K W x [.slice a0_ len0_ cap0_] ∧ (x.length ≤ maxLen ∧ ∀ x0_, x0_ ∈ x → ok23 x0_) := by
    obtain ⟨fuel, hf⟩ := h0
    exact opens42.2 _ _ _ _ _ _ _ _ _ hf
  obtain ⟨A0, c0, e0, g0, hr0⟩ := K0
  simp only [List.cons.injEq, Value.slice.injEq, and_true] at e0
  obtain ⟨rfl, rfl, rfl⟩ := e0
  clear hA0 hval0
  obtain ⟨k, hp⟩ := Pure.UnitOrder l0 ok0
  have hG : GI W := GI.of_laid laidL (by simp [laidL]) (by simp [laidL]) (by simp [laidL]) hL hsh
  refine (spilelaw03_UnitOrder.calls k _ _ l0 true W hr0 g0 hG rfl hp).mono fun e W' ⟨he, bel⟩ => ?_
  subst he
  exact ⟨_, rfl, _, _, _, [], _, [], hW', trodAll_mk1 (shut_bool Tryd.underlying4 _), (trodAll_cons_mk (Below.trod laidOut (by kernel_rfl) (of_decide_eq_true (by kernel_rfl)) k0 bel lt0) trodAll_mk0), rfl, bel.frame _, fun h => by cases h⟩
theorem holds : Rows.UnitOrderSaid :=
  OpenClaim.holds_of_wide 8 Tryd.f8 rfl rfl rfl rfl rfl rfl rfl ⟨rfl, rfl, rfl, rfl, rfl⟩ rfl rfl rfl rfl rfl (by kernel_rfl) Tryd.func8 (by kernel_rfl)
    (of_decide_eq_true (by kernel_rfl)) (by unfold Func.isWrapper; first | (rw [if_pos (by decide +kernel)]; kernel_rfl) | (rw [if_neg (by decide +kernel)]; exact ⟨rfl, rfl⟩))
    (fun os started H enc _ => lifted os started H enc)
theorem card : Rows.UnitOrderCardSaid :=
  Claim7.holds_tied_plain_at .later [] [.data, .data, .data, .data, .sentinel, .sentinel, .pinned] true (true, "276fe12706730ef75e144c1b8015c43b64ad7a3e181f65b1d21f8f3c42191b50") true
    holds (fun _ h => by cases h) (by kernel_rfl) (fun _ h => by cases h) unitOrder_row_tie rfl ⟨rfl, rfl⟩ (by kernel_rfl) rfl
    (fun f fn hf hfn => by
      obtain rfl : f = 8 := Option.some.inj ((show Tryd.prog.funcNamed "spile/spilelaw03.UnitOrder" = some 8 by kernel_rfl).symm.trans hf) |>.symm
      obtain rfl : fn = Tryd.f8 := (Option.some.inj (Tryd.func8.symm.trans hfn)).symm
      exact ⟨by kernel_rfl, fun j t ht => by
        rw [Tryd.params8] at ht
        have hm : t ∈ [42] := by simpa using Array.mem_of_getElem? ht
        have hall : ([42].all fun u => !Tryd.prog.wantsStandIn u) = true := by kernel_rfl
        exact (show Tryd.prog.wantsStandIn t = false by simpa using List.all_eq_true.1 hall t hm)⟩)
    (by kernel_rfl)
end Go.Proofs.YtmjglehdckgcnaaDoor.unitOrder
namespace Go.Proofs.YtmjglehdckgcnaaDoor
/-- The card, under a short name, for the claim. -/
theorem unitOrder_holds : Rows.UnitOrderCardSaid := unitOrder.card
#print axioms unitOrder_holds
end Go.Proofs.YtmjglehdckgcnaaDoor
