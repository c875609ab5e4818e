/-
A part of what these laws rest on: contracts of the functions that they reach, and plain lemmas.
-/
import Derived.Shelf.Spec.BitsCarry
import Derived.Test.YtholbmidciapdaaGreatDoorTariffLaterE
set_option linter.unusedVariables false
set_option linter.unusedSimpArgs false
namespace Go.Proofs.YtholbmidciapdaaGreatDoor.Pr
open Go.RowKit Go.Proofs.YtholbmidciapdaaGreatDoorW.PrintWords Go.Proofs.YtholbmidciapdaaGreatDoorW.PrintLast Go.Proofs.YtholbmidciapdaaGreatDoorW.PrintMore Go.Proofs.YtholbmidciapdaaGreatDoor.X
attribute [local go_sem] max2_int min2_int max_two min_two max_three min_three max_four min_four   -- for this text's walks alone
set_option linter.unusedVariables false
set_option linter.unusedSimpArgs false
attribute [local go_sem high] eqA26
mutual
def spilelaw46_TariffLater.j0 : Nat → Int → Int → Int → Bool → Int → List (S26) → Int → Int → Int → Option (Bool)
 | 0, _, _, _, _, _, _, _, _, _ => none
 | k + 1, x2, x3, x4, x29, x573000, x573001, x574000, x574001, x574002 => if x29 = true then ((spilelaw46_awake.f).bind fun t576 => (some t576)) else ((spilelaw46_cp.f x573000 x573001).bind fun bt577 => ((tariff_Insert.f k bt577.1 bt577.2 x574000 x574001 x574002).bind fun bt581 => (if bt581.2.2 = 0 then ((spilelaw46_cp.f bt581.1 bt581.2.1).bind fun bt587 => ((tariff_Insert.f k bt587.1 bt587.2 x574000 x574001 x574002).bind fun bt591 => ((spilelaw46_cp.f bt581.1 bt581.2.1).bind fun bt597 => ((tariff_At.f k bt597.1 bt597.2 x574000 x574001).bind fun bt601 => ((spilelaw46_cp.f bt581.1 bt581.2.1).bind fun bt606 => ((tariff_Check.f k bt606.1 bt606.2).bind fun bt610 => (if (wrap64 ((wrap64 (bt591.2.2 + bt601.2.2.2)) + bt610.2)) = 0 then (if bt610.1 = (-1) then ((spileref46_Same.f k bt591.1 bt591.2.1 bt581.1 bt581.2.1).bind fun t612 => (if t612 = true then (spilelaw46_TariffLater.j1 k x2 x3 x4 (!(bt601.1 == x574000) || (!(bt601.2.1 == x574001) || (!(bt601.2.2.1 == x574002)))) x573000 x573001 x574000 x574001 x574002 bt581.1 bt581.2.1) else (spilelaw46_TariffLater.j1 k x2 x3 x4 true x573000 x573001 x574000 x574001 x574002 bt581.1 bt581.2.1))) else (spilelaw46_TariffLater.j1 k x2 x3 x4 true x573000 x573001 x574000 x574001 x574002 bt581.1 bt581.2.1)) else (spilelaw46_TariffLater.j1 k x2 x3 x4 true x573000 x573001 x574000 x574001 x574002 bt581.1 bt581.2.1)))))))) else (some ((bt581.2.1.length : Int) == 0)))))
def spilelaw46_TariffLater.j1 : Nat → Int → Int → Int → Bool → Int → List (S26) → Int → Int → Int → Int → List (S26) → Option (Bool)
 | 0, _, _, _, _, _, _, _, _, _, _, _ => none
 | k + 1, x2, x3, x4, x87, x573000, x573001, x574000, x574001, x574002, x587000, x587001 => if x87 = true then (some false) else ((spilelaw46_cp.f x573000 x573001).bind fun bt613 => ((tariff_Duty.f k bt613.1 bt613.2 x2 x3 x4).bind fun bt617 => ((spilelaw46_cp.f x587000 x587001).bind fun bt619 => ((tariff_Duty.f k bt619.1 bt619.2 x2 x3 x4).bind fun bt623 => (if x2 = x574000 then (if x3 ≥ x574001 then (some true) else (if bt617.1 = bt623.1 then (some (bt617.2 == bt623.2)) else (some false))) else (if bt617.1 = bt623.1 then (some (bt617.2 == bt623.2)) else (some false)))))))
end
def spilelaw46_TariffLater.f (k : Nat) (a0_0 : Int) (l0_1 : List (S26)) (a1_0 : Int) (a1_1 : Int) (a1_2 : Int) (a2 : Int) (a3 : Int) (a4 : Int) : Option (Bool) := (spilelaw46_awake.f).bind fun t574 => (if t574 = true then ((spileref46_Few.f a0_0 l0_1).bind fun t575 => (spilelaw46_TariffLater.j0 k a2 a3 a4 (!t575) a0_0 l0_1 a1_0 a1_1 a1_2)) else (spilelaw46_TariffLater.j0 k a2 a3 a4 true a0_0 l0_1 a1_0 a1_1 a1_2))
def spilelaw46_TariffLater.T3 : Bool × List (List Nat × List Nat) := (true, [([], []), ([0], [0]), ([], []), ([1, 2, 1], [1, 2]), ([3], [3]), ([4], [4]), ([4], [4]), ([], []), ([7, 5, 3, 0, 1, 2, 3, 4, 5, 7], [5, 7]), ([6, 8, 0, 1, 2, 3, 4, 5, 6, 7, 8], [6])])
def spilelaw46_TariffLater.B3 : List Nat := [0, 1, 0, 7, 15, 31, 31, 0, 191, 511]
theorem spilelaw46_TariffLater.tab3 : rtab .any (opsOf Tryz.f8 3) = spilelaw46_TariffLater.T3 := by kernel_rfl
theorem spilelaw46_TariffLater.bits3 : waitsOk spilelaw46_TariffLater.T3.2 spilelaw46_TariffLater.B3 = true := by kernel_rfl
def spilelaw46_TariffLater.T6 : Bool × List (List Nat × List Nat) := (true, [([], []), ([0], [0]), ([], []), ([1, 2, 1], [1, 2]), ([3], [3]), ([4], [4]), ([4], [4]), ([], []), ([7, 5, 3, 0, 1, 2, 3, 4, 5, 7], [5, 7]), ([6, 8, 0, 1, 2, 3, 4, 5, 6, 7, 8], [6])])
def spilelaw46_TariffLater.B6 : List Nat := [0, 1, 0, 7, 15, 31, 31, 0, 191, 511]
theorem spilelaw46_TariffLater.tab6 : rtab .any (opsOf Tryz.f8 6) = spilelaw46_TariffLater.T6 := by kernel_rfl
theorem spilelaw46_TariffLater.bits6 : waitsOk spilelaw46_TariffLater.T6.2 spilelaw46_TariffLater.B6 = true := by kernel_rfl
def spilelaw46_TariffLater.T7 : Bool × List (List Nat × List Nat) := (true, [([], []), ([0], [0]), ([], []), ([2], [2]), ([], []), ([4], [4]), ([1, 3, 5, 1], [1, 3, 5]), ([6], [6]), ([7], [7]), ([7], [7]), ([], []), ([10, 8, 6, 0, 1, 2, 3, 4, 5, 6, 7, 8, 10], [8, 10]), ([9, 11, 0, 1, 2, 3, 4, 5, 6, 7, 8, 9, 10, 11], [9])])
def spilelaw46_TariffLater.B7 : List Nat := [0, 1, 0, 4, 0, 16, 63, 127, 255, 255, 0, 1535, 4095]
theorem spilelaw46_TariffLater.tab7 : rtab .any (opsOf Tryz.f8 7) = spilelaw46_TariffLater.T7 := by kernel_rfl
theorem spilelaw46_TariffLater.bits7 : waitsOk spilelaw46_TariffLater.T7.2 spilelaw46_TariffLater.B7 = true := by kernel_rfl
set_option maxHeartbeats 8000000 in
set_option maxRecDepth 100000 in
theorem spilelaw46_TariffLater.calls (k : Nat) (a0_0 : Int) (A0_1 : Option Addr) (c0_1 : Nat) (l0_1 : List (S26)) (a1_0 : Int) (a1_1 : Int) (a1_2 : Int) (a2 : Int) (a3 : Int) (a4 : Int) (r : Bool) (w : World) (hr0_1 : Kd.C k26 w A0_1 l0_1.length l0_1) (hc0_1 : l0_1.length ≤ c0_1) (hG : GI w) (hr_ : r = true) (h : spilelaw46_TariffLater.f k a0_0 l0_1 a1_0 a1_1 a1_2 a2 a3 a4 = some r) :
  Calls Tryz.prog 8 #[.agg #[.int .i64 a0_0, .slice A0_1 l0_1.length c0_1], .agg #[.int .i64 a1_0, .int .i64 a1_1, .int .i64 a1_2], .int .i64 a2, .int .i64 a3, .int .i64 a4] w fun e w' => e = .returned (.bool r) ∧ Below w.heap.size w w' := by
 have hu24 := Tryz.underlying24; have hu26 := Tryz.underlying26; have HR0_1 := Aside0.mk hr0_1; have HC0_1 := Aside0.mk hc0_1; clear hr0_1 hc0_1; have HG := Aside0.mk hG; clear hG; have HB := Aside0.mk (Below.refl w.heap.size w); have H : ((spilelaw46_awake.f).bind fun t574 => (if t574 = true then ((spileref46_Few.f a0_0 l0_1).bind fun t575 => (spilelaw46_TariffLater.j0 k a2 a3 a4 (!t575) a0_0 l0_1 a1_0 a1_1 a1_2)) else (spilelaw46_TariffLater.j0 k a2 a3 a4 true a0_0 l0_1 a1_0 a1_1 a1_2))) = some r := h; clear h; have HC6 := Aside0.mk H; clear H; go_enter Tryz.func8, Tryz.ntmps8
 go_upto_region 1 with (first | ((with_reducible refine gate_dst (N := 5) rfl ?_); refine box_event ?hg (N := 5) ?hd (cs := #[.int .i64 a0_0, .slice A0_1 l0_1.length c0_1]) (t := 24) ?hr ?_; (case hd => rfl); (case hg => rfl); (case hr => first | (go_simp; done) | (go_simp; rfl)); intro gb572 hg w7 hbox hb; have n0_ := Aside0.mk (below_step (eG HB.out) hb); have n1_ := Aside0.mk (hbox); have n2_ := Aside0.mk ((by rw [hg]; exact (below_size (eG HB.out)) : w.heap.size ≤ gb572)); have n3_ := Aside0.mk ((by rw [hg]; exact (below_size (eG HB.out)) : w.heap.size ≤ gb572)); clear HB; have HB := n0_; have BK572 := n1_; have GW572 := n2_; have GE572 := n3_; have ig572_ := geI GE572; clear n0_ n1_ n2_ n3_; clear hb hbox hg) | ((with_reducible refine gate_dst (N := 6) rfl ?_); refine box_event ?hg (N := 6) ?hd (cs := #[.int .i64 a1_0, .int .i64 a1_1, .int .i64 a1_2]) (t := 26) ?hr ?_; (case hd => rfl); (case hg => rfl); (case hr => first | (go_simp; done) | (go_simp; rfl)); intro gb573 hg w8 hbox hb; have n0_ := Aside0.mk (blk_below (bG BK572.out) hb); have n1_ := Aside0.mk (below_step (eG HB.out) hb); have n2_ := Aside0.mk (hbox); have n3_ := Aside0.mk ((by rw [hg]; exact (below_size (eG HB.out)) : w.heap.size ≤ gb573)); have n4_ := Aside0.mk ((by rw [hg]; exact (below_size (eG HB.out)) : w.heap.size ≤ gb573)); have n5_ := Aside0.mk ((by rw [hg]; exact Nat.ne_of_lt (blk_lt (bG BK572.out)) : gb572 ≠ gb573)); have n6_ := Aside0.mk ((by rw [hg]; exact Nat.ne_of_gt (blk_lt (bG BK572.out)) : gb573 ≠ gb572)); clear BK572; clear HB; have BK572 := n0_; have HB := n1_; have BK573 := n2_; have GW573 := n3_; have GE573 := n4_; have ig573_ := geI GE573; have NB572_573 := n5_; have NB573_572 := n6_; clear n0_ n1_ n2_ n3_ n4_ n5_ n6_; clear hb hbox hg))
 (try simp only [Act.put, sIA, sC0, sCS])
 go_cut [29] (fun v29 wc => ∃ (kq : Nat) (x29_5 : Bool), v29 = .bool x29_5 ∧ Aside0 (spilelaw46_TariffLater.j0 kq a2 a3 a4 x29_5 a0_0 l0_1 a1_0 a1_1 a1_2 = some r) ∧ Aside0 (kq ≤ k) ∧ Aside0 (wc.heap[gb572]? = some (.cells #[.int .i64 a0_0, (.slice A0_1 l0_1.length c0_1)] 24 (0, 0))) ∧ Aside0 (wc.heap[gb573]? = some (.cells #[.int .i64 a1_0, .int .i64 a1_1, .int .i64 a1_2] 26 (0, 0))) ∧ Aside0 (Below w.heap.size w wc))
 case first =>
  have H := HC6.out; clear HC6; replace H := Option.bind_eq_some_iff.mp H; obtain ⟨t574, A90, H⟩ := H; replace H : (if t574 = true then ((spileref46_Few.f a0_0 l0_1).bind fun t575 => (spilelaw46_TariffLater.j0 k a2 a3 a4 (!t575) a0_0 l0_1 a1_0 a1_1 a1_2)) else (spilelaw46_TariffLater.j0 k a2 a3 a4 true a0_0 l0_1 a1_0 a1_1 a1_2)) = some r := H; have A9 := Aside0.mk A90; clear A90; by_cases c10 : t574 = true
  ·
   subst c10; replace H : ((spileref46_Few.f a0_0 l0_1).bind fun t575 => (spilelaw46_TariffLater.j0 k a2 a3 a4 (!t575) a0_0 l0_1 a1_0 a1_1 a1_2)) = some r := by rw [if_pos rfl] at H; exact H
   replace H := Option.bind_eq_some_iff.mp H; obtain ⟨t575, A110, H⟩ := H; replace H : (spilelaw46_TariffLater.j0 k a2 a3 a4 (!t575) a0_0 l0_1 a1_0 a1_1 a1_2) = some r := H; have A11 := Aside0.mk A110; clear A110; have H' := Aside0.mk H; clear H; go_wp2_with (first | ((with_reducible refine gate_callee (f := 11) rfl ?_); refine goesL_ (some 23) rfl rfl Tryz.func11 (by kernel_rfl) rfl #[] rfl (by (try simp only [List.map_toArray, List.map_cons, List.map_nil]); first | done | rfl | (simp only [List.length_drop, List.length_take]; rfl)) ?_; (with_reducible refine (spilelaw46_awake.calls  true _ ?side1 A9.out).mono ?_); (case side1 => exact GI.below HG.out (eG HB.out)); rintro e w12 ⟨rfl, hb⟩; refine ⟨_, rfl, ?_⟩; have n0_ := Aside0.mk (blk_below (bG BK572.out) hb); have n1_ := Aside0.mk (blk_below (bG BK573.out) hb); have n2_ := Aside0.mk (below_step (eG HB.out) hb); clear BK572; clear BK573; clear HB; have BK572 := n0_; have BK573 := n1_; have HB := n2_; clear n0_ n1_ n2_; (try clear hb); (try clear hb2); (try clear hk); (try clear hi); have hnb13 := NB572_573.out; have hnc13 := NB573_572.out; have hcz14_0 : w12.cell? ⟨gb572, 0, none⟩ = some (.int .i64 a0_0) := (blk_cell BK572.out 0).trans rfl; have hcz14_1 : w12.cell? ⟨gb572, 1, none⟩ = some (.slice A0_1 l0_1.length c0_1) := (blk_cell BK572.out 1).trans rfl; have hfz14_0 := blk_frozen BK572.out 0; have hfz14_1 := blk_frozen BK572.out 1) | (go_at_call 12; (with_reducible refine (spileref46_Few.calls a0_0 _ _ l0_1 t575 _ ?side1 ?side2 A11.out).mono ?_); (case side1 => repeat (first | exact (Kd.C_below HR0_1.out HB.out) | (with_reducible refine Kd.C_alloc ?_ _) | (with_reducible refine Kd.C_drewN ?_ _) | (with_reducible refine Kd.C_drew ?_))); (case side2 => exact HC0_1.out); rintro e w15 ⟨rfl, hb⟩; have n0_ := Aside0.mk (blk_below (bG BK572.out) hb); have n1_ := Aside0.mk (blk_below (bG BK573.out) hb); have n2_ := Aside0.mk (below_step (eG HB.out) hb); clear BK572; clear BK573; clear HB; have BK572 := n0_; have BK573 := n1_; have HB := n2_; clear n0_ n1_ n2_; (try clear hb); (try clear hb2); (try clear hk); (try clear hi)))
   go_meet
   case rel => exact ⟨_, (!t575), (by first | rfl | (simp; done) | (simp [*]; done)), H', ⟨by first | omega | exact Nat.le_refl _⟩, ⟨by (with_reducible repeat first | apply bN | apply bD | apply bA); exact BK572.out⟩, ⟨by (with_reducible repeat first | apply bN | apply bD | apply bA); exact BK573.out⟩, ⟨eG HB.out⟩⟩
  ·
   replace c10 := Bool.eq_false_iff.mpr c10; subst c10; replace H : (spilelaw46_TariffLater.j0 k a2 a3 a4 true a0_0 l0_1 a1_0 a1_1 a1_2) = some r := by rw [if_neg (show ¬ (false = true) by decide)] at H; exact H
   have H' := Aside0.mk H; clear H; go_wp2_with (first | ((with_reducible refine gate_callee (f := 11) rfl ?_); refine goesL_ (some 23) rfl rfl Tryz.func11 (by kernel_rfl) rfl #[] rfl (by (try simp only [List.map_toArray, List.map_cons, List.map_nil]); first | done | rfl | (simp only [List.length_drop, List.length_take]; rfl)) ?_; (with_reducible refine (spilelaw46_awake.calls  false _ ?side1 A9.out).mono ?_); (case side1 => exact GI.below HG.out (eG HB.out)); rintro e w16 ⟨rfl, hb⟩; refine ⟨_, rfl, ?_⟩; have n0_ := Aside0.mk (blk_below (bG BK572.out) hb); have n1_ := Aside0.mk (blk_below (bG BK573.out) hb); have n2_ := Aside0.mk (below_step (eG HB.out) hb); clear BK572; clear BK573; clear HB; have BK572 := n0_; have BK573 := n1_; have HB := n2_; clear n0_ n1_ n2_; (try clear hb); (try clear hb2); (try clear hk); (try clear hi)))
   go_meet
   case rel => exact ⟨_, (true), (by first | rfl | (simp; done) | (simp [*]; done)), H', ⟨by first | omega | exact Nat.le_refl _⟩, ⟨by (with_reducible repeat first | apply bN | apply bD | apply bA); exact BK572.out⟩, ⟨by (with_reducible repeat first | apply bN | apply bD | apply bA); exact BK573.out⟩, ⟨eG HB.out⟩⟩
 case rest =>
  clear HC6; repeat first | clear c1 | clear p2 | clear c8 | clear c10 | clear c11 | clear c13 | clear hcz14_0 | clear hcz14_1 | clear hfz14_0 | clear hfz14_1
  obtain ⟨kq, x29_5, rfl, HA, HJ5, BK572, BK573, HB⟩ := hcut
  cases kq with
  | zero => exact absurd HA.out (by simp [spilelaw46_TariffLater.j0])
  | succ kj5 =>
   have H := HA.out; clear HA; simp only [spilelaw46_TariffLater.j0] at H; by_cases c17 : x29_5 = true
   ·
    subst c17; replace H : ((spilelaw46_awake.f).bind fun t576 => (some t576)) = some r := by rw [if_pos rfl] at H; exact H
    replace H := Option.bind_eq_some_iff.mp H; obtain ⟨t576, A180, H⟩ := H; replace H : (some t576) = some r := H; have A18 := Aside0.mk A180; clear A180; obtain rfl := Option.some.inj H; go_wp2_with (first | ((with_reducible refine gate_callee (f := 11) rfl ?_); refine goesL_ (some 30) rfl rfl Tryz.func11 (by kernel_rfl) rfl #[] rfl (by (try simp only [List.map_toArray, List.map_cons, List.map_nil]); first | done | rfl | (simp only [List.length_drop, List.length_take]; rfl)) ?_; (with_reducible refine (spilelaw46_awake.calls  t576 _ ?side1 A18.out).mono ?_); (case side1 => exact GI.below HG.out (eG HB.out)); rintro e w19 ⟨rfl, hb⟩; refine ⟨_, rfl, ?_⟩; have n0_ := Aside0.mk (blk_below (bG BK572.out) hb); have n1_ := Aside0.mk (blk_below (bG BK573.out) hb); have n2_ := Aside0.mk (below_step (eG HB.out) hb); clear BK572; clear BK573; clear HB; have BK572 := n0_; have BK573 := n1_; have HB := n2_; clear n0_ n1_ n2_; (try clear hb); (try clear hb2); (try clear hk); (try clear hi)))
    go_ret
    exact ⟨by first | rfl | (simp [errW_none, errW_some] <;> rfl) | (simp [*, errW_none, errW_some] <;> rfl), eG HB.out⟩
   ·
    replace c17 := Bool.eq_false_iff.mpr c17; subst c17; replace H : ((spilelaw46_cp.f a0_0 l0_1).bind fun bt577 => ((tariff_Insert.f kj5 bt577.1 bt577.2 a1_0 a1_1 a1_2).bind fun bt581 => (if bt581.2.2 = 0 then ((spilelaw46_cp.f bt581.1 bt581.2.1).bind fun bt587 => ((tariff_Insert.f kj5 bt587.1 bt587.2 a1_0 a1_1 a1_2).bind fun bt591 => ((spilelaw46_cp.f bt581.1 bt581.2.1).bind fun bt597 => ((tariff_At.f kj5 bt597.1 bt597.2 a1_0 a1_1).bind fun bt601 => ((spilelaw46_cp.f bt581.1 bt581.2.1).bind fun bt606 => ((tariff_Check.f kj5 bt606.1 bt606.2).bind fun bt610 => (if (wrap64 ((wrap64 (bt591.2.2 + bt601.2.2.2)) + bt610.2)) = 0 then (if bt610.1 = (-1) then ((spileref46_Same.f kj5 bt591.1 bt591.2.1 bt581.1 bt581.2.1).bind fun t612 => (if t612 = true then (spilelaw46_TariffLater.j1 kj5 a2 a3 a4 (!(bt601.1 == a1_0) || (!(bt601.2.1 == a1_1) || (!(bt601.2.2.1 == a1_2)))) a0_0 l0_1 a1_0 a1_1 a1_2 bt581.1 bt581.2.1) else (spilelaw46_TariffLater.j1 kj5 a2 a3 a4 true a0_0 l0_1 a1_0 a1_1 a1_2 bt581.1 bt581.2.1))) else (spilelaw46_TariffLater.j1 kj5 a2 a3 a4 true a0_0 l0_1 a1_0 a1_1 a1_2 bt581.1 bt581.2.1)) else (spilelaw46_TariffLater.j1 kj5 a2 a3 a4 true a0_0 l0_1 a1_0 a1_1 a1_2 bt581.1 bt581.2.1)))))))) else (some ((bt581.2.1.length : Int) == 0))))) = some r := by rw [if_neg (show ¬ (false = true) by decide)] at H; exact H
    replace H := Option.bind_eq_some_iff.mp H; obtain ⟨⟨t577, t578⟩, A200, H⟩ := H; replace H : ((tariff_Insert.f kj5 t577 t578 a1_0 a1_1 a1_2).bind fun bt581 => (if bt581.2.2 = 0 then ((spilelaw46_cp.f bt581.1 bt581.2.1).bind fun bt587 => ((tariff_Insert.f kj5 bt587.1 bt587.2 a1_0 a1_1 a1_2).bind fun bt591 => ((spilelaw46_cp.f bt581.1 bt581.2.1).bind fun bt597 => ((tariff_At.f kj5 bt597.1 bt597.2 a1_0 a1_1).bind fun bt601 => ((spilelaw46_cp.f bt581.1 bt581.2.1).bind fun bt606 => ((tariff_Check.f kj5 bt606.1 bt606.2).bind fun bt610 => (if (wrap64 ((wrap64 (bt591.2.2 + bt601.2.2.2)) + bt610.2)) = 0 then (if bt610.1 = (-1) then ((spileref46_Same.f kj5 bt591.1 bt591.2.1 bt581.1 bt581.2.1).bind fun t612 => (if t612 = true then (spilelaw46_TariffLater.j1 kj5 a2 a3 a4 (!(bt601.1 == a1_0) || (!(bt601.2.1 == a1_1) || (!(bt601.2.2.1 == a1_2)))) a0_0 l0_1 a1_0 a1_1 a1_2 bt581.1 bt581.2.1) else (spilelaw46_TariffLater.j1 kj5 a2 a3 a4 true a0_0 l0_1 a1_0 a1_1 a1_2 bt581.1 bt581.2.1))) else (spilelaw46_TariffLater.j1 kj5 a2 a3 a4 true a0_0 l0_1 a1_0 a1_1 a1_2 bt581.1 bt581.2.1)) else (spilelaw46_TariffLater.j1 kj5 a2 a3 a4 true a0_0 l0_1 a1_0 a1_1 a1_2 bt581.1 bt581.2.1)))))))) else (some ((bt581.2.1.length : Int) == 0)))) = some r := H; have A20 := Aside0.mk A200; clear A200; replace H := Option.bind_eq_some_iff.mp H; obtain ⟨⟨t581, t582, t585⟩, A210, H⟩ := H; replace H : (if t585 = 0 then ((spilelaw46_cp.f t581 t582).bind fun bt587 => ((tariff_Insert.f kj5 bt587.1 bt587.2 a1_0 a1_1 a1_2).bind fun bt591 => ((spilelaw46_cp.f t581 t582).bind fun bt597 => ((tariff_At.f kj5 bt597.1 bt597.2 a1_0 a1_1).bind fun bt601 => ((spilelaw46_cp.f t581 t582).bind fun bt606 => ((tariff_Check.f kj5 bt606.1 bt606.2).bind fun bt610 => (if (wrap64 ((wrap64 (bt591.2.2 + bt601.2.2.2)) + bt610.2)) = 0 then (if bt610.1 = (-1) then ((spileref46_Same.f kj5 bt591.1 bt591.2.1 t581 t582).bind fun t612 => (if t612 = true then (spilelaw46_TariffLater.j1 kj5 a2 a3 a4 (!(bt601.1 == a1_0) || (!(bt601.2.1 == a1_1) || (!(bt601.2.2.1 == a1_2)))) a0_0 l0_1 a1_0 a1_1 a1_2 t581 t582) else (spilelaw46_TariffLater.j1 kj5 a2 a3 a4 true a0_0 l0_1 a1_0 a1_1 a1_2 t581 t582))) else (spilelaw46_TariffLater.j1 kj5 a2 a3 a4 true a0_0 l0_1 a1_0 a1_1 a1_2 t581 t582)) else (spilelaw46_TariffLater.j1 kj5 a2 a3 a4 true a0_0 l0_1 a1_0 a1_1 a1_2 t581 t582)))))))) else (some ((t582.length : Int) == 0))) = some r := H; have A21 := Aside0.mk A210; clear A210; by_cases c22 : t585 = 0
    ·
     rw [if_pos c22] at H; have c22b0 : (t585 == 0) = true := beq_iff_eq.mpr c22; have c22b1 : (t585 != 0) = false := bne_eq_false_iff_eq.mpr c22; clear c22; replace H := Option.bind_eq_some_iff.mp H; obtain ⟨⟨t587, t588⟩, A230, H⟩ := H; replace H : ((tariff_Insert.f kj5 t587 t588 a1_0 a1_1 a1_2).bind fun bt591 => ((spilelaw46_cp.f t581 t582).bind fun bt597 => ((tariff_At.f kj5 bt597.1 bt597.2 a1_0 a1_1).bind fun bt601 => ((spilelaw46_cp.f t581 t582).bind fun bt606 => ((tariff_Check.f kj5 bt606.1 bt606.2).bind fun bt610 => (if (wrap64 ((wrap64 (bt591.2.2 + bt601.2.2.2)) + bt610.2)) = 0 then (if bt610.1 = (-1) then ((spileref46_Same.f kj5 bt591.1 bt591.2.1 t581 t582).bind fun t612 => (if t612 = true then (spilelaw46_TariffLater.j1 kj5 a2 a3 a4 (!(bt601.1 == a1_0) || (!(bt601.2.1 == a1_1) || (!(bt601.2.2.1 == a1_2)))) a0_0 l0_1 a1_0 a1_1 a1_2 t581 t582) else (spilelaw46_TariffLater.j1 kj5 a2 a3 a4 true a0_0 l0_1 a1_0 a1_1 a1_2 t581 t582))) else (spilelaw46_TariffLater.j1 kj5 a2 a3 a4 true a0_0 l0_1 a1_0 a1_1 a1_2 t581 t582)) else (spilelaw46_TariffLater.j1 kj5 a2 a3 a4 true a0_0 l0_1 a1_0 a1_1 a1_2 t581 t582))))))) = some r := H; have A23 := Aside0.mk A230; clear A230; replace H := Option.bind_eq_some_iff.mp H; obtain ⟨⟨t591, t592, t595⟩, A240, H⟩ := H; replace H : ((spilelaw46_cp.f t581 t582).bind fun bt597 => ((tariff_At.f kj5 bt597.1 bt597.2 a1_0 a1_1).bind fun bt601 => ((spilelaw46_cp.f t581 t582).bind fun bt606 => ((tariff_Check.f kj5 bt606.1 bt606.2).bind fun bt610 => (if (wrap64 ((wrap64 (t595 + bt601.2.2.2)) + bt610.2)) = 0 then (if bt610.1 = (-1) then ((spileref46_Same.f kj5 t591 t592 t581 t582).bind fun t612 => (if t612 = true then (spilelaw46_TariffLater.j1 kj5 a2 a3 a4 (!(bt601.1 == a1_0) || (!(bt601.2.1 == a1_1) || (!(bt601.2.2.1 == a1_2)))) a0_0 l0_1 a1_0 a1_1 a1_2 t581 t582) else (spilelaw46_TariffLater.j1 kj5 a2 a3 a4 true a0_0 l0_1 a1_0 a1_1 a1_2 t581 t582))) else (spilelaw46_TariffLater.j1 kj5 a2 a3 a4 true a0_0 l0_1 a1_0 a1_1 a1_2 t581 t582)) else (spilelaw46_TariffLater.j1 kj5 a2 a3 a4 true a0_0 l0_1 a1_0 a1_1 a1_2 t581 t582)))))) = some r := H; have A24 := Aside0.mk A240; clear A240; replace H := Option.bind_eq_some_iff.mp H; obtain ⟨⟨t597, t598⟩, A250, H⟩ := H; replace H : ((tariff_At.f kj5 t597 t598 a1_0 a1_1).bind fun bt601 => ((spilelaw46_cp.f t581 t582).bind fun bt606 => ((tariff_Check.f kj5 bt606.1 bt606.2).bind fun bt610 => (if (wrap64 ((wrap64 (t595 + bt601.2.2.2)) + bt610.2)) = 0 then (if bt610.1 = (-1) then ((spileref46_Same.f kj5 t591 t592 t581 t582).bind fun t612 => (if t612 = true then (spilelaw46_TariffLater.j1 kj5 a2 a3 a4 (!(bt601.1 == a1_0) || (!(bt601.2.1 == a1_1) || (!(bt601.2.2.1 == a1_2)))) a0_0 l0_1 a1_0 a1_1 a1_2 t581 t582) else (spilelaw46_TariffLater.j1 kj5 a2 a3 a4 true a0_0 l0_1 a1_0 a1_1 a1_2 t581 t582))) else (spilelaw46_TariffLater.j1 kj5 a2 a3 a4 true a0_0 l0_1 a1_0 a1_1 a1_2 t581 t582)) else (spilelaw46_TariffLater.j1 kj5 a2 a3 a4 true a0_0 l0_1 a1_0 a1_1 a1_2 t581 t582))))) = some r := H; have A25 := Aside0.mk A250; clear A250; replace H := Option.bind_eq_some_iff.mp H; obtain ⟨⟨t601, t602, t603, t604⟩, A260, H⟩ := H; replace H : ((spilelaw46_cp.f t581 t582).bind fun bt606 => ((tariff_Check.f kj5 bt606.1 bt606.2).bind fun bt610 => (if (wrap64 ((wrap64 (t595 + t604)) + bt610.2)) = 0 then (if bt610.1 = (-1) then ((spileref46_Same.f kj5 t591 t592 t581 t582).bind fun t612 => (if t612 = true then (spilelaw46_TariffLater.j1 kj5 a2 a3 a4 (!(t601 == a1_0) || (!(t602 == a1_1) || (!(t603 == a1_2)))) a0_0 l0_1 a1_0 a1_1 a1_2 t581 t582) else (spilelaw46_TariffLater.j1 kj5 a2 a3 a4 true a0_0 l0_1 a1_0 a1_1 a1_2 t581 t582))) else (spilelaw46_TariffLater.j1 kj5 a2 a3 a4 true a0_0 l0_1 a1_0 a1_1 a1_2 t581 t582)) else (spilelaw46_TariffLater.j1 kj5 a2 a3 a4 true a0_0 l0_1 a1_0 a1_1 a1_2 t581 t582)))) = some r := H; have A26 := Aside0.mk A260; clear A260; replace H := Option.bind_eq_some_iff.mp H; obtain ⟨⟨t606, t607⟩, A270, H⟩ := H; replace H : ((tariff_Check.f kj5 t606 t607).bind fun bt610 => (if (wrap64 ((wrap64 (t595 + t604)) + bt610.2)) = 0 then (if bt610.1 = (-1) then ((spileref46_Same.f kj5 t591 t592 t581 t582).bind fun t612 => (if t612 = true then (spilelaw46_TariffLater.j1 kj5 a2 a3 a4 (!(t601 == a1_0) || (!(t602 == a1_1) || (!(t603 == a1_2)))) a0_0 l0_1 a1_0 a1_1 a1_2 t581 t582) else (spilelaw46_TariffLater.j1 kj5 a2 a3 a4 true a0_0 l0_1 a1_0 a1_1 a1_2 t581 t582))) else (spilelaw46_TariffLater.j1 kj5 a2 a3 a4 true a0_0 l0_1 a1_0 a1_1 a1_2 t581 t582)) else (spilelaw46_TariffLater.j1 kj5 a2 a3 a4 true a0_0 l0_1 a1_0 a1_1 a1_2 t581 t582))) = some r := H; have A27 := Aside0.mk A270; clear A270; replace H := Option.bind_eq_some_iff.mp H; obtain ⟨⟨t610, t611⟩, A280, H⟩ := H; replace H : (if (wrap64 ((wrap64 (t595 + t604)) + t611)) = 0 then (if t610 = (-1) then ((spileref46_Same.f kj5 t591 t592 t581 t582).bind fun t612 => (if t612 = true then (spilelaw46_TariffLater.j1 kj5 a2 a3 a4 (!(t601 == a1_0) || (!(t602 == a1_1) || (!(t603 == a1_2)))) a0_0 l0_1 a1_0 a1_1 a1_2 t581 t582) else (spilelaw46_TariffLater.j1 kj5 a2 a3 a4 true a0_0 l0_1 a1_0 a1_1 a1_2 t581 t582))) else (spilelaw46_TariffLater.j1 kj5 a2 a3 a4 true a0_0 l0_1 a1_0 a1_1 a1_2 t581 t582)) else (spilelaw46_TariffLater.j1 kj5 a2 a3 a4 true a0_0 l0_1 a1_0 a1_1 a1_2 t581 t582)) = some r := H; have A28 := Aside0.mk A280; clear A280; have HC29 := Aside0.mk H; clear H; try go_wp2
     have n0_ := Aside0.mk (blk_drew BK572.out); have n1_ := Aside0.mk (blk_drew BK573.out); have n2_ := Aside0.mk (below_drew1 HB.out); clear BK572; clear BK573; clear HB; have BK572 := n0_; have BK573 := n1_; have HB := n2_; clear n0_ n1_ n2_; refine start_ (n := 10) (S := fun w' => w'.cell? ⟨gb572, 0, none⟩ = some (.int .i64 a0_0) ∧ w'.cell? ⟨gb572, 1, none⟩ = some (.slice A0_1 l0_1.length c0_1) ∧ w'.cell? ⟨gb573, 0, none⟩ = some (.int .i64 a1_0) ∧ w'.cell? ⟨gb573, 1, none⟩ = some (.int .i64 a1_1) ∧ w'.cell? ⟨gb573, 2, none⟩ = some (.int .i64 a1_2)) (ds := []) #[false, false, false, false, false, false, false, false, false, false] (by kernel_rfl) rfl rfl ⟨(blk_cell BK572.out 0).trans rfl, (blk_cell BK572.out 1).trans rfl, (blk_cell BK573.out 0).trans rfl, (blk_cell BK573.out 1).trans rfl, (blk_cell BK573.out 2).trans rfl⟩ (fun hHeld => ?_); refine with_tabW spilelaw46_TariffLater.tab3 spilelaw46_TariffLater.bits3 (fun HT_ HW_ => ?_)
     generalize wc.drew = w30 at BK572 BK573 HB hHeld ⊢; refine take_ (i := 0) (N := some 32) (v := ?_) (a' := ?_) #[true, false, false, false, false, false, false, false, false, false] rfl rfl (take_ofW HT_.out HW_.out (by kernel_rfl)) (fun _ _ _ h => h) (Or.inl ⟨by rfl, ?_⟩) hHeld ?_ ?_; rotate_left
     · rintro w' ⟨s0, s1, s2, s3, s4⟩; go_simp; with_reducible rfl
     rotate_left
     · simp only [Act.put, sIA, sC0, sCS, i64_w, i32_w]; rfl
     refine take_ (i := 2) (N := some 34) (v := ?_) (a' := ?_) #[true, false, true, false, false, false, false, false, false, false] rfl rfl (take_ofW HT_.out HW_.out (by kernel_rfl)) (fun _ _ _ h => h) (Or.inl ⟨by rfl, ?_⟩) hHeld ?_ ?_; rotate_left
     · rintro w' ⟨s0, s1, s2, s3, s4⟩; go_simp; with_reducible rfl
     rotate_left
     · simp only [Act.put, sIA, sC0, sCS, i64_w, i32_w]; rfl
     refine join_ (σ := Value × Value × Nat) 2 #[true, true, true, true, true, true, true, true, false, false] (fun s_ => [(33, .agg #[.int .i64 t577, s_.1]), (35, .tuple #[.agg #[.int .i64 t581, s_.2.1], .int .i64 t585]), (11, .pointer (some ⟨s_.2.2, 0, none⟩)), (31, .tuple #[.agg #[.int .i64 t581, s_.2.1], .int .i64 t585]), (36, .agg #[.int .i64 t581, s_.2.1]), (37, .int .i64 t585)]) (fun s_ w' => (w'.cell? ⟨gb572, 0, none⟩ = some (.int .i64 a0_0) ∧ w'.cell? ⟨gb572, 1, none⟩ = some (.slice A0_1 l0_1.length c0_1) ∧ w'.cell? ⟨gb573, 0, none⟩ = some (.int .i64 a1_0) ∧ w'.cell? ⟨gb573, 1, none⟩ = some (.int .i64 a1_1) ∧ w'.cell? ⟨gb573, 2, none⟩ = some (.int .i64 a1_2)) ∧ (Kd.R k26 26 w' w.heap.size (fun k_ => some k_ ≠ (s_.2.1 : Value).ownBlock ∧ k_ ≠ gb573) s_.1 t578) ∧ (Kd.R k26 26 w' w.heap.size (fun k_ => some k_ ≠ (s_.1 : Value).ownBlock ∧ k_ ≠ gb573) s_.2.1 t582) ∧ (w'.heap[gb572]? = some (.cells #[.int .i64 a0_0, .slice A0_1 l0_1.length c0_1] 24 (0, 0))) ∧ (w'.heap[gb573]? = some (.cells #[.int .i64 a1_0, .int .i64 a1_1, .int .i64 a1_2] 26 (0, 0))) ∧ (w'.heap[s_.2.2]? = some (.cells #[.int .i64 0, .slice none 0 0] 24 (0, 0))) ∧ (w.heap.size ≤ s_.2.2) ∧ (w.heap.size ≤ s_.2.2) ∧ (gb572 ≠ s_.2.2) ∧ (s_.2.2 ≠ gb572) ∧ (gb573 ≠ s_.2.2) ∧ (s_.2.2 ≠ gb573) ∧ (Below w.heap.size w w')) ?_ ?_; rotate_left
     ·
      intro hCont; refine two_ (i := 1) (j := 7) (Ni := some 33) (Nj := some 11) #[true, true, true, false, false, false, false, false, false, false] #[true, false, true, false, false, false, false, true, false, false] rfl rfl rfl rfl (two_of HT_.out (by kernel_rfl)) (by decide) (by decide) (fun K hK => ?_) (fun K hK => ?_)
      ·
       skip
       refine goes_ Tryz.func14 (by kernel_rfl) rfl #[.agg #[.int .i64 a0_0, .slice A0_1 l0_1.length c0_1]] (by rfl) rfl rfl (by (try simp only [List.map_toArray, List.map_cons, List.map_nil]); first | done | rfl | (simp only [List.length_drop, List.length_take]; rfl)) ?_; with_reducible refine (spilelaw46_cp.calls a0_0 _ _ l0_1 t577 t578 _ ?side1 ?side2 A20.out).mono ?_
       (case side1 => repeat (first | exact (Kd.C_below HR0_1.out HB.out) | (with_reducible refine Kd.C_alloc ?_ _) | (with_reducible refine Kd.C_drewN ?_ _) | (with_reducible refine Kd.C_drew ?_)))
       (case side2 => exact HC0_1.out)
       rintro e w31 ⟨v579, rfl, ho0, hb⟩; refine ⟨_, rfl, ?_⟩; have n0_ := Aside0.mk (Kd.R_lower (Kd.R_newB ho0 (bG BK573.out)) (below_size (eG HB.out))); have n1_ := Aside0.mk (blk_below (bG BK572.out) hb); have n2_ := Aside0.mk (blk_below (bG BK573.out) hb); have n3_ := Aside0.mk (below_step (eG HB.out) hb); clear BK572; clear BK573; clear HB; have HO580 := n0_; have BK572 := n1_; have BK573 := n2_; have HB := n3_; clear n0_ n1_ n2_ n3_; (try clear hb)
       (try clear hb2)
       (try clear hk)
       (try clear hi)
       (try clear ho0)
       obtain ⟨Ao32, co32, eo32⟩ := Kd.R_slice HO580.out; (first | subst eo32 | (injection eo32 with f1_ f2_ f3_; have f4_ := f1_.symm; have f5_ := f3_.symm; clear f1_ f2_ f3_; subst f4_; subst f5_))
       refine hK.out _ _ ⟨(blk_cell BK572.out 0).trans rfl, (blk_cell BK572.out 1).trans rfl, (blk_cell BK573.out 0).trans rfl, (blk_cell BK573.out 1).trans rfl, (blk_cell BK573.out 2).trans rfl⟩ (fun hHeld => ?_); clear hK K; refine norm_ (a' := ?_) ?_ ?_; rotate_left
       ·
        show Act.put _ (some 33) _ = _
        simp only [Act.put, sIA, sC0, sCS, i64_w, i32_w]; rfl
       refine two_ (i := 3) (j := 7) (Ni := some 35) (Nj := some 11) #[true, true, true, true, false, false, false, false, false, false] #[true, true, true, false, false, false, false, true, false, false] rfl rfl rfl rfl (two_of HT_.out (by kernel_rfl)) (by decide) (by decide) (fun K hK => ?_) (fun K hK => ?_)
       ·
        skip
        refine goes_ Tryz.func16 (by kernel_rfl) rfl #[.agg #[.int .i64 t577, .slice Ao32 t578.length co32], .agg #[.int .i64 a1_0, .int .i64 a1_1, .int .i64 a1_2]] (by rfl) rfl rfl (by (try simp only [List.map_toArray, List.map_cons, List.map_nil]); first | done | rfl | (simp only [List.length_drop, List.length_take]; rfl)) ?_; with_reducible refine (tariff_Insert.calls kj5 t577 _ _ t578 a1_0 a1_1 a1_2 t581 t582 t585 _ ?side1 ?side2 A21.out).mono ?_
        (case side1 => repeat (first | exact (Kd.R_reads' HO580.out).2.2 | (with_reducible refine Kd.C_alloc ?_ _) | (with_reducible refine Kd.C_drewN ?_ _) | (with_reducible refine Kd.C_drew ?_)))
        (case side2 => exact (Kd.R_reads' HO580.out).2.1)
        rintro e w33 ⟨v583, rfl, ho0, hb⟩; refine ⟨_, rfl, ?_⟩; have n0_ := Aside0.mk (Kd.R_elder' (rG HO580.out) (Kd.R_base ho0) hb); have n1_ := Aside0.mk (Kd.R_lower (Kd.R_newB (Kd.R_new' ho0 (Kd.R_lt (rG HO580.out))) (bG BK573.out)) (below_size (eG HB.out))); have n2_ := Aside0.mk (blk_below (bG BK572.out) hb); have n3_ := Aside0.mk (blk_below (bG BK573.out) hb); have n4_ := Aside0.mk (below_step (eG HB.out) hb); clear HO580; clear BK572; clear BK573; clear HB; have HO580 := n0_; have HO584 := n1_; have BK572 := n2_; have BK573 := n3_; have HB := n4_; clear n0_ n1_ n2_ n3_ n4_; (try clear hb)
        (try clear hb2)
        (try clear hk)
        (try clear hi)
        (try clear ho0)
        refine hK.out _ _ ⟨(blk_cell BK572.out 0).trans rfl, (blk_cell BK572.out 1).trans rfl, (blk_cell BK573.out 0).trans rfl, (blk_cell BK573.out 1).trans rfl, (blk_cell BK573.out 2).trans rfl⟩ (fun hHeld => ?_); clear hK K; refine norm_ (a' := ?_) ?_ ?_; rotate_left
        ·
         show Act.put _ (some 35) _ = _
         simp only [Act.put, sIA, sC0, sCS, i64_w, i32_w]; rfl
        refine pure_ (i := 4) (N := some 31) (v := ?_) (a' := ?_) #[true, true, true, true, true, false, false, false, false, false] rfl rfl (any_of HT_.out (by kernel_rfl)) (fun _ _ _ h => h) (Or.inl ⟨by rfl, ?_⟩) ?_ ?_; rotate_left
        · intro w'; go_simp; with_reducible rfl
        rotate_left
        · simp only [Act.put, sIA, sC0, sCS, i64_w, i32_w]; rfl
        refine pure_ (i := 5) (N := some 36) (v := ?_) (a' := ?_) #[true, true, true, true, true, true, false, false, false, false] rfl rfl (any_of HT_.out (by kernel_rfl)) (fun _ _ _ h => h) (Or.inl ⟨by rfl, ?_⟩) ?_ ?_; rotate_left
        · intro w'; go_simp; with_reducible rfl
        rotate_left
        · simp only [Act.put, sIA, sC0, sCS, i64_w, i32_w]; rfl
        refine pure_ (i := 6) (N := some 37) (v := ?_) (a' := ?_) #[true, true, true, true, true, true, true, false, false, false] rfl rfl (any_of HT_.out (by kernel_rfl)) (fun _ _ _ h => h) (Or.inl ⟨by rfl, ?_⟩) ?_ ?_; rotate_left
        · intro w'; go_simp; with_reducible rfl
        rotate_left
        · simp only [Act.put, sIA, sC0, sCS, i64_w, i32_w]; rfl
        refine one_ (i := 7) (N := some 11) #[true, true, true, true, true, true, true, true, false, false] rfl rfl (one_of HT_.out (by kernel_rfl)) (by decide) (fun K hK => ?_); refine box_step ?hg (N := 11) ?hd (cs := #[.int .i64 0, .slice none 0 0]) (t := 24) ?hr ?_; (case hd => rfl); (case hg => rfl); (case hr => first | (go_simp; done) | (go_simp; rfl))
        intro gb586 hg w34 hbox hb; have n0_ := Aside0.mk (Kd.R_below (rG HO580.out) hb); have n1_ := Aside0.mk (Kd.R_below (rG HO584.out) hb); have n2_ := Aside0.mk (blk_below (bG BK572.out) hb); have n3_ := Aside0.mk (blk_below (bG BK573.out) hb); have n4_ := Aside0.mk (below_step (eG HB.out) hb); have n5_ := Aside0.mk (hbox); have n6_ := Aside0.mk ((by rw [hg]; exact (below_size (eG HB.out)) : w.heap.size ≤ gb586)); have n7_ := Aside0.mk ((by rw [hg]; exact (below_size (eG HB.out)) : w.heap.size ≤ gb586)); have n8_ := Aside0.mk ((by rw [hg]; exact Nat.ne_of_lt (blk_lt (bG BK572.out)) : gb572 ≠ gb586)); have n9_ := Aside0.mk ((by rw [hg]; exact Nat.ne_of_gt (blk_lt (bG BK572.out)) : gb586 ≠ gb572)); have n10_ := Aside0.mk ((by rw [hg]; exact Nat.ne_of_lt (blk_lt (bG BK573.out)) : gb573 ≠ gb586)); have n11_ := Aside0.mk ((by rw [hg]; exact Nat.ne_of_gt (blk_lt (bG BK573.out)) : gb586 ≠ gb573)); clear HO580; clear HO584; clear BK572; clear BK573; clear HB; have HO580 := n0_; have HO584 := n1_; have BK572 := n2_; have BK573 := n3_; have HB := n4_; have BK586 := n5_; have GW586 := n6_; have GE586 := n7_; have ig586_ := geI GE586
        have NB572_586 := n8_; have NB586_572 := n9_; have NB573_586 := n10_; have NB586_573 := n11_; clear n0_ n1_ n2_ n3_ n4_ n5_ n6_ n7_ n8_ n9_ n10_ n11_; clear hb hbox hg; refine hK.out _ _ ⟨(blk_cell BK572.out 0).trans rfl, (blk_cell BK572.out 1).trans rfl, (blk_cell BK573.out 0).trans rfl, (blk_cell BK573.out 1).trans rfl, (blk_cell BK573.out 2).trans rfl⟩ (fun hHeld => ?_); clear hK K; refine norm_ (a' := ?_) ?_ ?_; rotate_left
        ·
         show Act.put _ (some 11) _ = _
         simp only [Act.put, sIA, sC0, sCS, i64_w, i32_w]; rfl
        exact norm_ (by simp only [putAll, Act.put, sIA, sC0, sCS]) (hCont (.slice Ao32 t578.length co32, v583, gb586) _ ⟨hHeld, (by (with_reducible repeat (first | apply Kd.R_alloc | apply Kd.R_drewN | apply Kd.R_drew)); exact Kd.R_mono HO580.out (fun _ hk => ⟨hk.2, hk.1.2⟩)), (by (with_reducible repeat (first | apply Kd.R_alloc | apply Kd.R_drewN | apply Kd.R_drew)); exact Kd.R_mono HO584.out (fun _ hk => ⟨hk.1.2, hk.2⟩)), (bG BK572.out), (bG BK573.out), (bG BK586.out), GW586.out, GE586.out, NB572_586.out, NB586_572.out, NB573_586.out, NB586_573.out, (eG HB.out)⟩)
       ·
        skip
        refine box_step ?hg (N := 11) ?hd (cs := #[.int .i64 0, .slice none 0 0]) (t := 24) ?hr ?_; (case hd => rfl); (case hg => rfl); (case hr => first | (go_simp; done) | (go_simp; rfl))
        intro gb586 hg w32 hbox hb; have n0_ := Aside0.mk (Kd.R_below (rG HO580.out) hb); have n1_ := Aside0.mk (blk_below (bG BK572.out) hb); have n2_ := Aside0.mk (blk_below (bG BK573.out) hb); have n3_ := Aside0.mk (below_step (eG HB.out) hb); have n4_ := Aside0.mk (hbox); have n5_ := Aside0.mk ((by rw [hg]; exact (below_size (eG HB.out)) : w.heap.size ≤ gb586)); have n6_ := Aside0.mk ((by rw [hg]; exact (below_size (eG HB.out)) : w.heap.size ≤ gb586)); have n7_ := Aside0.mk ((by rw [hg]; exact Nat.ne_of_lt (blk_lt (bG BK572.out)) : gb572 ≠ gb586)); have n8_ := Aside0.mk ((by rw [hg]; exact Nat.ne_of_gt (blk_lt (bG BK572.out)) : gb586 ≠ gb572)); have n9_ := Aside0.mk ((by rw [hg]; exact Nat.ne_of_lt (blk_lt (bG BK573.out)) : gb573 ≠ gb586)); have n10_ := Aside0.mk ((by rw [hg]; exact Nat.ne_of_gt (blk_lt (bG BK573.out)) : gb586 ≠ gb573)); clear HO580; clear BK572; clear BK573; clear HB; have HO580 := n0_; have BK572 := n1_; have BK573 := n2_; have HB := n3_; have BK586 := n4_; have GW586 := n5_; have GE586 := n6_; have ig586_ := geI GE586
        have NB572_586 := n7_; have NB586_572 := n8_; have NB573_586 := n9_; have NB586_573 := n10_; clear n0_ n1_ n2_ n3_ n4_ n5_ n6_ n7_ n8_ n9_ n10_; clear hb hbox hg; obtain ⟨Ao33, co33, eo33⟩ := Kd.R_slice HO580.out; (first | subst eo33 | (injection eo33 with f1_ f2_ f3_; have f4_ := f1_.symm; have f5_ := f3_.symm; clear f1_ f2_ f3_; subst f4_; subst f5_))
        refine hK.out _ _ ⟨(blk_cell BK572.out 0).trans rfl, (blk_cell BK572.out 1).trans rfl, (blk_cell BK573.out 0).trans rfl, (blk_cell BK573.out 1).trans rfl, (blk_cell BK573.out 2).trans rfl⟩ (fun hHeld => ?_); clear hK K; refine norm_ (a' := ?_) ?_ ?_; rotate_left
        ·
         show Act.put _ (some 11) _ = _
         simp only [Act.put, sIA, sC0, sCS, i64_w, i32_w]; rfl
        refine one_ (i := 3) (N := some 35) #[true, true, true, true, false, false, false, true, false, false] rfl rfl (one_of HT_.out (by kernel_rfl)) (by decide) (fun K hK => ?_); refine goes_ Tryz.func16 (by kernel_rfl) rfl #[.agg #[.int .i64 t577, .slice Ao33 t578.length co33], .agg #[.int .i64 a1_0, .int .i64 a1_1, .int .i64 a1_2]] (by rfl) rfl rfl (by (try simp only [List.map_toArray, List.map_cons, List.map_nil]); first | done | rfl | (simp only [List.length_drop, List.length_take]; rfl)) ?_; with_reducible refine (tariff_Insert.calls kj5 t577 _ _ t578 a1_0 a1_1 a1_2 t581 t582 t585 _ ?side1 ?side2 A21.out).mono ?_
        (case side1 => repeat (first | exact (Kd.R_reads' HO580.out).2.2 | (with_reducible refine Kd.C_alloc ?_ _) | (with_reducible refine Kd.C_drewN ?_ _) | (with_reducible refine Kd.C_drew ?_)))
        (case side2 => exact (Kd.R_reads' HO580.out).2.1)
        rintro e w34 ⟨v583, rfl, ho0, hb⟩; refine ⟨_, rfl, ?_⟩; have n0_ := Aside0.mk (Kd.R_elder' (rG HO580.out) (Kd.R_base ho0) hb); have n1_ := Aside0.mk (Kd.R_lower (Kd.R_newB (Kd.R_new' ho0 (Kd.R_lt (rG HO580.out))) (bG BK573.out)) (below_size (eG HB.out))); have n2_ := Aside0.mk (blk_below (bG BK572.out) hb); have n3_ := Aside0.mk (blk_below (bG BK573.out) hb); have n4_ := Aside0.mk (blk_below (bG BK586.out) hb); have n5_ := Aside0.mk (below_step (eG HB.out) hb); clear HO580; clear BK572; clear BK573; clear BK586; clear HB; have HO580 := n0_; have HO584 := n1_; have BK572 := n2_; have BK573 := n3_; have BK586 := n4_; have HB := n5_; clear n0_ n1_ n2_ n3_ n4_ n5_; (try clear hb)
        (try clear hb2)
        (try clear hk)
        (try clear hi)
        (try clear ho0)
        refine hK.out _ _ ⟨(blk_cell BK572.out 0).trans rfl, (blk_cell BK572.out 1).trans rfl, (blk_cell BK573.out 0).trans rfl, (blk_cell BK573.out 1).trans rfl, (blk_cell BK573.out 2).trans rfl⟩ (fun hHeld => ?_); clear hK K; refine norm_ (a' := ?_) ?_ ?_; rotate_left
        ·
         show Act.put _ (some 35) _ = _
         simp only [Act.put, sIA, sC0, sCS, i64_w, i32_w]; rfl
        refine pure_ (i := 4) (N := some 31) (v := ?_) (a' := ?_) #[true, true, true, true, true, false, false, true, false, false] rfl rfl (any_of HT_.out (by kernel_rfl)) (fun _ _ _ h => h) (Or.inl ⟨by rfl, ?_⟩) ?_ ?_; rotate_left
        · intro w'; go_simp; with_reducible rfl
        rotate_left
        · simp only [Act.put, sIA, sC0, sCS, i64_w, i32_w]; rfl
        refine pure_ (i := 5) (N := some 36) (v := ?_) (a' := ?_) #[true, true, true, true, true, true, false, true, false, false] rfl rfl (any_of HT_.out (by kernel_rfl)) (fun _ _ _ h => h) (Or.inl ⟨by rfl, ?_⟩) ?_ ?_; rotate_left
        · intro w'; go_simp; with_reducible rfl
        rotate_left
        · simp only [Act.put, sIA, sC0, sCS, i64_w, i32_w]; rfl
        refine pure_ (i := 6) (N := some 37) (v := ?_) (a' := ?_) #[true, true, true, true, true, true, true, true, false, false] rfl rfl (any_of HT_.out (by kernel_rfl)) (fun _ _ _ h => h) (Or.inl ⟨by rfl, ?_⟩) ?_ ?_; rotate_left
        · intro w'; go_simp; with_reducible rfl
        rotate_left
        · simp only [Act.put, sIA, sC0, sCS, i64_w, i32_w]; rfl
        exact norm_ (by simp only [putAll, Act.put, sIA, sC0, sCS]) (hCont (.slice Ao33 t578.length co33, v583, gb586) _ ⟨hHeld, (by (with_reducible repeat (first | apply Kd.R_alloc | apply Kd.R_drewN | apply Kd.R_drew)); exact Kd.R_mono HO580.out (fun _ hk => ⟨hk.2, hk.1.2⟩)), (by (with_reducible repeat (first | apply Kd.R_alloc | apply Kd.R_drewN | apply Kd.R_drew)); exact Kd.R_mono HO584.out (fun _ hk => ⟨hk.1.2, hk.2⟩)), (bG BK572.out), (bG BK573.out), (bG BK586.out), GW586.out, GE586.out, NB572_586.out, NB586_572.out, NB573_586.out, NB586_573.out, (eG HB.out)⟩)
      ·
       skip
       refine box_step ?hg (N := 11) ?hd (cs := #[.int .i64 0, .slice none 0 0]) (t := 24) ?hr ?_; (case hd => rfl); (case hg => rfl); (case hr => first | (go_simp; done) | (go_simp; rfl))
       intro gb586 hg w31 hbox hb; have n0_ := Aside0.mk (blk_below (bG BK572.out) hb); have n1_ := Aside0.mk (blk_below (bG BK573.out) hb); have n2_ := Aside0.mk (below_step (eG HB.out) hb); have n3_ := Aside0.mk (hbox); have n4_ := Aside0.mk ((by rw [hg]; exact (below_size (eG HB.out)) : w.heap.size ≤ gb586)); have n5_ := Aside0.mk ((by rw [hg]; exact (below_size (eG HB.out)) : w.heap.size ≤ gb586)); have n6_ := Aside0.mk ((by rw [hg]; exact Nat.ne_of_lt (blk_lt (bG BK572.out)) : gb572 ≠ gb586)); have n7_ := Aside0.mk ((by rw [hg]; exact Nat.ne_of_gt (blk_lt (bG BK572.out)) : gb586 ≠ gb572)); have n8_ := Aside0.mk ((by rw [hg]; exact Nat.ne_of_lt (blk_lt (bG BK573.out)) : gb573 ≠ gb586)); have n9_ := Aside0.mk ((by rw [hg]; exact Nat.ne_of_gt (blk_lt (bG BK573.out)) : gb586 ≠ gb573)); clear BK572; clear BK573; clear HB; have BK572 := n0_; have BK573 := n1_; have HB := n2_; have BK586 := n3_; have GW586 := n4_; have GE586 := n5_; have ig586_ := geI GE586
       have NB572_586 := n6_; have NB586_572 := n7_; have NB573_586 := n8_; have NB586_573 := n9_; clear n0_ n1_ n2_ n3_ n4_ n5_ n6_ n7_ n8_ n9_; clear hb hbox hg; refine hK.out _ _ ⟨(blk_cell BK572.out 0).trans rfl, (blk_cell BK572.out 1).trans rfl, (blk_cell BK573.out 0).trans rfl, (blk_cell BK573.out 1).trans rfl, (blk_cell BK573.out 2).trans rfl⟩ (fun hHeld => ?_); clear hK K; refine norm_ (a' := ?_) ?_ ?_; rotate_left
       ·
        show Act.put _ (some 11) _ = _
        simp only [Act.put, sIA, sC0, sCS, i64_w, i32_w]; rfl
       refine one_ (i := 1) (N := some 33) #[true, true, true, false, false, false, false, true, false, false] rfl rfl (one_of HT_.out (by kernel_rfl)) (by decide) (fun K hK => ?_); refine goes_ Tryz.func14 (by kernel_rfl) rfl #[.agg #[.int .i64 a0_0, .slice A0_1 l0_1.length c0_1]] (by rfl) rfl rfl (by (try simp only [List.map_toArray, List.map_cons, List.map_nil]); first | done | rfl | (simp only [List.length_drop, List.length_take]; rfl)) ?_; with_reducible refine (spilelaw46_cp.calls a0_0 _ _ l0_1 t577 t578 _ ?side1 ?side2 A20.out).mono ?_
       (case side1 => repeat (first | exact (Kd.C_below HR0_1.out HB.out) | (with_reducible refine Kd.C_alloc ?_ _) | (with_reducible refine Kd.C_drewN ?_ _) | (with_reducible refine Kd.C_drew ?_)))
       (case side2 => exact HC0_1.out)
       rintro e w32 ⟨v579, rfl, ho0, hb⟩; refine ⟨_, rfl, ?_⟩; have n0_ := Aside0.mk (Kd.R_lower (Kd.R_newB ho0 (bG BK573.out)) (below_size (eG HB.out))); have n1_ := Aside0.mk (blk_below (bG BK572.out) hb); have n2_ := Aside0.mk (blk_below (bG BK573.out) hb); have n3_ := Aside0.mk (blk_below (bG BK586.out) hb); have n4_ := Aside0.mk (below_step (eG HB.out) hb); clear BK572; clear BK573; clear BK586; clear HB; have HO580 := n0_; have BK572 := n1_; have BK573 := n2_; have BK586 := n3_; have HB := n4_; clear n0_ n1_ n2_ n3_ n4_; (try clear hb)
       (try clear hb2)
       (try clear hk)
       (try clear hi)
       (try clear ho0)
       obtain ⟨Ao33, co33, eo33⟩ := Kd.R_slice HO580.out; (first | subst eo33 | (injection eo33 with f1_ f2_ f3_; have f4_ := f1_.symm; have f5_ := f3_.symm; clear f1_ f2_ f3_; subst f4_; subst f5_))
       refine hK.out _ _ ⟨(blk_cell BK572.out 0).trans rfl, (blk_cell BK572.out 1).trans rfl, (blk_cell BK573.out 0).trans rfl, (blk_cell BK573.out 1).trans rfl, (blk_cell BK573.out 2).trans rfl⟩ (fun hHeld => ?_); clear hK K; refine norm_ (a' := ?_) ?_ ?_; rotate_left
       ·
        show Act.put _ (some 33) _ = _
        simp only [Act.put, sIA, sC0, sCS, i64_w, i32_w]; rfl
       refine one_ (i := 3) (N := some 35) #[true, true, true, true, false, false, false, true, false, false] rfl rfl (one_of HT_.out (by kernel_rfl)) (by decide) (fun K hK => ?_); refine goes_ Tryz.func16 (by kernel_rfl) rfl #[.agg #[.int .i64 t577, .slice Ao33 t578.length co33], .agg #[.int .i64 a1_0, .int .i64 a1_1, .int .i64 a1_2]] (by rfl) rfl rfl (by (try simp only [List.map_toArray, List.map_cons, List.map_nil]); first | done | rfl | (simp only [List.length_drop, List.length_take]; rfl)) ?_; with_reducible refine (tariff_Insert.calls kj5 t577 _ _ t578 a1_0 a1_1 a1_2 t581 t582 t585 _ ?side1 ?side2 A21.out).mono ?_
       (case side1 => repeat (first | exact (Kd.R_reads' HO580.out).2.2 | (with_reducible refine Kd.C_alloc ?_ _) | (with_reducible refine Kd.C_drewN ?_ _) | (with_reducible refine Kd.C_drew ?_)))
       (case side2 => exact (Kd.R_reads' HO580.out).2.1)
       rintro e w34 ⟨v583, rfl, ho0, hb⟩; refine ⟨_, rfl, ?_⟩; have n0_ := Aside0.mk (Kd.R_elder' (rG HO580.out) (Kd.R_base ho0) hb); have n1_ := Aside0.mk (Kd.R_lower (Kd.R_newB (Kd.R_new' ho0 (Kd.R_lt (rG HO580.out))) (bG BK573.out)) (below_size (eG HB.out))); have n2_ := Aside0.mk (blk_below (bG BK572.out) hb); have n3_ := Aside0.mk (blk_below (bG BK573.out) hb); have n4_ := Aside0.mk (blk_below (bG BK586.out) hb); have n5_ := Aside0.mk (below_step (eG HB.out) hb); clear HO580; clear BK572; clear BK573; clear BK586; clear HB; have HO580 := n0_; have HO584 := n1_; have BK572 := n2_; have BK573 := n3_; have BK586 := n4_; have HB := n5_; clear n0_ n1_ n2_ n3_ n4_ n5_; (try clear hb)
       (try clear hb2)
       (try clear hk)
       (try clear hi)
       (try clear ho0)
       refine hK.out _ _ ⟨(blk_cell BK572.out 0).trans rfl, (blk_cell BK572.out 1).trans rfl, (blk_cell BK573.out 0).trans rfl, (blk_cell BK573.out 1).trans rfl, (blk_cell BK573.out 2).trans rfl⟩ (fun hHeld => ?_); clear hK K; refine norm_ (a' := ?_) ?_ ?_; rotate_left
       ·
        show Act.put _ (some 35) _ = _
        simp only [Act.put, sIA, sC0, sCS, i64_w, i32_w]; rfl
       refine pure_ (i := 4) (N := some 31) (v := ?_) (a' := ?_) #[true, true, true, true, true, false, false, true, false, false] rfl rfl (any_of HT_.out (by kernel_rfl)) (fun _ _ _ h => h) (Or.inl ⟨by rfl, ?_⟩) ?_ ?_; rotate_left
       · intro w'; go_simp; with_reducible rfl
       rotate_left
       · simp only [Act.put, sIA, sC0, sCS, i64_w, i32_w]; rfl
       refine pure_ (i := 5) (N := some 36) (v := ?_) (a' := ?_) #[true, true, true, true, true, true, false, true, false, false] rfl rfl (any_of HT_.out (by kernel_rfl)) (fun _ _ _ h => h) (Or.inl ⟨by rfl, ?_⟩) ?_ ?_; rotate_left
       · intro w'; go_simp; with_reducible rfl
       rotate_left
       · simp only [Act.put, sIA, sC0, sCS, i64_w, i32_w]; rfl
       refine pure_ (i := 6) (N := some 37) (v := ?_) (a' := ?_) #[true, true, true, true, true, true, true, true, false, false] rfl rfl (any_of HT_.out (by kernel_rfl)) (fun _ _ _ h => h) (Or.inl ⟨by rfl, ?_⟩) ?_ ?_; rotate_left
       · intro w'; go_simp; with_reducible rfl
       rotate_left
       · simp only [Act.put, sIA, sC0, sCS, i64_w, i32_w]; rfl
       exact norm_ (by simp only [putAll, Act.put, sIA, sC0, sCS]) (hCont (.slice Ao33 t578.length co33, v583, gb586) _ ⟨hHeld, (by (with_reducible repeat (first | apply Kd.R_alloc | apply Kd.R_drewN | apply Kd.R_drew)); exact Kd.R_mono HO580.out (fun _ hk => ⟨hk.2, hk.1.2⟩)), (by (with_reducible repeat (first | apply Kd.R_alloc | apply Kd.R_drewN | apply Kd.R_drew)); exact Kd.R_mono HO584.out (fun _ hk => ⟨hk.1.2, hk.2⟩)), (bG BK572.out), (bG BK573.out), (bG BK586.out), GW586.out, GE586.out, NB572_586.out, NB586_572.out, NB573_586.out, NB586_573.out, (eG HB.out)⟩)
     rintro ⟨v579, v583, gb586⟩ w35 ⟨hS_, h0_, h1_, h2_, h3_, h4_, h5_, h6_, h7_, h8_, h9_, h10_, h11_⟩; have n0_ : Aside0 (Kd.R k26 26 w35 w.heap.size (fun k_ => some k_ ≠ (v583 : Value).ownBlock ∧ k_ ≠ gb573) v579 t578) := ⟨h0_⟩; have n1_ : Aside0 (Kd.R k26 26 w35 w.heap.size (fun k_ => some k_ ≠ (v579 : Value).ownBlock ∧ k_ ≠ gb573) v583 t582) := ⟨h1_⟩; have n2_ : Aside0 (w35.heap[gb572]? = some (.cells #[.int .i64 a0_0, .slice A0_1 l0_1.length c0_1] 24 (0, 0))) := ⟨h2_⟩; have n3_ : Aside0 (w35.heap[gb573]? = some (.cells #[.int .i64 a1_0, .int .i64 a1_1, .int .i64 a1_2] 26 (0, 0))) := ⟨h3_⟩; have n4_ : Aside0 (w35.heap[gb586]? = some (.cells #[.int .i64 0, .slice none 0 0] 24 (0, 0))) := ⟨h4_⟩; have n5_ : Aside0 (w.heap.size ≤ gb586) := ⟨h5_⟩; have n6_ : Aside0 (w.heap.size ≤ gb586) := ⟨h6_⟩; have n7_ : Aside0 (gb572 ≠ gb586) := ⟨h7_⟩; have n8_ : Aside0 (gb586 ≠ gb572) := ⟨h8_⟩; have n9_ : Aside0 (gb573 ≠ gb586) := ⟨h9_⟩; have n10_ : Aside0 (gb586 ≠ gb573) := ⟨h10_⟩; have n11_ : Aside0 (Below w.heap.size w w35) := ⟨h11_⟩; clear BK572; clear BK573; clear HB; clear h0_ h1_ h2_ h3_ h4_ h5_ h6_ h7_ h8_ h9_ h10_ h11_; have HO580 := n0_; have HO584 := n1_; have BK572 := n2_; have BK573 := n3_; have BK586 := n4_; have GW586 := n5_; have GE586 := n6_; have ig586_ := geI GE586
     have NB572_586 := n7_; have NB586_572 := n8_; have NB573_586 := n9_; have NB586_573 := n10_; have HB := n11_; clear n0_ n1_ n2_ n3_ n4_ n5_ n6_ n7_ n8_ n9_ n10_ n11_; have hHeld : w35.cell? ⟨gb572, 0, none⟩ = some (.int .i64 a0_0) ∧ w35.cell? ⟨gb572, 1, none⟩ = some (.slice A0_1 l0_1.length c0_1) ∧ w35.cell? ⟨gb573, 0, none⟩ = some (.int .i64 a1_0) ∧ w35.cell? ⟨gb573, 1, none⟩ = some (.int .i64 a1_1) ∧ w35.cell? ⟨gb573, 2, none⟩ = some (.int .i64 a1_2) := hS_; obtain ⟨Ao37, co37, eo37⟩ := Kd.R_slice HO584.out; (first | subst eo37 | (injection eo37 with f1_ f2_ f3_; have f4_ := f1_.symm; have f5_ := f3_.symm; clear f1_ f2_ f3_; subst f4_; subst f5_))
     refine norm_ (a' := ?_) ?_ ?_; rotate_left
     · simp only [putAll, Act.put, sIA, sC0, sCS]; rfl
     refine one_ (i := 8) (N := none) #[true, true, true, true, true, true, true, true, true, false] rfl rfl (one_of HT_.out (by kernel_rfl)) (by decide) (fun K hK => ?_); have hs36 : w35.cell? ⟨gb586, 0, none⟩ = some (.int .i64 0) := (blk_cell BK586.out 0).trans rfl; have hfs36 := blk_frozen BK586.out 0; have hns36_0 := NB572_586.out; have hns36_1 := NB573_586.out; have hms36_0 := NB586_572.out; have hms36_1 := NB586_573.out; have hs38 : w35.cell? ⟨gb586, 1, none⟩ = some (.slice none 0 0) := (blk_cell BK586.out 1).trans rfl; have hfs38 := blk_frozen BK586.out 1; have hns38_0 := NB572_586.out; have hns38_1 := NB573_586.out; have hms38_0 := NB586_572.out; have hms38_1 := NB586_573.out; refine skip_ (w1 := ?_) (by rfl) rfl ?_ ?_; rotate_left
     · go_simp; rfl
     refine hK.out _ _ ⟨((cell_far (p := ⟨gb586, _, none⟩) NB572_586.out _).trans (((cell_far (p := ⟨gb586, _, none⟩) NB572_586.out _).trans (hHeld.1)))), ((cell_far (p := ⟨gb586, _, none⟩) NB572_586.out _).trans (((cell_far (p := ⟨gb586, _, none⟩) NB572_586.out _).trans (hHeld.2.1)))), ((cell_far (p := ⟨gb586, _, none⟩) NB573_586.out _).trans (((cell_far (p := ⟨gb586, _, none⟩) NB573_586.out _).trans (hHeld.2.2.1)))), ((cell_far (p := ⟨gb586, _, none⟩) NB573_586.out _).trans (((cell_far (p := ⟨gb586, _, none⟩) NB573_586.out _).trans (hHeld.2.2.2.1)))), ((cell_far (p := ⟨gb586, _, none⟩) NB573_586.out _).trans (((cell_far (p := ⟨gb586, _, none⟩) NB573_586.out _).trans (hHeld.2.2.2.2))))⟩ (fun hHeld => ?_); clear hK K; refine pure_ (i := 9) (N := some 12) (v := ?_) (a' := ?_) #[true, true, true, true, true, true, true, true, true, true] rfl rfl (any_of HT_.out (by kernel_rfl)) (fun _ _ _ h => h) (Or.inl ⟨by rfl, ?_⟩) ?_ ?_; rotate_left
     · intro w'; go_simp; with_reducible rfl
     rotate_left
     · simp only [Act.put, sIA, sC0, sCS, i64_w, i32_w]; rfl
     refine done_ (done_of HT_.out (by kernel_rfl)) ?_; try go_wp2
     have n0_ : Aside0 (Kd.R k26 26 ((w35.setCell ⟨gb586, 0, none⟩ (.int .i64 t581)).setCell ⟨gb586, 1, none⟩ (.slice Ao37 t582.length co37)) w.heap.size (fun k_ => some k_ ≠ (.slice Ao37 t582.length co37 : Value).ownBlock ∧ k_ ≠ gb573) v579 t578) := ⟨by (with_reducible repeat (first | apply Kd.R_alloc | apply Kd.R_drewN | apply Kd.R_drew)); exact Kd.R_mono (Kd.R_far (p := ⟨gb586, 1, none⟩) (Kd.R_far (p := ⟨gb586, 0, none⟩) (Kd.R_types HO580.out BK586.out (by decide)) (fun _ hk => hk.2) (.int .i64 t581)) (fun _ hk => hk.2) (.slice Ao37 t582.length co37)) (fun _ hk => ⟨hk.1.1, hk.1.2⟩)⟩; have n1_ : Aside0 (Kd.R k26 26 ((w35.setCell ⟨gb586, 0, none⟩ (.int .i64 t581)).setCell ⟨gb586, 1, none⟩ (.slice Ao37 t582.length co37)) w.heap.size (fun k_ => some k_ ≠ (v579 : Value).ownBlock ∧ k_ ≠ gb573) (.slice Ao37 t582.length co37) t582) := ⟨by (with_reducible repeat (first | apply Kd.R_alloc | apply Kd.R_drewN | apply Kd.R_drew)); exact Kd.R_mono (Kd.R_far (p := ⟨gb586, 1, none⟩) (Kd.R_far (p := ⟨gb586, 0, none⟩) (Kd.R_types HO584.out BK586.out (by decide)) (fun _ hk => hk.2) (.int .i64 t581)) (fun _ hk => hk.2) (.slice Ao37 t582.length co37)) (fun _ hk => ⟨hk.1.1, hk.1.2⟩)⟩; have n2_ : Aside0 (((w35.setCell ⟨gb586, 0, none⟩ (.int .i64 t581)).setCell ⟨gb586, 1, none⟩ (.slice Ao37 t582.length co37)).heap[gb572]? = some (.cells #[.int .i64 a0_0, .slice A0_1 l0_1.length c0_1] 24 (0, 0))) := ⟨by (with_reducible repeat first | apply bN | apply bD | apply bA); refine blk_far ?_ NB572_586.out _; (with_reducible repeat first | apply bN | apply bD | apply bA); refine blk_far ?_ NB572_586.out _; (with_reducible repeat first | apply bN | apply bD | apply bA); exact BK572.out⟩; have n3_ : Aside0 (((w35.setCell ⟨gb586, 0, none⟩ (.int .i64 t581)).setCell ⟨gb586, 1, none⟩ (.slice Ao37 t582.length co37)).heap[gb573]? = some (.cells #[.int .i64 a1_0, .int .i64 a1_1, .int .i64 a1_2] 26 (0, 0))) := ⟨by (with_reducible repeat first | apply bN | apply bD | apply bA); refine blk_far ?_ NB573_586.out _; (with_reducible repeat first | apply bN | apply bD | apply bA); refine blk_far ?_ NB573_586.out _; (with_reducible repeat first | apply bN | apply bD | apply bA); exact BK573.out⟩; have n4_ : Aside0 (((w35.setCell ⟨gb586, 0, none⟩ (.int .i64 t581)).setCell ⟨gb586, 1, none⟩ (.slice Ao37 t582.length co37)).heap[gb586]? = some (.cells #[.int .i64 t581, .slice Ao37 t582.length co37] 24 (0, 0))) := ⟨by (with_reducible repeat first | apply bN | apply bD | apply bA); refine blk_put (cs := #[.int .i64 t581, .slice none 0 0]) ?_ 1 _ rfl; (with_reducible repeat first | apply bN | apply bD | apply bA); refine blk_put (cs := #[.int .i64 0, .slice none 0 0]) ?_ 0 _ rfl; (with_reducible repeat first | apply bN | apply bD | apply bA); exact BK586.out⟩; have n5_ : Aside0 (Below w.heap.size w ((w35.setCell ⟨gb586, 0, none⟩ (.int .i64 t581)).setCell ⟨gb586, 1, none⟩ (.slice Ao37 t582.length co37))) := ⟨eG HB.out⟩; (try clear HO580)
     (try clear HO584)
     (try clear BK572)
     (try clear BK573)
     (try clear BK586)
     (try clear HB)
     generalize ((w35.setCell ⟨gb586, 0, none⟩ (.int .i64 t581)).setCell ⟨gb586, 1, none⟩ (.slice Ao37 t582.length co37)) = w39 at n0_ n1_ n2_ n3_ n4_ n5_ ⊢; have HO580 := n0_; have HO584 := n1_; have BK572 := n2_; have BK573 := n3_; have BK586 := n4_; have HB := n5_; clear n0_ n1_ n2_ n3_ n4_ n5_; have n0_ := Aside0.mk (Kd.R_drew HO580.out); have n1_ := Aside0.mk (Kd.R_drew HO584.out); have n2_ := Aside0.mk (blk_drew BK572.out); have n3_ := Aside0.mk (blk_drew BK573.out); have n4_ := Aside0.mk (blk_drew BK586.out); have n5_ := Aside0.mk (below_drew1 HB.out); clear HO580; clear HO584; clear BK572; clear BK573; clear BK586; clear HB; have HO580 := n0_; have HO584 := n1_; have BK572 := n2_; have BK573 := n3_; have BK586 := n4_; have HB := n5_; clear n0_ n1_ n2_ n3_ n4_ n5_; refine start_ (n := 10) (S := fun w' => w'.cell? ⟨gb586, 0, none⟩ = some (.int .i64 t581) ∧ w'.cell? ⟨gb586, 1, none⟩ = some (.slice Ao37 t582.length co37) ∧ w'.cell? ⟨gb573, 0, none⟩ = some (.int .i64 a1_0) ∧ w'.cell? ⟨gb573, 1, none⟩ = some (.int .i64 a1_1) ∧ w'.cell? ⟨gb573, 2, none⟩ = some (.int .i64 a1_2)) (ds := []) #[false, false, false, false, false, false, false, false, false, false] (by kernel_rfl) rfl rfl ⟨(blk_cell BK586.out 0).trans rfl, (blk_cell BK586.out 1).trans rfl, (blk_cell BK573.out 0).trans rfl, (blk_cell BK573.out 1).trans rfl, (blk_cell BK573.out 2).trans rfl⟩ (fun hHeld => ?_); refine with_tabW spilelaw46_TariffLater.tab6 spilelaw46_TariffLater.bits6 (fun HT_ HW_ => ?_)
     generalize w39.drew = w40 at HO580 HO584 BK572 BK573 BK586 HB hHeld ⊢; refine take_ (i := 0) (N := some 45) (v := ?_) (a' := ?_) #[true, false, false, false, false, false, false, false, false, false] rfl rfl (take_ofW HT_.out HW_.out (by kernel_rfl)) (fun _ _ _ h => h) (Or.inl ⟨by rfl, ?_⟩) hHeld ?_ ?_; rotate_left
     · rintro w' ⟨s0, s1, s2, s3, s4⟩; go_simp; with_reducible rfl
     rotate_left
     · simp only [Act.put, sIA, sC0, sCS, i64_w, i32_w]; rfl
     refine take_ (i := 2) (N := some 47) (v := ?_) (a' := ?_) #[true, false, true, false, false, false, false, false, false, false] rfl rfl (take_ofW HT_.out HW_.out (by kernel_rfl)) (fun _ _ _ h => h) (Or.inl ⟨by rfl, ?_⟩) hHeld ?_ ?_; rotate_left
     · rintro w' ⟨s0, s1, s2, s3, s4⟩; go_simp; with_reducible rfl
     rotate_left
     · simp only [Act.put, sIA, sC0, sCS, i64_w, i32_w]; rfl
     refine join_ (σ := Value × Value × Nat) 2 #[true, true, true, true, true, true, true, true, false, false] (fun s_ => [(46, .agg #[.int .i64 t587, s_.1]), (48, .tuple #[.agg #[.int .i64 t591, s_.2.1], .int .i64 t595]), (13, .pointer (some ⟨s_.2.2, 0, none⟩)), (44, .tuple #[.agg #[.int .i64 t591, s_.2.1], .int .i64 t595]), (49, .agg #[.int .i64 t591, s_.2.1]), (50, .int .i64 t595)]) (fun s_ w' => (w'.cell? ⟨gb586, 0, none⟩ = some (.int .i64 t581) ∧ w'.cell? ⟨gb586, 1, none⟩ = some (.slice Ao37 t582.length co37) ∧ w'.cell? ⟨gb573, 0, none⟩ = some (.int .i64 a1_0) ∧ w'.cell? ⟨gb573, 1, none⟩ = some (.int .i64 a1_1) ∧ w'.cell? ⟨gb573, 2, none⟩ = some (.int .i64 a1_2)) ∧ (Kd.R k26 26 w' w.heap.size (fun k_ => some k_ ≠ (.slice Ao37 t582.length co37 : Value).ownBlock ∧ some k_ ≠ (s_.1 : Value).ownBlock ∧ some k_ ≠ (s_.2.1 : Value).ownBlock ∧ k_ ≠ gb573) v579 t578) ∧ (Kd.R k26 26 w' w.heap.size (fun k_ => some k_ ≠ (v579 : Value).ownBlock ∧ some k_ ≠ (s_.1 : Value).ownBlock ∧ some k_ ≠ (s_.2.1 : Value).ownBlock ∧ k_ ≠ gb573) (.slice Ao37 t582.length co37) t582) ∧ (Kd.R k26 26 w' w.heap.size (fun k_ => some k_ ≠ (v579 : Value).ownBlock ∧ some k_ ≠ (.slice Ao37 t582.length co37 : Value).ownBlock ∧ some k_ ≠ (s_.2.1 : Value).ownBlock ∧ k_ ≠ gb573) s_.1 t588) ∧ (Kd.R k26 26 w' w.heap.size (fun k_ => some k_ ≠ (v579 : Value).ownBlock ∧ some k_ ≠ (.slice Ao37 t582.length co37 : Value).ownBlock ∧ some k_ ≠ (s_.1 : Value).ownBlock ∧ k_ ≠ gb573) s_.2.1 t592) ∧ (w'.heap[gb572]? = some (.cells #[.int .i64 a0_0, .slice A0_1 l0_1.length c0_1] 24 (0, 0))) ∧ (w'.heap[gb573]? = some (.cells #[.int .i64 a1_0, .int .i64 a1_1, .int .i64 a1_2] 26 (0, 0))) ∧ (w'.heap[gb586]? = some (.cells #[.int .i64 t581, .slice Ao37 t582.length co37] 24 (0, 0))) ∧ (w'.heap[s_.2.2]? = some (.cells #[.int .i64 0, .slice none 0 0] 24 (0, 0))) ∧ (w.heap.size ≤ s_.2.2) ∧ (w.heap.size ≤ s_.2.2) ∧ (gb572 ≠ s_.2.2) ∧ (s_.2.2 ≠ gb572) ∧ (gb573 ≠ s_.2.2) ∧ (s_.2.2 ≠ gb573) ∧ (gb586 ≠ s_.2.2) ∧ (s_.2.2 ≠ gb586) ∧ (Below w.heap.size w w')) ?_ ?_; rotate_left
     ·
      intro hCont; refine two_ (i := 1) (j := 7) (Ni := some 46) (Nj := some 13) #[true, true, true, false, false, false, false, false, false, false] #[true, false, true, false, false, false, false, true, false, false] rfl rfl rfl rfl (two_of HT_.out (by kernel_rfl)) (by decide) (by decide) (fun K hK => ?_) (fun K hK => ?_)
      ·
       skip
       refine goes_ Tryz.func14 (by kernel_rfl) rfl #[.agg #[.int .i64 t581, .slice Ao37 t582.length co37]] (by rfl) rfl rfl (by (try simp only [List.map_toArray, List.map_cons, List.map_nil]); first | done | rfl | (simp only [List.length_drop, List.length_take]; rfl)) ?_; with_reducible refine (spilelaw46_cp.calls t581 _ _ t582 t587 t588 _ ?side1 ?side2 A23.out).mono ?_
       (case side1 => repeat (first | exact (Kd.R_reads' HO584.out).2.2 | (with_reducible refine Kd.C_alloc ?_ _) | (with_reducible refine Kd.C_drewN ?_ _) | (with_reducible refine Kd.C_drew ?_)))
       (case side2 => exact (Kd.R_reads' HO584.out).2.1)
       rintro e w41 ⟨v589, rfl, ho0, hb⟩; refine ⟨_, rfl, ?_⟩; have n0_ := Aside0.mk (Kd.R_elder' (rG HO580.out) (Kd.R_base ho0) hb); have n1_ := Aside0.mk (Kd.R_elder' (rG HO584.out) (Kd.R_base ho0) hb); have n2_ := Aside0.mk (Kd.R_lower (Kd.R_newB (Kd.R_new' (Kd.R_new' ho0 (Kd.R_lt (rG HO580.out))) (Kd.R_lt (rG HO584.out))) (bG BK573.out)) (below_size (eG HB.out))); have n3_ := Aside0.mk (blk_below (bG BK572.out) hb); have n4_ := Aside0.mk (blk_below (bG BK573.out) hb); have n5_ := Aside0.mk (blk_below (bG BK586.out) hb); have n6_ := Aside0.mk (below_step (eG HB.out) hb); clear HO580; clear HO584; clear BK572; clear BK573; clear BK586; clear HB; have HO580 := n0_; have HO584 := n1_; have HO590 := n2_; have BK572 := n3_; have BK573 := n4_; have BK586 := n5_; have HB := n6_; clear n0_ n1_ n2_ n3_ n4_ n5_ n6_; (try clear hb)
       (try clear hb2)
       (try clear hk)
       (try clear hi)
       (try clear ho0)
       obtain ⟨Ao42, co42, eo42⟩ := Kd.R_slice HO590.out; (first | subst eo42 | (injection eo42 with f1_ f2_ f3_; have f4_ := f1_.symm; have f5_ := f3_.symm; clear f1_ f2_ f3_; subst f4_; subst f5_))
       refine hK.out _ _ ⟨(blk_cell BK586.out 0).trans rfl, (blk_cell BK586.out 1).trans rfl, (blk_cell BK573.out 0).trans rfl, (blk_cell BK573.out 1).trans rfl, (blk_cell BK573.out 2).trans rfl⟩ (fun hHeld => ?_); clear hK K; refine norm_ (a' := ?_) ?_ ?_; rotate_left
       ·
        show Act.put _ (some 46) _ = _
        simp only [Act.put, sIA, sC0, sCS, i64_w, i32_w]; rfl
       refine two_ (i := 3) (j := 7) (Ni := some 48) (Nj := some 13) #[true, true, true, true, false, false, false, false, false, false] #[true, true, true, false, false, false, false, true, false, false] rfl rfl rfl rfl (two_of HT_.out (by kernel_rfl)) (by decide) (by decide) (fun K hK => ?_) (fun K hK => ?_)
       ·
        skip
        refine goes_ Tryz.func16 (by kernel_rfl) rfl #[.agg #[.int .i64 t587, .slice Ao42 t588.length co42], .agg #[.int .i64 a1_0, .int .i64 a1_1, .int .i64 a1_2]] (by rfl) rfl rfl (by (try simp only [List.map_toArray, List.map_cons, List.map_nil]); first | done | rfl | (simp only [List.length_drop, List.length_take]; rfl)) ?_; with_reducible refine (tariff_Insert.calls kj5 t587 _ _ t588 a1_0 a1_1 a1_2 t591 t592 t595 _ ?side1 ?side2 A24.out).mono ?_
        (case side1 => repeat (first | exact (Kd.R_reads' HO590.out).2.2 | (with_reducible refine Kd.C_alloc ?_ _) | (with_reducible refine Kd.C_drewN ?_ _) | (with_reducible refine Kd.C_drew ?_)))
        (case side2 => exact (Kd.R_reads' HO590.out).2.1)
        rintro e w43 ⟨v593, rfl, ho0, hb⟩; refine ⟨_, rfl, ?_⟩; have n0_ := Aside0.mk (Kd.R_elder' (rG HO580.out) (Kd.R_base ho0) hb); have n1_ := Aside0.mk (Kd.R_elder' (rG HO584.out) (Kd.R_base ho0) hb); have n2_ := Aside0.mk (Kd.R_elder' (rG HO590.out) (Kd.R_base ho0) hb); have n3_ := Aside0.mk (Kd.R_lower (Kd.R_newB (Kd.R_new' (Kd.R_new' (Kd.R_new' ho0 (Kd.R_lt (rG HO580.out))) (Kd.R_lt (rG HO584.out))) (Kd.R_lt (rG HO590.out))) (bG BK573.out)) (below_size (eG HB.out))); have n4_ := Aside0.mk (blk_below (bG BK572.out) hb); have n5_ := Aside0.mk (blk_below (bG BK573.out) hb); have n6_ := Aside0.mk (blk_below (bG BK586.out) hb); have n7_ := Aside0.mk (below_step (eG HB.out) hb); clear HO580; clear HO584; clear HO590; clear BK572; clear BK573; clear BK586; clear HB; have HO580 := n0_; have HO584 := n1_; have HO590 := n2_; have HO594 := n3_; have BK572 := n4_; have BK573 := n5_; have BK586 := n6_; have HB := n7_; clear n0_ n1_ n2_ n3_ n4_ n5_ n6_ n7_; (try clear hb)
        (try clear hb2)
        (try clear hk)
        (try clear hi)
        (try clear ho0)
        refine hK.out _ _ ⟨(blk_cell BK586.out 0).trans rfl, (blk_cell BK586.out 1).trans rfl, (blk_cell BK573.out 0).trans rfl, (blk_cell BK573.out 1).trans rfl, (blk_cell BK573.out 2).trans rfl⟩ (fun hHeld => ?_); clear hK K; refine norm_ (a' := ?_) ?_ ?_; rotate_left
        ·
         show Act.put _ (some 48) _ = _
         simp only [Act.put, sIA, sC0, sCS, i64_w, i32_w]; rfl
        refine pure_ (i := 4) (N := some 44) (v := ?_) (a' := ?_) #[true, true, true, true, true, false, false, false, false, false] rfl rfl (any_of HT_.out (by kernel_rfl)) (fun _ _ _ h => h) (Or.inl ⟨by rfl, ?_⟩) ?_ ?_; rotate_left
        · intro w'; go_simp; with_reducible rfl
        rotate_left
        · simp only [Act.put, sIA, sC0, sCS, i64_w, i32_w]; rfl
        refine pure_ (i := 5) (N := some 49) (v := ?_) (a' := ?_) #[true, true, true, true, true, true, false, false, false, false] rfl rfl (any_of HT_.out (by kernel_rfl)) (fun _ _ _ h => h) (Or.inl ⟨by rfl, ?_⟩) ?_ ?_; rotate_left
        · intro w'; go_simp; with_reducible rfl
        rotate_left
        · simp only [Act.put, sIA, sC0, sCS, i64_w, i32_w]; rfl
        refine pure_ (i := 6) (N := some 50) (v := ?_) (a' := ?_) #[true, true, true, true, true, true, true, false, false, false] rfl rfl (any_of HT_.out (by kernel_rfl)) (fun _ _ _ h => h) (Or.inl ⟨by rfl, ?_⟩) ?_ ?_; rotate_left
        · intro w'; go_simp; with_reducible rfl
        rotate_left
        · simp only [Act.put, sIA, sC0, sCS, i64_w, i32_w]; rfl
        refine one_ (i := 7) (N := some 13) #[true, true, true, true, true, true, true, true, false, false] rfl rfl (one_of HT_.out (by kernel_rfl)) (by decide) (fun K hK => ?_); refine box_step ?hg (N := 13) ?hd (cs := #[.int .i64 0, .slice none 0 0]) (t := 24) ?hr ?_; (case hd => rfl); (case hg => rfl); (case hr => first | (go_simp; done) | (go_simp; rfl))
        intro gb596 hg w44 hbox hb; have n0_ := Aside0.mk (Kd.R_below (rG HO580.out) hb); have n1_ := Aside0.mk (Kd.R_below (rG HO584.out) hb); have n2_ := Aside0.mk (Kd.R_below (rG HO590.out) hb); have n3_ := Aside0.mk (Kd.R_below (rG HO594.out) hb); have n4_ := Aside0.mk (blk_below (bG BK572.out) hb); have n5_ := Aside0.mk (blk_below (bG BK573.out) hb); have n6_ := Aside0.mk (blk_below (bG BK586.out) hb); have n7_ := Aside0.mk (below_step (eG HB.out) hb); have n8_ := Aside0.mk (hbox); have n9_ := Aside0.mk ((by rw [hg]; exact (below_size (eG HB.out)) : w.heap.size ≤ gb596)); have n10_ := Aside0.mk ((by rw [hg]; exact (below_size (eG HB.out)) : w.heap.size ≤ gb596)); have n11_ := Aside0.mk ((by rw [hg]; exact Nat.ne_of_lt (blk_lt (bG BK572.out)) : gb572 ≠ gb596)); have n12_ := Aside0.mk ((by rw [hg]; exact Nat.ne_of_gt (blk_lt (bG BK572.out)) : gb596 ≠ gb572)); have n13_ := Aside0.mk ((by rw [hg]; exact Nat.ne_of_lt (blk_lt (bG BK573.out)) : gb573 ≠ gb596)); have n14_ := Aside0.mk ((by rw [hg]; exact Nat.ne_of_gt (blk_lt (bG BK573.out)) : gb596 ≠ gb573)); have n15_ := Aside0.mk ((by rw [hg]; exact Nat.ne_of_lt (blk_lt (bG BK586.out)) : gb586 ≠ gb596)); have n16_ := Aside0.mk ((by rw [hg]; exact Nat.ne_of_gt (blk_lt (bG BK586.out)) : gb596 ≠ gb586)); clear HO580; clear HO584; clear HO590; clear HO594; clear BK572; clear BK573; clear BK586; clear HB; have HO580 := n0_; have HO584 := n1_; have HO590 := n2_; have HO594 := n3_; have BK572 := n4_; have BK573 := n5_; have BK586 := n6_; have HB := n7_; have BK596 := n8_; have GW596 := n9_; have GE596 := n10_; have ig596_ := geI GE596
        have NB572_596 := n11_; have NB596_572 := n12_; have NB573_596 := n13_; have NB596_573 := n14_; have NB586_596 := n15_; have NB596_586 := n16_; clear n0_ n1_ n2_ n3_ n4_ n5_ n6_ n7_ n8_ n9_ n10_ n11_ n12_ n13_ n14_ n15_ n16_; clear hb hbox hg; refine hK.out _ _ ⟨(blk_cell BK586.out 0).trans rfl, (blk_cell BK586.out 1).trans rfl, (blk_cell BK573.out 0).trans rfl, (blk_cell BK573.out 1).trans rfl, (blk_cell BK573.out 2).trans rfl⟩ (fun hHeld => ?_); clear hK K; refine norm_ (a' := ?_) ?_ ?_; rotate_left
        ·
         show Act.put _ (some 13) _ = _
         simp only [Act.put, sIA, sC0, sCS, i64_w, i32_w]; rfl
        exact norm_ (by simp only [putAll, Act.put, sIA, sC0, sCS]) (hCont (.slice Ao42 t588.length co42, v593, gb596) _ ⟨hHeld, (by (with_reducible repeat (first | apply Kd.R_alloc | apply Kd.R_drewN | apply Kd.R_drew)); exact Kd.R_mono HO580.out (fun _ hk => ⟨hk.1.1.1, ⟨hk.1.2, ⟨hk.2, hk.1.1.2⟩⟩⟩)), (by (with_reducible repeat (first | apply Kd.R_alloc | apply Kd.R_drewN | apply Kd.R_drew)); exact Kd.R_mono HO584.out (fun _ hk => ⟨hk.1.1.1, ⟨hk.1.2, ⟨hk.2, hk.1.1.2⟩⟩⟩)), (by (with_reducible repeat (first | apply Kd.R_alloc | apply Kd.R_drewN | apply Kd.R_drew)); exact Kd.R_mono HO590.out (fun _ hk => ⟨hk.1.1.1.2, ⟨hk.1.1.2, ⟨hk.2, hk.1.2⟩⟩⟩)), (by (with_reducible repeat (first | apply Kd.R_alloc | apply Kd.R_drewN | apply Kd.R_drew)); exact Kd.R_mono HO594.out (fun _ hk => ⟨hk.1.1.1.2, ⟨hk.1.1.2, ⟨hk.1.2, hk.2⟩⟩⟩)), (bG BK572.out), (bG BK573.out), (bG BK586.out), (bG BK596.out), GW596.out, GE596.out, NB572_596.out, NB596_572.out, NB573_596.out, NB596_573.out, NB586_596.out, NB596_586.out, (eG HB.out)⟩)
       ·
        skip
        refine box_step ?hg (N := 13) ?hd (cs := #[.int .i64 0, .slice none 0 0]) (t := 24) ?hr ?_; (case hd => rfl); (case hg => rfl); (case hr => first | (go_simp; done) | (go_simp; rfl))
        intro gb596 hg w42 hbox hb; have n0_ := Aside0.mk (Kd.R_below (rG HO580.out) hb); have n1_ := Aside0.mk (Kd.R_below (rG HO584.out) hb); have n2_ := Aside0.mk (Kd.R_below (rG HO590.out) hb); have n3_ := Aside0.mk (blk_below (bG BK572.out) hb); have n4_ := Aside0.mk (blk_below (bG BK573.out) hb); have n5_ := Aside0.mk (blk_below (bG BK586.out) hb); have n6_ := Aside0.mk (below_step (eG HB.out) hb); have n7_ := Aside0.mk (hbox); have n8_ := Aside0.mk ((by rw [hg]; exact (below_size (eG HB.out)) : w.heap.size ≤ gb596)); have n9_ := Aside0.mk ((by rw [hg]; exact (below_size (eG HB.out)) : w.heap.size ≤ gb596)); have n10_ := Aside0.mk ((by rw [hg]; exact Nat.ne_of_lt (blk_lt (bG BK572.out)) : gb572 ≠ gb596)); have n11_ := Aside0.mk ((by rw [hg]; exact Nat.ne_of_gt (blk_lt (bG BK572.out)) : gb596 ≠ gb572)); have n12_ := Aside0.mk ((by rw [hg]; exact Nat.ne_of_lt (blk_lt (bG BK573.out)) : gb573 ≠ gb596)); have n13_ := Aside0.mk ((by rw [hg]; exact Nat.ne_of_gt (blk_lt (bG BK573.out)) : gb596 ≠ gb573)); have n14_ := Aside0.mk ((by rw [hg]; exact Nat.ne_of_lt (blk_lt (bG BK586.out)) : gb586 ≠ gb596)); have n15_ := Aside0.mk ((by rw [hg]; exact Nat.ne_of_gt (blk_lt (bG BK586.out)) : gb596 ≠ gb586)); clear HO580; clear HO584; clear HO590; clear BK572; clear BK573; clear BK586; clear HB; have HO580 := n0_; have HO584 := n1_; have HO590 := n2_; have BK572 := n3_; have BK573 := n4_; have BK586 := n5_; have HB := n6_; have BK596 := n7_; have GW596 := n8_; have GE596 := n9_; have ig596_ := geI GE596
        have NB572_596 := n10_; have NB596_572 := n11_; have NB573_596 := n12_; have NB596_573 := n13_; have NB586_596 := n14_; have NB596_586 := n15_; clear n0_ n1_ n2_ n3_ n4_ n5_ n6_ n7_ n8_ n9_ n10_ n11_ n12_ n13_ n14_ n15_; clear hb hbox hg; obtain ⟨Ao43, co43, eo43⟩ := Kd.R_slice HO590.out; (first | subst eo43 | (injection eo43 with f1_ f2_ f3_; have f4_ := f1_.symm; have f5_ := f3_.symm; clear f1_ f2_ f3_; subst f4_; subst f5_))
        refine hK.out _ _ ⟨(blk_cell BK586.out 0).trans rfl, (blk_cell BK586.out 1).trans rfl, (blk_cell BK573.out 0).trans rfl, (blk_cell BK573.out 1).trans rfl, (blk_cell BK573.out 2).trans rfl⟩ (fun hHeld => ?_); clear hK K; refine norm_ (a' := ?_) ?_ ?_; rotate_left
        ·
         show Act.put _ (some 13) _ = _
         simp only [Act.put, sIA, sC0, sCS, i64_w, i32_w]; rfl
        refine one_ (i := 3) (N := some 48) #[true, true, true, true, false, false, false, true, false, false] rfl rfl (one_of HT_.out (by kernel_rfl)) (by decide) (fun K hK => ?_); refine goes_ Tryz.func16 (by kernel_rfl) rfl #[.agg #[.int .i64 t587, .slice Ao43 t588.length co43], .agg #[.int .i64 a1_0, .int .i64 a1_1, .int .i64 a1_2]] (by rfl) rfl rfl (by (try simp only [List.map_toArray, List.map_cons, List.map_nil]); first | done | rfl | (simp only [List.length_drop, List.length_take]; rfl)) ?_; with_reducible refine (tariff_Insert.calls kj5 t587 _ _ t588 a1_0 a1_1 a1_2 t591 t592 t595 _ ?side1 ?side2 A24.out).mono ?_
        (case side1 => repeat (first | exact (Kd.R_reads' HO590.out).2.2 | (with_reducible refine Kd.C_alloc ?_ _) | (with_reducible refine Kd.C_drewN ?_ _) | (with_reducible refine Kd.C_drew ?_)))
        (case side2 => exact (Kd.R_reads' HO590.out).2.1)
        rintro e w44 ⟨v593, rfl, ho0, hb⟩; refine ⟨_, rfl, ?_⟩; have n0_ := Aside0.mk (Kd.R_elder' (rG HO580.out) (Kd.R_base ho0) hb); have n1_ := Aside0.mk (Kd.R_elder' (rG HO584.out) (Kd.R_base ho0) hb); have n2_ := Aside0.mk (Kd.R_elder' (rG HO590.out) (Kd.R_base ho0) hb); have n3_ := Aside0.mk (Kd.R_lower (Kd.R_newB (Kd.R_new' (Kd.R_new' (Kd.R_new' ho0 (Kd.R_lt (rG HO580.out))) (Kd.R_lt (rG HO584.out))) (Kd.R_lt (rG HO590.out))) (bG BK573.out)) (below_size (eG HB.out))); have n4_ := Aside0.mk (blk_below (bG BK572.out) hb); have n5_ := Aside0.mk (blk_below (bG BK573.out) hb); have n6_ := Aside0.mk (blk_below (bG BK586.out) hb); have n7_ := Aside0.mk (blk_below (bG BK596.out) hb); have n8_ := Aside0.mk (below_step (eG HB.out) hb); clear HO580; clear HO584; clear HO590; clear BK572; clear BK573; clear BK586; clear BK596; clear HB; have HO580 := n0_; have HO584 := n1_; have HO590 := n2_; have HO594 := n3_; have BK572 := n4_; have BK573 := n5_; have BK586 := n6_; have BK596 := n7_; have HB := n8_; clear n0_ n1_ n2_ n3_ n4_ n5_ n6_ n7_ n8_; (try clear hb)
        (try clear hb2)
        (try clear hk)
        (try clear hi)
        (try clear ho0)
        refine hK.out _ _ ⟨(blk_cell BK586.out 0).trans rfl, (blk_cell BK586.out 1).trans rfl, (blk_cell BK573.out 0).trans rfl, (blk_cell BK573.out 1).trans rfl, (blk_cell BK573.out 2).trans rfl⟩ (fun hHeld => ?_); clear hK K; refine norm_ (a' := ?_) ?_ ?_; rotate_left
        ·
         show Act.put _ (some 48) _ = _
         simp only [Act.put, sIA, sC0, sCS, i64_w, i32_w]; rfl
        refine pure_ (i := 4) (N := some 44) (v := ?_) (a' := ?_) #[true, true, true, true, true, false, false, true, false, false] rfl rfl (any_of HT_.out (by kernel_rfl)) (fun _ _ _ h => h) (Or.inl ⟨by rfl, ?_⟩) ?_ ?_; rotate_left
        · intro w'; go_simp; with_reducible rfl
        rotate_left
        · simp only [Act.put, sIA, sC0, sCS, i64_w, i32_w]; rfl
        refine pure_ (i := 5) (N := some 49) (v := ?_) (a' := ?_) #[true, true, true, true, true, true, false, true, false, false] rfl rfl (any_of HT_.out (by kernel_rfl)) (fun _ _ _ h => h) (Or.inl ⟨by rfl, ?_⟩) ?_ ?_; rotate_left
        · intro w'; go_simp; with_reducible rfl
        rotate_left
        · simp only [Act.put, sIA, sC0, sCS, i64_w, i32_w]; rfl
        refine pure_ (i := 6) (N := some 50) (v := ?_) (a' := ?_) #[true, true, true, true, true, true, true, true, false, false] rfl rfl (any_of HT_.out (by kernel_rfl)) (fun _ _ _ h => h) (Or.inl ⟨by rfl, ?_⟩) ?_ ?_; rotate_left
        · intro w'; go_simp; with_reducible rfl
        rotate_left
        · simp only [Act.put, sIA, sC0, sCS, i64_w, i32_w]; rfl
        exact norm_ (by simp only [putAll, Act.put, sIA, sC0, sCS]) (hCont (.slice Ao43 t588.length co43, v593, gb596) _ ⟨hHeld, (by (with_reducible repeat (first | apply Kd.R_alloc | apply Kd.R_drewN | apply Kd.R_drew)); exact Kd.R_mono HO580.out (fun _ hk => ⟨hk.1.1.1, ⟨hk.1.2, ⟨hk.2, hk.1.1.2⟩⟩⟩)), (by (with_reducible repeat (first | apply Kd.R_alloc | apply Kd.R_drewN | apply Kd.R_drew)); exact Kd.R_mono HO584.out (fun _ hk => ⟨hk.1.1.1, ⟨hk.1.2, ⟨hk.2, hk.1.1.2⟩⟩⟩)), (by (with_reducible repeat (first | apply Kd.R_alloc | apply Kd.R_drewN | apply Kd.R_drew)); exact Kd.R_mono HO590.out (fun _ hk => ⟨hk.1.1.1.2, ⟨hk.1.1.2, ⟨hk.2, hk.1.2⟩⟩⟩)), (by (with_reducible repeat (first | apply Kd.R_alloc | apply Kd.R_drewN | apply Kd.R_drew)); exact Kd.R_mono HO594.out (fun _ hk => ⟨hk.1.1.1.2, ⟨hk.1.1.2, ⟨hk.1.2, hk.2⟩⟩⟩)), (bG BK572.out), (bG BK573.out), (bG BK586.out), (bG BK596.out), GW596.out, GE596.out, NB572_596.out, NB596_572.out, NB573_596.out, NB596_573.out, NB586_596.out, NB596_586.out, (eG HB.out)⟩)
      ·
       skip
       refine box_step ?hg (N := 13) ?hd (cs := #[.int .i64 0, .slice none 0 0]) (t := 24) ?hr ?_; (case hd => rfl); (case hg => rfl); (case hr => first | (go_simp; done) | (go_simp; rfl))
       intro gb596 hg w41 hbox hb; have n0_ := Aside0.mk (Kd.R_below (rG HO580.out) hb); have n1_ := Aside0.mk (Kd.R_below (rG HO584.out) hb); have n2_ := Aside0.mk (blk_below (bG BK572.out) hb); have n3_ := Aside0.mk (blk_below (bG BK573.out) hb); have n4_ := Aside0.mk (blk_below (bG BK586.out) hb); have n5_ := Aside0.mk (below_step (eG HB.out) hb); have n6_ := Aside0.mk (hbox); have n7_ := Aside0.mk ((by rw [hg]; exact (below_size (eG HB.out)) : w.heap.size ≤ gb596)); have n8_ := Aside0.mk ((by rw [hg]; exact (below_size (eG HB.out)) : w.heap.size ≤ gb596)); have n9_ := Aside0.mk ((by rw [hg]; exact Nat.ne_of_lt (blk_lt (bG BK572.out)) : gb572 ≠ gb596)); have n10_ := Aside0.mk ((by rw [hg]; exact Nat.ne_of_gt (blk_lt (bG BK572.out)) : gb596 ≠ gb572)); have n11_ := Aside0.mk ((by rw [hg]; exact Nat.ne_of_lt (blk_lt (bG BK573.out)) : gb573 ≠ gb596)); have n12_ := Aside0.mk ((by rw [hg]; exact Nat.ne_of_gt (blk_lt (bG BK573.out)) : gb596 ≠ gb573)); have n13_ := Aside0.mk ((by rw [hg]; exact Nat.ne_of_lt (blk_lt (bG BK586.out)) : gb586 ≠ gb596)); have n14_ := Aside0.mk ((by rw [hg]; exact Nat.ne_of_gt (blk_lt (bG BK586.out)) : gb596 ≠ gb586)); clear HO580; clear HO584; clear BK572; clear BK573; clear BK586; clear HB; have HO580 := n0_; have HO584 := n1_; have BK572 := n2_; have BK573 := n3_; have BK586 := n4_; have HB := n5_; have BK596 := n6_; have GW596 := n7_; have GE596 := n8_; have ig596_ := geI GE596
       have NB572_596 := n9_; have NB596_572 := n10_; have NB573_596 := n11_; have NB596_573 := n12_; have NB586_596 := n13_; have NB596_586 := n14_; clear n0_ n1_ n2_ n3_ n4_ n5_ n6_ n7_ n8_ n9_ n10_ n11_ n12_ n13_ n14_; clear hb hbox hg; refine hK.out _ _ ⟨(blk_cell BK586.out 0).trans rfl, (blk_cell BK586.out 1).trans rfl, (blk_cell BK573.out 0).trans rfl, (blk_cell BK573.out 1).trans rfl, (blk_cell BK573.out 2).trans rfl⟩ (fun hHeld => ?_); clear hK K; refine norm_ (a' := ?_) ?_ ?_; rotate_left
       ·
        show Act.put _ (some 13) _ = _
        simp only [Act.put, sIA, sC0, sCS, i64_w, i32_w]; rfl
       refine one_ (i := 1) (N := some 46) #[true, true, true, false, false, false, false, true, false, false] rfl rfl (one_of HT_.out (by kernel_rfl)) (by decide) (fun K hK => ?_); refine goes_ Tryz.func14 (by kernel_rfl) rfl #[.agg #[.int .i64 t581, .slice Ao37 t582.length co37]] (by rfl) rfl rfl (by (try simp only [List.map_toArray, List.map_cons, List.map_nil]); first | done | rfl | (simp only [List.length_drop, List.length_take]; rfl)) ?_; with_reducible refine (spilelaw46_cp.calls t581 _ _ t582 t587 t588 _ ?side1 ?side2 A23.out).mono ?_
       (case side1 => repeat (first | exact (Kd.R_reads' HO584.out).2.2 | (with_reducible refine Kd.C_alloc ?_ _) | (with_reducible refine Kd.C_drewN ?_ _) | (with_reducible refine Kd.C_drew ?_)))
       (case side2 => exact (Kd.R_reads' HO584.out).2.1)
       rintro e w42 ⟨v589, rfl, ho0, hb⟩; refine ⟨_, rfl, ?_⟩; have n0_ := Aside0.mk (Kd.R_elder' (rG HO580.out) (Kd.R_base ho0) hb); have n1_ := Aside0.mk (Kd.R_elder' (rG HO584.out) (Kd.R_base ho0) hb); have n2_ := Aside0.mk (Kd.R_lower (Kd.R_newB (Kd.R_new' (Kd.R_new' ho0 (Kd.R_lt (rG HO580.out))) (Kd.R_lt (rG HO584.out))) (bG BK573.out)) (below_size (eG HB.out))); have n3_ := Aside0.mk (blk_below (bG BK572.out) hb); have n4_ := Aside0.mk (blk_below (bG BK573.out) hb); have n5_ := Aside0.mk (blk_below (bG BK586.out) hb); have n6_ := Aside0.mk (blk_below (bG BK596.out) hb); have n7_ := Aside0.mk (below_step (eG HB.out) hb); clear HO580; clear HO584; clear BK572; clear BK573; clear BK586; clear BK596; clear HB; have HO580 := n0_; have HO584 := n1_; have HO590 := n2_; have BK572 := n3_; have BK573 := n4_; have BK586 := n5_; have BK596 := n6_; have HB := n7_; clear n0_ n1_ n2_ n3_ n4_ n5_ n6_ n7_; (try clear hb)
       (try clear hb2)
       (try clear hk)
       (try clear hi)
       (try clear ho0)
       obtain ⟨Ao43, co43, eo43⟩ := Kd.R_slice HO590.out; (first | subst eo43 | (injection eo43 with f1_ f2_ f3_; have f4_ := f1_.symm; have f5_ := f3_.symm; clear f1_ f2_ f3_; subst f4_; subst f5_))
       refine hK.out _ _ ⟨(blk_cell BK586.out 0).trans rfl, (blk_cell BK586.out 1).trans rfl, (blk_cell BK573.out 0).trans rfl, (blk_cell BK573.out 1).trans rfl, (blk_cell BK573.out 2).trans rfl⟩ (fun hHeld => ?_); clear hK K; refine norm_ (a' := ?_) ?_ ?_; rotate_left
       ·
        show Act.put _ (some 46) _ = _
        simp only [Act.put, sIA, sC0, sCS, i64_w, i32_w]; rfl
       refine one_ (i := 3) (N := some 48) #[true, true, true, true, false, false, false, true, false, false] rfl rfl (one_of HT_.out (by kernel_rfl)) (by decide) (fun K hK => ?_); refine goes_ Tryz.func16 (by kernel_rfl) rfl #[.agg #[.int .i64 t587, .slice Ao43 t588.length co43], .agg #[.int .i64 a1_0, .int .i64 a1_1, .int .i64 a1_2]] (by rfl) rfl rfl (by (try simp only [List.map_toArray, List.map_cons, List.map_nil]); first | done | rfl | (simp only [List.length_drop, List.length_take]; rfl)) ?_; with_reducible refine (tariff_Insert.calls kj5 t587 _ _ t588 a1_0 a1_1 a1_2 t591 t592 t595 _ ?side1 ?side2 A24.out).mono ?_
       (case side1 => repeat (first | exact (Kd.R_reads' HO590.out).2.2 | (with_reducible refine Kd.C_alloc ?_ _) | (with_reducible refine Kd.C_drewN ?_ _) | (with_reducible refine Kd.C_drew ?_)))
       (case side2 => exact (Kd.R_reads' HO590.out).2.1)
       rintro e w44 ⟨v593, rfl, ho0, hb⟩; refine ⟨_, rfl, ?_⟩; have n0_ := Aside0.mk (Kd.R_elder' (rG HO580.out) (Kd.R_base ho0) hb); have n1_ := Aside0.mk (Kd.R_elder' (rG HO584.out) (Kd.R_base ho0) hb); have n2_ := Aside0.mk (Kd.R_elder' (rG HO590.out) (Kd.R_base ho0) hb); have n3_ := Aside0.mk (Kd.R_lower (Kd.R_newB (Kd.R_new' (Kd.R_new' (Kd.R_new' ho0 (Kd.R_lt (rG HO580.out))) (Kd.R_lt (rG HO584.out))) (Kd.R_lt (rG HO590.out))) (bG BK573.out)) (below_size (eG HB.out))); have n4_ := Aside0.mk (blk_below (bG BK572.out) hb); have n5_ := Aside0.mk (blk_below (bG BK573.out) hb); have n6_ := Aside0.mk (blk_below (bG BK586.out) hb); have n7_ := Aside0.mk (blk_below (bG BK596.out) hb); have n8_ := Aside0.mk (below_step (eG HB.out) hb); clear HO580; clear HO584; clear HO590; clear BK572; clear BK573; clear BK586; clear BK596; clear HB; have HO580 := n0_; have HO584 := n1_; have HO590 := n2_; have HO594 := n3_; have BK572 := n4_; have BK573 := n5_; have BK586 := n6_; have BK596 := n7_; have HB := n8_; clear n0_ n1_ n2_ n3_ n4_ n5_ n6_ n7_ n8_; (try clear hb)
       (try clear hb2)
       (try clear hk)
       (try clear hi)
       (try clear ho0)
       refine hK.out _ _ ⟨(blk_cell BK586.out 0).trans rfl, (blk_cell BK586.out 1).trans rfl, (blk_cell BK573.out 0).trans rfl, (blk_cell BK573.out 1).trans rfl, (blk_cell BK573.out 2).trans rfl⟩ (fun hHeld => ?_); clear hK K; refine norm_ (a' := ?_) ?_ ?_; rotate_left
       ·
        show Act.put _ (some 48) _ = _
        simp only [Act.put, sIA, sC0, sCS, i64_w, i32_w]; rfl
       refine pure_ (i := 4) (N := some 44) (v := ?_) (a' := ?_) #[true, true, true, true, true, false, false, true, false, false] rfl rfl (any_of HT_.out (by kernel_rfl)) (fun _ _ _ h => h) (Or.inl ⟨by rfl, ?_⟩) ?_ ?_; rotate_left
       · intro w'; go_simp; with_reducible rfl
       rotate_left
       · simp only [Act.put, sIA, sC0, sCS, i64_w, i32_w]; rfl
       refine pure_ (i := 5) (N := some 49) (v := ?_) (a' := ?_) #[true, true, true, true, true, true, false, true, false, false] rfl rfl (any_of HT_.out (by kernel_rfl)) (fun _ _ _ h => h) (Or.inl ⟨by rfl, ?_⟩) ?_ ?_; rotate_left
       · intro w'; go_simp; with_reducible rfl
       rotate_left
       · simp only [Act.put, sIA, sC0, sCS, i64_w, i32_w]; rfl
       refine pure_ (i := 6) (N := some 50) (v := ?_) (a' := ?_) #[true, true, true, true, true, true, true, true, false, false] rfl rfl (any_of HT_.out (by kernel_rfl)) (fun _ _ _ h => h) (Or.inl ⟨by rfl, ?_⟩) ?_ ?_; rotate_left
       · intro w'; go_simp; with_reducible rfl
       rotate_left
       · simp only [Act.put, sIA, sC0, sCS, i64_w, i32_w]; rfl
       exact norm_ (by simp only [putAll, Act.put, sIA, sC0, sCS]) (hCont (.slice Ao43 t588.length co43, v593, gb596) _ ⟨hHeld, (by (with_reducible repeat (first | apply Kd.R_alloc | apply Kd.R_drewN | apply Kd.R_drew)); exact Kd.R_mono HO580.out (fun _ hk => ⟨hk.1.1.1, ⟨hk.1.2, ⟨hk.2, hk.1.1.2⟩⟩⟩)), (by (with_reducible repeat (first | apply Kd.R_alloc | apply Kd.R_drewN | apply Kd.R_drew)); exact Kd.R_mono HO584.out (fun _ hk => ⟨hk.1.1.1, ⟨hk.1.2, ⟨hk.2, hk.1.1.2⟩⟩⟩)), (by (with_reducible repeat (first | apply Kd.R_alloc | apply Kd.R_drewN | apply Kd.R_drew)); exact Kd.R_mono HO590.out (fun _ hk => ⟨hk.1.1.1.2, ⟨hk.1.1.2, ⟨hk.2, hk.1.2⟩⟩⟩)), (by (with_reducible repeat (first | apply Kd.R_alloc | apply Kd.R_drewN | apply Kd.R_drew)); exact Kd.R_mono HO594.out (fun _ hk => ⟨hk.1.1.1.2, ⟨hk.1.1.2, ⟨hk.1.2, hk.2⟩⟩⟩)), (bG BK572.out), (bG BK573.out), (bG BK586.out), (bG BK596.out), GW596.out, GE596.out, NB572_596.out, NB596_572.out, NB573_596.out, NB596_573.out, NB586_596.out, NB596_586.out, (eG HB.out)⟩)
     rintro ⟨v589, v593, gb596⟩ w45 ⟨hS_, h0_, h1_, h2_, h3_, h4_, h5_, h6_, h7_, h8_, h9_, h10_, h11_, h12_, h13_, h14_, h15_, h16_⟩; have n0_ : Aside0 (Kd.R k26 26 w45 w.heap.size (fun k_ => some k_ ≠ (.slice Ao37 t582.length co37 : Value).ownBlock ∧ some k_ ≠ (v589 : Value).ownBlock ∧ some k_ ≠ (v593 : Value).ownBlock ∧ k_ ≠ gb573) v579 t578) := ⟨h0_⟩; have n1_ : Aside0 (Kd.R k26 26 w45 w.heap.size (fun k_ => some k_ ≠ (v579 : Value).ownBlock ∧ some k_ ≠ (v589 : Value).ownBlock ∧ some k_ ≠ (v593 : Value).ownBlock ∧ k_ ≠ gb573) (.slice Ao37 t582.length co37) t582) := ⟨h1_⟩; have n2_ : Aside0 (Kd.R k26 26 w45 w.heap.size (fun k_ => some k_ ≠ (v579 : Value).ownBlock ∧ some k_ ≠ (.slice Ao37 t582.length co37 : Value).ownBlock ∧ some k_ ≠ (v593 : Value).ownBlock ∧ k_ ≠ gb573) v589 t588) := ⟨h2_⟩; have n3_ : Aside0 (Kd.R k26 26 w45 w.heap.size (fun k_ => some k_ ≠ (v579 : Value).ownBlock ∧ some k_ ≠ (.slice Ao37 t582.length co37 : Value).ownBlock ∧ some k_ ≠ (v589 : Value).ownBlock ∧ k_ ≠ gb573) v593 t592) := ⟨h3_⟩; have n4_ : Aside0 (w45.heap[gb572]? = some (.cells #[.int .i64 a0_0, .slice A0_1 l0_1.length c0_1] 24 (0, 0))) := ⟨h4_⟩; have n5_ : Aside0 (w45.heap[gb573]? = some (.cells #[.int .i64 a1_0, .int .i64 a1_1, .int .i64 a1_2] 26 (0, 0))) := ⟨h5_⟩; have n6_ : Aside0 (w45.heap[gb586]? = some (.cells #[.int .i64 t581, .slice Ao37 t582.length co37] 24 (0, 0))) := ⟨h6_⟩; have n7_ : Aside0 (w45.heap[gb596]? = some (.cells #[.int .i64 0, .slice none 0 0] 24 (0, 0))) := ⟨h7_⟩; have n8_ : Aside0 (w.heap.size ≤ gb596) := ⟨h8_⟩; have n9_ : Aside0 (w.heap.size ≤ gb596) := ⟨h9_⟩; have n10_ : Aside0 (gb572 ≠ gb596) := ⟨h10_⟩; have n11_ : Aside0 (gb596 ≠ gb572) := ⟨h11_⟩; have n12_ : Aside0 (gb573 ≠ gb596) := ⟨h12_⟩; have n13_ : Aside0 (gb596 ≠ gb573) := ⟨h13_⟩; have n14_ : Aside0 (gb586 ≠ gb596) := ⟨h14_⟩; have n15_ : Aside0 (gb596 ≠ gb586) := ⟨h15_⟩; have n16_ : Aside0 (Below w.heap.size w w45) := ⟨h16_⟩; clear HO580; clear HO584; clear BK572; clear BK573; clear BK586; clear HB; clear h0_ h1_ h2_ h3_ h4_ h5_ h6_ h7_ h8_ h9_ h10_ h11_ h12_ h13_ h14_ h15_ h16_; have HO580 := n0_; have HO584 := n1_; have HO590 := n2_; have HO594 := n3_; have BK572 := n4_; have BK573 := n5_; have BK586 := n6_; have BK596 := n7_; have GW596 := n8_; have GE596 := n9_; have ig596_ := geI GE596
     have NB572_596 := n10_; have NB596_572 := n11_; have NB573_596 := n12_; have NB596_573 := n13_; have NB586_596 := n14_; have NB596_586 := n15_; have HB := n16_; clear n0_ n1_ n2_ n3_ n4_ n5_ n6_ n7_ n8_ n9_ n10_ n11_ n12_ n13_ n14_ n15_ n16_; have hHeld : w45.cell? ⟨gb586, 0, none⟩ = some (.int .i64 t581) ∧ w45.cell? ⟨gb586, 1, none⟩ = some (.slice Ao37 t582.length co37) ∧ w45.cell? ⟨gb573, 0, none⟩ = some (.int .i64 a1_0) ∧ w45.cell? ⟨gb573, 1, none⟩ = some (.int .i64 a1_1) ∧ w45.cell? ⟨gb573, 2, none⟩ = some (.int .i64 a1_2) := hS_; obtain ⟨Ao47, co47, eo47⟩ := Kd.R_slice HO594.out; (first | subst eo47 | (injection eo47 with f1_ f2_ f3_; have f4_ := f1_.symm; have f5_ := f3_.symm; clear f1_ f2_ f3_; subst f4_; subst f5_))
     refine norm_ (a' := ?_) ?_ ?_; rotate_left
     · simp only [putAll, Act.put, sIA, sC0, sCS]; rfl
     refine one_ (i := 8) (N := none) #[true, true, true, true, true, true, true, true, true, false] rfl rfl (one_of HT_.out (by kernel_rfl)) (by decide) (fun K hK => ?_); have hs46 : w45.cell? ⟨gb596, 0, none⟩ = some (.int .i64 0) := (blk_cell BK596.out 0).trans rfl; have hfs46 := blk_frozen BK596.out 0; have hns46_0 := NB572_596.out; have hns46_1 := NB573_596.out; have hns46_2 := NB586_596.out; have hms46_0 := NB596_572.out; have hms46_1 := NB596_573.out; have hms46_2 := NB596_586.out; have hs48 : w45.cell? ⟨gb596, 1, none⟩ = some (.slice none 0 0) := (blk_cell BK596.out 1).trans rfl; have hfs48 := blk_frozen BK596.out 1; have hns48_0 := NB572_596.out; have hns48_1 := NB573_596.out; have hns48_2 := NB586_596.out; have hms48_0 := NB596_572.out; have hms48_1 := NB596_573.out; have hms48_2 := NB596_586.out; refine skip_ (w1 := ?_) (by rfl) rfl ?_ ?_; rotate_left
     · go_simp; rfl
     refine hK.out _ _ ⟨((cell_far (p := ⟨gb596, _, none⟩) NB586_596.out _).trans (((cell_far (p := ⟨gb596, _, none⟩) NB586_596.out _).trans (hHeld.1)))), ((cell_far (p := ⟨gb596, _, none⟩) NB586_596.out _).trans (((cell_far (p := ⟨gb596, _, none⟩) NB586_596.out _).trans (hHeld.2.1)))), ((cell_far (p := ⟨gb596, _, none⟩) NB573_596.out _).trans (((cell_far (p := ⟨gb596, _, none⟩) NB573_596.out _).trans (hHeld.2.2.1)))), ((cell_far (p := ⟨gb596, _, none⟩) NB573_596.out _).trans (((cell_far (p := ⟨gb596, _, none⟩) NB573_596.out _).trans (hHeld.2.2.2.1)))), ((cell_far (p := ⟨gb596, _, none⟩) NB573_596.out _).trans (((cell_far (p := ⟨gb596, _, none⟩) NB573_596.out _).trans (hHeld.2.2.2.2))))⟩ (fun hHeld => ?_); clear hK K; refine pure_ (i := 9) (N := some 14) (v := ?_) (a' := ?_) #[true, true, true, true, true, true, true, true, true, true] rfl rfl (any_of HT_.out (by kernel_rfl)) (fun _ _ _ h => h) (Or.inl ⟨by rfl, ?_⟩) ?_ ?_; rotate_left
     · intro w'; go_simp; with_reducible rfl
     rotate_left
     · simp only [Act.put, sIA, sC0, sCS, i64_w, i32_w]; rfl
     refine done_ (done_of HT_.out (by kernel_rfl)) ?_; try go_wp2
     have n0_ : Aside0 (Kd.R k26 26 ((w45.setCell ⟨gb596, 0, none⟩ (.int .i64 t591)).setCell ⟨gb596, 1, none⟩ (.slice Ao47 t592.length co47)) w.heap.size (fun k_ => some k_ ≠ (.slice Ao37 t582.length co37 : Value).ownBlock ∧ some k_ ≠ (v589 : Value).ownBlock ∧ some k_ ≠ (.slice Ao47 t592.length co47 : Value).ownBlock ∧ k_ ≠ gb573) v579 t578) := ⟨by (with_reducible repeat (first | apply Kd.R_alloc | apply Kd.R_drewN | apply Kd.R_drew)); exact Kd.R_mono (Kd.R_far (p := ⟨gb596, 1, none⟩) (Kd.R_far (p := ⟨gb596, 0, none⟩) (Kd.R_types HO580.out BK596.out (by decide)) (fun _ hk => hk.2) (.int .i64 t591)) (fun _ hk => hk.2) (.slice Ao47 t592.length co47)) (fun _ hk => ⟨hk.1.1, ⟨hk.1.2.1, ⟨hk.1.2.2.1, hk.1.2.2.2⟩⟩⟩)⟩; have n1_ : Aside0 (Kd.R k26 26 ((w45.setCell ⟨gb596, 0, none⟩ (.int .i64 t591)).setCell ⟨gb596, 1, none⟩ (.slice Ao47 t592.length co47)) w.heap.size (fun k_ => some k_ ≠ (v579 : Value).ownBlock ∧ some k_ ≠ (v589 : Value).ownBlock ∧ some k_ ≠ (.slice Ao47 t592.length co47 : Value).ownBlock ∧ k_ ≠ gb573) (.slice Ao37 t582.length co37) t582) := ⟨by (with_reducible repeat (first | apply Kd.R_alloc | apply Kd.R_drewN | apply Kd.R_drew)); exact Kd.R_mono (Kd.R_far (p := ⟨gb596, 1, none⟩) (Kd.R_far (p := ⟨gb596, 0, none⟩) (Kd.R_types HO584.out BK596.out (by decide)) (fun _ hk => hk.2) (.int .i64 t591)) (fun _ hk => hk.2) (.slice Ao47 t592.length co47)) (fun _ hk => ⟨hk.1.1, ⟨hk.1.2.1, ⟨hk.1.2.2.1, hk.1.2.2.2⟩⟩⟩)⟩; have n2_ : Aside0 (Kd.R k26 26 ((w45.setCell ⟨gb596, 0, none⟩ (.int .i64 t591)).setCell ⟨gb596, 1, none⟩ (.slice Ao47 t592.length co47)) w.heap.size (fun k_ => some k_ ≠ (v579 : Value).ownBlock ∧ some k_ ≠ (.slice Ao37 t582.length co37 : Value).ownBlock ∧ some k_ ≠ (.slice Ao47 t592.length co47 : Value).ownBlock ∧ k_ ≠ gb573) v589 t588) := ⟨by (with_reducible repeat (first | apply Kd.R_alloc | apply Kd.R_drewN | apply Kd.R_drew)); exact Kd.R_mono (Kd.R_far (p := ⟨gb596, 1, none⟩) (Kd.R_far (p := ⟨gb596, 0, none⟩) (Kd.R_types HO590.out BK596.out (by decide)) (fun _ hk => hk.2) (.int .i64 t591)) (fun _ hk => hk.2) (.slice Ao47 t592.length co47)) (fun _ hk => ⟨hk.1.1, ⟨hk.1.2.1, ⟨hk.1.2.2.1, hk.1.2.2.2⟩⟩⟩)⟩; have n3_ : Aside0 (Kd.R k26 26 ((w45.setCell ⟨gb596, 0, none⟩ (.int .i64 t591)).setCell ⟨gb596, 1, none⟩ (.slice Ao47 t592.length co47)) w.heap.size (fun k_ => some k_ ≠ (v579 : Value).ownBlock ∧ some k_ ≠ (.slice Ao37 t582.length co37 : Value).ownBlock ∧ some k_ ≠ (v589 : Value).ownBlock ∧ k_ ≠ gb573) (.slice Ao47 t592.length co47) t592) := ⟨by (with_reducible repeat (first | apply Kd.R_alloc | apply Kd.R_drewN | apply Kd.R_drew)); exact Kd.R_mono (Kd.R_far (p := ⟨gb596, 1, none⟩) (Kd.R_far (p := ⟨gb596, 0, none⟩) (Kd.R_types HO594.out BK596.out (by decide)) (fun _ hk => hk.2) (.int .i64 t591)) (fun _ hk => hk.2) (.slice Ao47 t592.length co47)) (fun _ hk => ⟨hk.1.1, ⟨hk.1.2.1, ⟨hk.1.2.2.1, hk.1.2.2.2⟩⟩⟩)⟩; have n4_ : Aside0 (((w45.setCell ⟨gb596, 0, none⟩ (.int .i64 t591)).setCell ⟨gb596, 1, none⟩ (.slice Ao47 t592.length co47)).heap[gb572]? = some (.cells #[.int .i64 a0_0, .slice A0_1 l0_1.length c0_1] 24 (0, 0))) := ⟨by (with_reducible repeat first | apply bN | apply bD | apply bA); refine blk_far ?_ NB572_596.out _; (with_reducible repeat first | apply bN | apply bD | apply bA); refine blk_far ?_ NB572_596.out _; (with_reducible repeat first | apply bN | apply bD | apply bA); exact BK572.out⟩; have n5_ : Aside0 (((w45.setCell ⟨gb596, 0, none⟩ (.int .i64 t591)).setCell ⟨gb596, 1, none⟩ (.slice Ao47 t592.length co47)).heap[gb573]? = some (.cells #[.int .i64 a1_0, .int .i64 a1_1, .int .i64 a1_2] 26 (0, 0))) := ⟨by (with_reducible repeat first | apply bN | apply bD | apply bA); refine blk_far ?_ NB573_596.out _; (with_reducible repeat first | apply bN | apply bD | apply bA); refine blk_far ?_ NB573_596.out _; (with_reducible repeat first | apply bN | apply bD | apply bA); exact BK573.out⟩; have n6_ : Aside0 (((w45.setCell ⟨gb596, 0, none⟩ (.int .i64 t591)).setCell ⟨gb596, 1, none⟩ (.slice Ao47 t592.length co47)).heap[gb586]? = some (.cells #[.int .i64 t581, .slice Ao37 t582.length co37] 24 (0, 0))) := ⟨by (with_reducible repeat first | apply bN | apply bD | apply bA); refine blk_far ?_ NB586_596.out _; (with_reducible repeat first | apply bN | apply bD | apply bA); refine blk_far ?_ NB586_596.out _; (with_reducible repeat first | apply bN | apply bD | apply bA); exact BK586.out⟩; have n7_ : Aside0 (((w45.setCell ⟨gb596, 0, none⟩ (.int .i64 t591)).setCell ⟨gb596, 1, none⟩ (.slice Ao47 t592.length co47)).heap[gb596]? = some (.cells #[.int .i64 t591, .slice Ao47 t592.length co47] 24 (0, 0))) := ⟨by (with_reducible repeat first | apply bN | apply bD | apply bA); refine blk_put (cs := #[.int .i64 t591, .slice none 0 0]) ?_ 1 _ rfl; (with_reducible repeat first | apply bN | apply bD | apply bA); refine blk_put (cs := #[.int .i64 0, .slice none 0 0]) ?_ 0 _ rfl; (with_reducible repeat first | apply bN | apply bD | apply bA); exact BK596.out⟩; have n8_ : Aside0 (Below w.heap.size w ((w45.setCell ⟨gb596, 0, none⟩ (.int .i64 t591)).setCell ⟨gb596, 1, none⟩ (.slice Ao47 t592.length co47))) := ⟨eG HB.out⟩; (try clear HO580)
     (try clear HO584)
     (try clear HO590)
     (try clear HO594)
     (try clear BK572)
     (try clear BK573)
     (try clear BK586)
     (try clear BK596)
     (try clear HB)
     generalize ((w45.setCell ⟨gb596, 0, none⟩ (.int .i64 t591)).setCell ⟨gb596, 1, none⟩ (.slice Ao47 t592.length co47)) = w49 at n0_ n1_ n2_ n3_ n4_ n5_ n6_ n7_ n8_ ⊢; have HO580 := n0_; have HO584 := n1_; have HO590 := n2_; have HO594 := n3_; have BK572 := n4_; have BK573 := n5_; have BK586 := n6_; have BK596 := n7_; have HB := n8_; clear n0_ n1_ n2_ n3_ n4_ n5_ n6_ n7_ n8_; have n0_ := Aside0.mk (Kd.R_drew HO580.out); have n1_ := Aside0.mk (Kd.R_drew HO584.out); have n2_ := Aside0.mk (Kd.R_drew HO590.out); have n3_ := Aside0.mk (Kd.R_drew HO594.out); have n4_ := Aside0.mk (blk_drew BK572.out); have n5_ := Aside0.mk (blk_drew BK573.out); have n6_ := Aside0.mk (blk_drew BK586.out); have n7_ := Aside0.mk (blk_drew BK596.out); have n8_ := Aside0.mk (below_drew1 HB.out); clear HO580; clear HO584; clear HO590; clear HO594; clear BK572; clear BK573; clear BK586; clear BK596; clear HB; have HO580 := n0_; have HO584 := n1_; have HO590 := n2_; have HO594 := n3_; have BK572 := n4_; have BK573 := n5_; have BK586 := n6_; have BK596 := n7_; have HB := n8_; clear n0_ n1_ n2_ n3_ n4_ n5_ n6_ n7_ n8_; refine start_ (n := 13) (S := fun w' => w'.cell? ⟨gb586, 0, none⟩ = some (.int .i64 t581) ∧ w'.cell? ⟨gb586, 1, none⟩ = some (.slice Ao37 t582.length co37) ∧ w'.cell? ⟨gb573, 0, none⟩ = some (.int .i64 a1_0) ∧ w'.cell? ⟨gb573, 1, none⟩ = some (.int .i64 a1_1) ∧ w'.cell? ⟨gb573, 2, none⟩ = some (.int .i64 a1_2)) (ds := []) #[false, false, false, false, false, false, false, false, false, false, false, false, false] (by kernel_rfl) rfl rfl ⟨(blk_cell BK586.out 0).trans rfl, (blk_cell BK586.out 1).trans rfl, (blk_cell BK573.out 0).trans rfl, (blk_cell BK573.out 1).trans rfl, (blk_cell BK573.out 2).trans rfl⟩ (fun hHeld => ?_); refine with_tabW spilelaw46_TariffLater.tab7 spilelaw46_TariffLater.bits7 (fun HT_ HW_ => ?_)
     generalize w49.drew = w50 at HO580 HO584 HO590 HO594 BK572 BK573 BK586 BK596 HB hHeld ⊢; refine pure_ (i := 2) (N := some 54) (v := ?_) (a' := ?_) #[false, false, true, false, false, false, false, false, false, false, false, false, false] rfl rfl (any_of HT_.out (by kernel_rfl)) (fun _ _ _ h => h) (Or.inl ⟨by rfl, ?_⟩) ?_ ?_; rotate_left
     · intro w'; go_simp; with_reducible rfl
     rotate_left
     · simp only [Act.put, sIA, sC0, sCS, i64_w, i32_w]; rfl
     refine pure_ (i := 4) (N := some 56) (v := ?_) (a' := ?_) #[false, false, true, false, true, false, false, false, false, false, false, false, false] rfl rfl (any_of HT_.out (by kernel_rfl)) (fun _ _ _ h => h) (Or.inl ⟨by rfl, ?_⟩) ?_ ?_; rotate_left
     · intro w'; go_simp; with_reducible rfl
     rotate_left
     · simp only [Act.put, sIA, sC0, sCS, i64_w, i32_w]; rfl
     refine take_ (i := 0) (N := some 52) (v := ?_) (a' := ?_) #[true, false, true, false, true, false, false, false, false, false, false, false, false] rfl rfl (take_ofW HT_.out HW_.out (by kernel_rfl)) (fun _ _ _ h => h) (Or.inl ⟨by rfl, ?_⟩) hHeld ?_ ?_; rotate_left
     · rintro w' ⟨s0, s1, s2, s3, s4⟩; go_simp; with_reducible rfl
     rotate_left
     · simp only [Act.put, sIA, sC0, sCS, i64_w, i32_w]; rfl
     refine take_ (i := 3) (N := some 55) (v := ?_) (a' := ?_) #[true, false, true, true, true, false, false, false, false, false, false, false, false] rfl rfl (take_ofW HT_.out HW_.out (by kernel_rfl)) (fun _ _ _ h => h) (Or.inl ⟨by rfl, ?_⟩) hHeld ?_ ?_; rotate_left
     · rintro w' ⟨s0, s1, s2, s3, s4⟩; go_simp; with_reducible rfl
     rotate_left
     · simp only [Act.put, sIA, sC0, sCS, i64_w, i32_w]; rfl
     refine take_ (i := 5) (N := some 57) (v := ?_) (a' := ?_) #[true, false, true, true, true, true, false, false, false, false, false, false, false] rfl rfl (take_ofW HT_.out HW_.out (by kernel_rfl)) (fun _ _ _ h => h) (Or.inl ⟨by rfl, ?_⟩) hHeld ?_ ?_; rotate_left
     · rintro w' ⟨s0, s1, s2, s3, s4⟩; go_simp; with_reducible rfl
     rotate_left
     · simp only [Act.put, sIA, sC0, sCS, i64_w, i32_w]; rfl
     refine join_ (σ := Value × Nat) 2 #[true, true, true, true, true, true, true, true, true, true, true, false, false] (fun s_ => [(53, .agg #[.int .i64 t597, s_.1]), (58, .tuple #[.agg #[.int .i64 t601, .int .i64 t602, .int .i64 t603], .int .i64 t604]), (15, .pointer (some ⟨s_.2, 0, none⟩)), (51, .tuple #[.agg #[.int .i64 t601, .int .i64 t602, .int .i64 t603], .int .i64 t604]), (59, .agg #[.int .i64 t601, .int .i64 t602, .int .i64 t603]), (60, .int .i64 t604)]) (fun s_ w' => (w'.cell? ⟨gb586, 0, none⟩ = some (.int .i64 t581) ∧ w'.cell? ⟨gb586, 1, none⟩ = some (.slice Ao37 t582.length co37) ∧ w'.cell? ⟨gb573, 0, none⟩ = some (.int .i64 a1_0) ∧ w'.cell? ⟨gb573, 1, none⟩ = some (.int .i64 a1_1) ∧ w'.cell? ⟨gb573, 2, none⟩ = some (.int .i64 a1_2)) ∧ (Kd.R k26 26 w' w.heap.size (fun k_ => some k_ ≠ (.slice Ao37 t582.length co37 : Value).ownBlock ∧ some k_ ≠ (v589 : Value).ownBlock ∧ some k_ ≠ (.slice Ao47 t592.length co47 : Value).ownBlock ∧ some k_ ≠ (s_.1 : Value).ownBlock ∧ k_ ≠ gb573 ∧ k_ ≠ s_.2) v579 t578) ∧ (Kd.R k26 26 w' w.heap.size (fun k_ => some k_ ≠ (v579 : Value).ownBlock ∧ some k_ ≠ (v589 : Value).ownBlock ∧ some k_ ≠ (.slice Ao47 t592.length co47 : Value).ownBlock ∧ some k_ ≠ (s_.1 : Value).ownBlock ∧ k_ ≠ gb573 ∧ k_ ≠ s_.2) (.slice Ao37 t582.length co37) t582) ∧ (Kd.R k26 26 w' w.heap.size (fun k_ => some k_ ≠ (v579 : Value).ownBlock ∧ some k_ ≠ (.slice Ao37 t582.length co37 : Value).ownBlock ∧ some k_ ≠ (.slice Ao47 t592.length co47 : Value).ownBlock ∧ some k_ ≠ (s_.1 : Value).ownBlock ∧ k_ ≠ gb573 ∧ k_ ≠ s_.2) v589 t588) ∧ (Kd.R k26 26 w' w.heap.size (fun k_ => some k_ ≠ (v579 : Value).ownBlock ∧ some k_ ≠ (.slice Ao37 t582.length co37 : Value).ownBlock ∧ some k_ ≠ (v589 : Value).ownBlock ∧ some k_ ≠ (s_.1 : Value).ownBlock ∧ k_ ≠ gb573 ∧ k_ ≠ s_.2) (.slice Ao47 t592.length co47) t592) ∧ (Kd.R k26 26 w' w.heap.size (fun k_ => some k_ ≠ (v579 : Value).ownBlock ∧ some k_ ≠ (.slice Ao37 t582.length co37 : Value).ownBlock ∧ some k_ ≠ (v589 : Value).ownBlock ∧ some k_ ≠ (.slice Ao47 t592.length co47 : Value).ownBlock ∧ k_ ≠ gb573 ∧ k_ ≠ s_.2) s_.1 t598) ∧ (w'.heap[gb572]? = some (.cells #[.int .i64 a0_0, .slice A0_1 l0_1.length c0_1] 24 (0, 0))) ∧ (w'.heap[gb573]? = some (.cells #[.int .i64 a1_0, .int .i64 a1_1, .int .i64 a1_2] 26 (0, 0))) ∧ (w'.heap[gb586]? = some (.cells #[.int .i64 t581, .slice Ao37 t582.length co37] 24 (0, 0))) ∧ (w'.heap[gb596]? = some (.cells #[.int .i64 t591, .slice Ao47 t592.length co47] 24 (0, 0))) ∧ (w'.heap[s_.2]? = some (.cells #[.int .i64 0, .int .i64 0, .int .i64 0] 26 (0, 0))) ∧ (w.heap.size ≤ s_.2) ∧ (w.heap.size ≤ s_.2) ∧ (gb572 ≠ s_.2) ∧ (s_.2 ≠ gb572) ∧ (gb573 ≠ s_.2) ∧ (s_.2 ≠ gb573) ∧ (gb586 ≠ s_.2) ∧ (s_.2 ≠ gb586) ∧ (gb596 ≠ s_.2) ∧ (s_.2 ≠ gb596) ∧ (Below w.heap.size w w')) ?_ ?_; rotate_left
     ·
      intro hCont; refine two_ (i := 1) (j := 10) (Ni := some 53) (Nj := some 15) #[true, true, true, true, true, true, false, false, false, false, false, false, false] #[true, false, true, true, true, true, false, false, false, false, true, false, false] rfl rfl rfl rfl (two_of HT_.out (by kernel_rfl)) (by decide) (by decide) (fun K hK => ?_) (fun K hK => ?_)
      ·
       skip
       refine goes_ Tryz.func14 (by kernel_rfl) rfl #[.agg #[.int .i64 t581, .slice Ao37 t582.length co37]] (by rfl) rfl rfl (by (try simp only [List.map_toArray, List.map_cons, List.map_nil]); first | done | rfl | (simp only [List.length_drop, List.length_take]; rfl)) ?_; with_reducible refine (spilelaw46_cp.calls t581 _ _ t582 t597 t598 _ ?side1 ?side2 A25.out).mono ?_
       (case side1 => repeat (first | exact (Kd.R_reads' HO584.out).2.2 | (with_reducible refine Kd.C_alloc ?_ _) | (with_reducible refine Kd.C_drewN ?_ _) | (with_reducible refine Kd.C_drew ?_)))
       (case side2 => exact (Kd.R_reads' HO584.out).2.1)
       rintro e w51 ⟨v599, rfl, ho0, hb⟩; refine ⟨_, rfl, ?_⟩; have n0_ := Aside0.mk (Kd.R_elder' (rG HO580.out) (Kd.R_base ho0) hb); have n1_ := Aside0.mk (Kd.R_elder' (rG HO584.out) (Kd.R_base ho0) hb); have n2_ := Aside0.mk (Kd.R_elder' (rG HO590.out) (Kd.R_base ho0) hb); have n3_ := Aside0.mk (Kd.R_elder' (rG HO594.out) (Kd.R_base ho0) hb); have n4_ := Aside0.mk (Kd.R_lower (Kd.R_newB (Kd.R_new' (Kd.R_new' (Kd.R_new' (Kd.R_new' ho0 (Kd.R_lt (rG HO580.out))) (Kd.R_lt (rG HO584.out))) (Kd.R_lt (rG HO590.out))) (Kd.R_lt (rG HO594.out))) (bG BK573.out)) (below_size (eG HB.out))); have n5_ := Aside0.mk (blk_below (bG BK572.out) hb); have n6_ := Aside0.mk (blk_below (bG BK573.out) hb); have n7_ := Aside0.mk (blk_below (bG BK586.out) hb); have n8_ := Aside0.mk (blk_below (bG BK596.out) hb); have n9_ := Aside0.mk (below_step (eG HB.out) hb); clear HO580; clear HO584; clear HO590; clear HO594; clear BK572; clear BK573; clear BK586; clear BK596; clear HB; have HO580 := n0_; have HO584 := n1_; have HO590 := n2_; have HO594 := n3_; have HO600 := n4_; have BK572 := n5_; have BK573 := n6_; have BK586 := n7_; have BK596 := n8_; have HB := n9_; clear n0_ n1_ n2_ n3_ n4_ n5_ n6_ n7_ n8_ n9_; (try clear hb)
       (try clear hb2)
       (try clear hk)
       (try clear hi)
       (try clear ho0)
       obtain ⟨Ao52, co52, eo52⟩ := Kd.R_slice HO600.out; (first | subst eo52 | (injection eo52 with f1_ f2_ f3_; have f4_ := f1_.symm; have f5_ := f3_.symm; clear f1_ f2_ f3_; subst f4_; subst f5_))
       refine hK.out _ _ ⟨(blk_cell BK586.out 0).trans rfl, (blk_cell BK586.out 1).trans rfl, (blk_cell BK573.out 0).trans rfl, (blk_cell BK573.out 1).trans rfl, (blk_cell BK573.out 2).trans rfl⟩ (fun hHeld => ?_); clear hK K; refine norm_ (a' := ?_) ?_ ?_; rotate_left
       ·
        show Act.put _ (some 53) _ = _
        simp only [Act.put, sIA, sC0, sCS, i64_w, i32_w]; rfl
       refine two_ (i := 6) (j := 10) (Ni := some 58) (Nj := some 15) #[true, true, true, true, true, true, true, false, false, false, false, false, false] #[true, true, true, true, true, true, false, false, false, false, true, false, false] rfl rfl rfl rfl (two_of HT_.out (by kernel_rfl)) (by decide) (by decide) (fun K hK => ?_) (fun K hK => ?_)
       ·
        skip
        refine goes_ Tryz.func19 (by kernel_rfl) rfl #[.agg #[.int .i64 t597, .slice Ao52 t598.length co52], .int .i64 a1_0, .int .i64 a1_1] (by rfl) rfl rfl (by (try simp only [List.map_toArray, List.map_cons, List.map_nil]); first | done | rfl | (simp only [List.length_drop, List.length_take]; rfl)) ?_; with_reducible refine (tariff_At.calls kj5 t597 _ _ t598 a1_0 a1_1 t601 t602 t603 t604 _ ?side1 ?side2 A26.out).mono ?_
        (case side1 => repeat (first | exact (Kd.R_reads' HO600.out).2.2 | (with_reducible refine Kd.C_alloc ?_ _) | (with_reducible refine Kd.C_drewN ?_ _) | (with_reducible refine Kd.C_drew ?_)))
        (case side2 => exact (Kd.R_reads' HO600.out).2.1)
        rintro e w53 ⟨rfl, hb⟩; refine ⟨_, rfl, ?_⟩; have n0_ := Aside0.mk (Kd.R_below (rG HO580.out) hb); have n1_ := Aside0.mk (Kd.R_below (rG HO584.out) hb); have n2_ := Aside0.mk (Kd.R_below (rG HO590.out) hb); have n3_ := Aside0.mk (Kd.R_below (rG HO594.out) hb); have n4_ := Aside0.mk (Kd.R_below (rG HO600.out) hb); have n5_ := Aside0.mk (blk_below (bG BK572.out) hb); have n6_ := Aside0.mk (blk_below (bG BK573.out) hb); have n7_ := Aside0.mk (blk_below (bG BK586.out) hb); have n8_ := Aside0.mk (blk_below (bG BK596.out) hb); have n9_ := Aside0.mk (below_step (eG HB.out) hb); clear HO580; clear HO584; clear HO590; clear HO594; clear HO600; clear BK572; clear BK573; clear BK586; clear BK596; clear HB; have HO580 := n0_; have HO584 := n1_; have HO590 := n2_; have HO594 := n3_; have HO600 := n4_; have BK572 := n5_; have BK573 := n6_; have BK586 := n7_; have BK596 := n8_; have HB := n9_; clear n0_ n1_ n2_ n3_ n4_ n5_ n6_ n7_ n8_ n9_; (try clear hb)
        (try clear hb2)
        (try clear hk)
        (try clear hi)
        refine hK.out _ _ ⟨(blk_cell BK586.out 0).trans rfl, (blk_cell BK586.out 1).trans rfl, (blk_cell BK573.out 0).trans rfl, (blk_cell BK573.out 1).trans rfl, (blk_cell BK573.out 2).trans rfl⟩ (fun hHeld => ?_); clear hK K; refine norm_ (a' := ?_) ?_ ?_; rotate_left
        ·
         show Act.put _ (some 58) _ = _
         simp only [Act.put, sIA, sC0, sCS, i64_w, i32_w]; rfl
        refine pure_ (i := 7) (N := some 51) (v := ?_) (a' := ?_) #[true, true, true, true, true, true, true, true, false, false, false, false, false] rfl rfl (any_of HT_.out (by kernel_rfl)) (fun _ _ _ h => h) (Or.inl ⟨by rfl, ?_⟩) ?_ ?_; rotate_left
        · intro w'; go_simp; with_reducible rfl
        rotate_left
        · simp only [Act.put, sIA, sC0, sCS, i64_w, i32_w]; rfl
        refine pure_ (i := 8) (N := some 59) (v := ?_) (a' := ?_) #[true, true, true, true, true, true, true, true, true, false, false, false, false] rfl rfl (any_of HT_.out (by kernel_rfl)) (fun _ _ _ h => h) (Or.inl ⟨by rfl, ?_⟩) ?_ ?_; rotate_left
        · intro w'; go_simp; with_reducible rfl
        rotate_left
        · simp only [Act.put, sIA, sC0, sCS, i64_w, i32_w]; rfl
        refine pure_ (i := 9) (N := some 60) (v := ?_) (a' := ?_) #[true, true, true, true, true, true, true, true, true, true, false, false, false] rfl rfl (any_of HT_.out (by kernel_rfl)) (fun _ _ _ h => h) (Or.inl ⟨by rfl, ?_⟩) ?_ ?_; rotate_left
        · intro w'; go_simp; with_reducible rfl
        rotate_left
        · simp only [Act.put, sIA, sC0, sCS, i64_w, i32_w]; rfl
        refine one_ (i := 10) (N := some 15) #[true, true, true, true, true, true, true, true, true, true, true, false, false] rfl rfl (one_of HT_.out (by kernel_rfl)) (by decide) (fun K hK => ?_); refine box_step ?hg (N := 15) ?hd (cs := #[.int .i64 0, .int .i64 0, .int .i64 0]) (t := 26) ?hr ?_; (case hd => rfl); (case hg => rfl); (case hr => first | (go_simp; done) | (go_simp; rfl))
        intro gb605 hg w54 hbox hb; have n0_ := Aside0.mk (Kd.R_below (Kd.R_elderB (rG HO580.out) gb605 (Nat.le_of_eq hg.symm)) hb); have n1_ := Aside0.mk (Kd.R_below (Kd.R_elderB (rG HO584.out) gb605 (Nat.le_of_eq hg.symm)) hb); have n2_ := Aside0.mk (Kd.R_below (Kd.R_elderB (rG HO590.out) gb605 (Nat.le_of_eq hg.symm)) hb); have n3_ := Aside0.mk (Kd.R_below (Kd.R_elderB (rG HO594.out) gb605 (Nat.le_of_eq hg.symm)) hb); have n4_ := Aside0.mk (Kd.R_below (Kd.R_elderB (rG HO600.out) gb605 (Nat.le_of_eq hg.symm)) hb); have n5_ := Aside0.mk (blk_below (bG BK572.out) hb); have n6_ := Aside0.mk (blk_below (bG BK573.out) hb); have n7_ := Aside0.mk (blk_below (bG BK586.out) hb); have n8_ := Aside0.mk (blk_below (bG BK596.out) hb); have n9_ := Aside0.mk (below_step (eG HB.out) hb); have n10_ := Aside0.mk (hbox); have n11_ := Aside0.mk ((by rw [hg]; exact (below_size (eG HB.out)) : w.heap.size ≤ gb605)); have n12_ := Aside0.mk ((by rw [hg]; exact (below_size (eG HB.out)) : w.heap.size ≤ gb605)); have n13_ := Aside0.mk ((by rw [hg]; exact Nat.ne_of_lt (blk_lt (bG BK572.out)) : gb572 ≠ gb605)); have n14_ := Aside0.mk ((by rw [hg]; exact Nat.ne_of_gt (blk_lt (bG BK572.out)) : gb605 ≠ gb572)); have n15_ := Aside0.mk ((by rw [hg]; exact Nat.ne_of_lt (blk_lt (bG BK573.out)) : gb573 ≠ gb605)); have n16_ := Aside0.mk ((by rw [hg]; exact Nat.ne_of_gt (blk_lt (bG BK573.out)) : gb605 ≠ gb573)); have n17_ := Aside0.mk ((by rw [hg]; exact Nat.ne_of_lt (blk_lt (bG BK586.out)) : gb586 ≠ gb605)); have n18_ := Aside0.mk ((by rw [hg]; exact Nat.ne_of_gt (blk_lt (bG BK586.out)) : gb605 ≠ gb586)); have n19_ := Aside0.mk ((by rw [hg]; exact Nat.ne_of_lt (blk_lt (bG BK596.out)) : gb596 ≠ gb605)); have n20_ := Aside0.mk ((by rw [hg]; exact Nat.ne_of_gt (blk_lt (bG BK596.out)) : gb605 ≠ gb596)); clear HO580; clear HO584; clear HO590; clear HO594; clear HO600; clear BK572; clear BK573; clear BK586; clear BK596; clear HB; have HO580 := n0_; have HO584 := n1_; have HO590 := n2_; have HO594 := n3_; have HO600 := n4_; have BK572 := n5_; have BK573 := n6_; have BK586 := n7_; have BK596 := n8_; have HB := n9_; have BK605 := n10_; have GW605 := n11_; have GE605 := n12_; have ig605_ := geI GE605
        have NB572_605 := n13_; have NB605_572 := n14_; have NB573_605 := n15_; have NB605_573 := n16_; have NB586_605 := n17_; have NB605_586 := n18_; have NB596_605 := n19_; have NB605_596 := n20_; clear n0_ n1_ n2_ n3_ n4_ n5_ n6_ n7_ n8_ n9_ n10_ n11_ n12_ n13_ n14_ n15_ n16_ n17_ n18_ n19_ n20_; clear hb hbox hg; refine hK.out _ _ ⟨(blk_cell BK586.out 0).trans rfl, (blk_cell BK586.out 1).trans rfl, (blk_cell BK573.out 0).trans rfl, (blk_cell BK573.out 1).trans rfl, (blk_cell BK573.out 2).trans rfl⟩ (fun hHeld => ?_); clear hK K; refine norm_ (a' := ?_) ?_ ?_; rotate_left
        ·
         show Act.put _ (some 15) _ = _
         simp only [Act.put, sIA, sC0, sCS, i64_w, i32_w]; rfl
        exact norm_ (by simp only [putAll, Act.put, sIA, sC0, sCS]) (hCont (.slice Ao52 t598.length co52, gb605) _ ⟨hHeld, (by (with_reducible repeat (first | apply Kd.R_alloc | apply Kd.R_drewN | apply Kd.R_drew)); exact Kd.R_mono HO580.out (fun _ hk => ⟨hk.1.1.1, ⟨hk.1.1.2.1, ⟨hk.1.1.2.2.1, ⟨hk.1.2, ⟨hk.1.1.2.2.2, hk.2⟩⟩⟩⟩⟩)), (by (with_reducible repeat (first | apply Kd.R_alloc | apply Kd.R_drewN | apply Kd.R_drew)); exact Kd.R_mono HO584.out (fun _ hk => ⟨hk.1.1.1, ⟨hk.1.1.2.1, ⟨hk.1.1.2.2.1, ⟨hk.1.2, ⟨hk.1.1.2.2.2, hk.2⟩⟩⟩⟩⟩)), (by (with_reducible repeat (first | apply Kd.R_alloc | apply Kd.R_drewN | apply Kd.R_drew)); exact Kd.R_mono HO590.out (fun _ hk => ⟨hk.1.1.1, ⟨hk.1.1.2.1, ⟨hk.1.1.2.2.1, ⟨hk.1.2, ⟨hk.1.1.2.2.2, hk.2⟩⟩⟩⟩⟩)), (by (with_reducible repeat (first | apply Kd.R_alloc | apply Kd.R_drewN | apply Kd.R_drew)); exact Kd.R_mono HO594.out (fun _ hk => ⟨hk.1.1.1, ⟨hk.1.1.2.1, ⟨hk.1.1.2.2.1, ⟨hk.1.2, ⟨hk.1.1.2.2.2, hk.2⟩⟩⟩⟩⟩)), (by (with_reducible repeat (first | apply Kd.R_alloc | apply Kd.R_drewN | apply Kd.R_drew)); exact Kd.R_mono HO600.out (fun _ hk => ⟨hk.1.1.1.1.1.2, ⟨hk.1.1.1.1.2, ⟨hk.1.1.1.2, ⟨hk.1.1.2, ⟨hk.1.2, hk.2⟩⟩⟩⟩⟩)), (bG BK572.out), (bG BK573.out), (bG BK586.out), (bG BK596.out), (bG BK605.out), GW605.out, GE605.out, NB572_605.out, NB605_572.out, NB573_605.out, NB605_573.out, NB586_605.out, NB605_586.out, NB596_605.out, NB605_596.out, (eG HB.out)⟩)
       ·
        skip
        refine box_step ?hg (N := 15) ?hd (cs := #[.int .i64 0, .int .i64 0, .int .i64 0]) (t := 26) ?hr ?_; (case hd => rfl); (case hg => rfl); (case hr => first | (go_simp; done) | (go_simp; rfl))
        intro gb605 hg w52 hbox hb; have n0_ := Aside0.mk (Kd.R_below (Kd.R_elderB (rG HO580.out) gb605 (Nat.le_of_eq hg.symm)) hb); have n1_ := Aside0.mk (Kd.R_below (Kd.R_elderB (rG HO584.out) gb605 (Nat.le_of_eq hg.symm)) hb); have n2_ := Aside0.mk (Kd.R_below (Kd.R_elderB (rG HO590.out) gb605 (Nat.le_of_eq hg.symm)) hb); have n3_ := Aside0.mk (Kd.R_below (Kd.R_elderB (rG HO594.out) gb605 (Nat.le_of_eq hg.symm)) hb); have n4_ := Aside0.mk (Kd.R_below (Kd.R_elderB (rG HO600.out) gb605 (Nat.le_of_eq hg.symm)) hb); have n5_ := Aside0.mk (blk_below (bG BK572.out) hb); have n6_ := Aside0.mk (blk_below (bG BK573.out) hb); have n7_ := Aside0.mk (blk_below (bG BK586.out) hb); have n8_ := Aside0.mk (blk_below (bG BK596.out) hb); have n9_ := Aside0.mk (below_step (eG HB.out) hb); have n10_ := Aside0.mk (hbox); have n11_ := Aside0.mk ((by rw [hg]; exact (below_size (eG HB.out)) : w.heap.size ≤ gb605)); have n12_ := Aside0.mk ((by rw [hg]; exact (below_size (eG HB.out)) : w.heap.size ≤ gb605)); have n13_ := Aside0.mk ((by rw [hg]; exact Nat.ne_of_lt (blk_lt (bG BK572.out)) : gb572 ≠ gb605)); have n14_ := Aside0.mk ((by rw [hg]; exact Nat.ne_of_gt (blk_lt (bG BK572.out)) : gb605 ≠ gb572)); have n15_ := Aside0.mk ((by rw [hg]; exact Nat.ne_of_lt (blk_lt (bG BK573.out)) : gb573 ≠ gb605)); have n16_ := Aside0.mk ((by rw [hg]; exact Nat.ne_of_gt (blk_lt (bG BK573.out)) : gb605 ≠ gb573)); have n17_ := Aside0.mk ((by rw [hg]; exact Nat.ne_of_lt (blk_lt (bG BK586.out)) : gb586 ≠ gb605)); have n18_ := Aside0.mk ((by rw [hg]; exact Nat.ne_of_gt (blk_lt (bG BK586.out)) : gb605 ≠ gb586)); have n19_ := Aside0.mk ((by rw [hg]; exact Nat.ne_of_lt (blk_lt (bG BK596.out)) : gb596 ≠ gb605)); have n20_ := Aside0.mk ((by rw [hg]; exact Nat.ne_of_gt (blk_lt (bG BK596.out)) : gb605 ≠ gb596)); clear HO580; clear HO584; clear HO590; clear HO594; clear HO600; clear BK572; clear BK573; clear BK586; clear BK596; clear HB; have HO580 := n0_; have HO584 := n1_; have HO590 := n2_; have HO594 := n3_; have HO600 := n4_; have BK572 := n5_; have BK573 := n6_; have BK586 := n7_; have BK596 := n8_; have HB := n9_; have BK605 := n10_; have GW605 := n11_; have GE605 := n12_; have ig605_ := geI GE605
        have NB572_605 := n13_; have NB605_572 := n14_; have NB573_605 := n15_; have NB605_573 := n16_; have NB586_605 := n17_; have NB605_586 := n18_; have NB596_605 := n19_; have NB605_596 := n20_; clear n0_ n1_ n2_ n3_ n4_ n5_ n6_ n7_ n8_ n9_ n10_ n11_ n12_ n13_ n14_ n15_ n16_ n17_ n18_ n19_ n20_; clear hb hbox hg; obtain ⟨Ao53, co53, eo53⟩ := Kd.R_slice HO600.out; (first | subst eo53 | (injection eo53 with f1_ f2_ f3_; have f4_ := f1_.symm; have f5_ := f3_.symm; clear f1_ f2_ f3_; subst f4_; subst f5_))
        refine hK.out _ _ ⟨(blk_cell BK586.out 0).trans rfl, (blk_cell BK586.out 1).trans rfl, (blk_cell BK573.out 0).trans rfl, (blk_cell BK573.out 1).trans rfl, (blk_cell BK573.out 2).trans rfl⟩ (fun hHeld => ?_); clear hK K; refine norm_ (a' := ?_) ?_ ?_; rotate_left
        ·
         show Act.put _ (some 15) _ = _
         simp only [Act.put, sIA, sC0, sCS, i64_w, i32_w]; rfl
        refine one_ (i := 6) (N := some 58) #[true, true, true, true, true, true, true, false, false, false, true, false, false] rfl rfl (one_of HT_.out (by kernel_rfl)) (by decide) (fun K hK => ?_); refine goes_ Tryz.func19 (by kernel_rfl) rfl #[.agg #[.int .i64 t597, .slice Ao53 t598.length co53], .int .i64 a1_0, .int .i64 a1_1] (by rfl) rfl rfl (by (try simp only [List.map_toArray, List.map_cons, List.map_nil]); first | done | rfl | (simp only [List.length_drop, List.length_take]; rfl)) ?_; with_reducible refine (tariff_At.calls kj5 t597 _ _ t598 a1_0 a1_1 t601 t602 t603 t604 _ ?side1 ?side2 A26.out).mono ?_
        (case side1 => repeat (first | exact (Kd.R_reads' HO600.out).2.2 | (with_reducible refine Kd.C_alloc ?_ _) | (with_reducible refine Kd.C_drewN ?_ _) | (with_reducible refine Kd.C_drew ?_)))
        (case side2 => exact (Kd.R_reads' HO600.out).2.1)
        rintro e w54 ⟨rfl, hb⟩; refine ⟨_, rfl, ?_⟩; have n0_ := Aside0.mk (Kd.R_below (rG HO580.out) hb); have n1_ := Aside0.mk (Kd.R_below (rG HO584.out) hb); have n2_ := Aside0.mk (Kd.R_below (rG HO590.out) hb); have n3_ := Aside0.mk (Kd.R_below (rG HO594.out) hb); have n4_ := Aside0.mk (Kd.R_below (rG HO600.out) hb); have n5_ := Aside0.mk (blk_below (bG BK572.out) hb); have n6_ := Aside0.mk (blk_below (bG BK573.out) hb); have n7_ := Aside0.mk (blk_below (bG BK586.out) hb); have n8_ := Aside0.mk (blk_below (bG BK596.out) hb); have n9_ := Aside0.mk (blk_below (bG BK605.out) hb); have n10_ := Aside0.mk (below_step (eG HB.out) hb); clear HO580; clear HO584; clear HO590; clear HO594; clear HO600; clear BK572; clear BK573; clear BK586; clear BK596; clear BK605; clear HB; have HO580 := n0_; have HO584 := n1_; have HO590 := n2_; have HO594 := n3_; have HO600 := n4_; have BK572 := n5_; have BK573 := n6_; have BK586 := n7_; have BK596 := n8_; have BK605 := n9_; have HB := n10_; clear n0_ n1_ n2_ n3_ n4_ n5_ n6_ n7_ n8_ n9_ n10_; (try clear hb)
        (try clear hb2)
        (try clear hk)
        (try clear hi)
        refine hK.out _ _ ⟨(blk_cell BK586.out 0).trans rfl, (blk_cell BK586.out 1).trans rfl, (blk_cell BK573.out 0).trans rfl, (blk_cell BK573.out 1).trans rfl, (blk_cell BK573.out 2).trans rfl⟩ (fun hHeld => ?_); clear hK K; refine norm_ (a' := ?_) ?_ ?_; rotate_left
        ·
         show Act.put _ (some 58) _ = _
         simp only [Act.put, sIA, sC0, sCS, i64_w, i32_w]; rfl
        refine pure_ (i := 7) (N := some 51) (v := ?_) (a' := ?_) #[true, true, true, true, true, true, true, true, false, false, true, false, false] rfl rfl (any_of HT_.out (by kernel_rfl)) (fun _ _ _ h => h) (Or.inl ⟨by rfl, ?_⟩) ?_ ?_; rotate_left
        · intro w'; go_simp; with_reducible rfl
        rotate_left
        · simp only [Act.put, sIA, sC0, sCS, i64_w, i32_w]; rfl
        refine pure_ (i := 8) (N := some 59) (v := ?_) (a' := ?_) #[true, true, true, true, true, true, true, true, true, false, true, false, false] rfl rfl (any_of HT_.out (by kernel_rfl)) (fun _ _ _ h => h) (Or.inl ⟨by rfl, ?_⟩) ?_ ?_; rotate_left
        · intro w'; go_simp; with_reducible rfl
        rotate_left
        · simp only [Act.put, sIA, sC0, sCS, i64_w, i32_w]; rfl
        refine pure_ (i := 9) (N := some 60) (v := ?_) (a' := ?_) #[true, true, true, true, true, true, true, true, true, true, true, false, false] rfl rfl (any_of HT_.out (by kernel_rfl)) (fun _ _ _ h => h) (Or.inl ⟨by rfl, ?_⟩) ?_ ?_; rotate_left
        · intro w'; go_simp; with_reducible rfl
        rotate_left
        · simp only [Act.put, sIA, sC0, sCS, i64_w, i32_w]; rfl
        exact norm_ (by simp only [putAll, Act.put, sIA, sC0, sCS]) (hCont (.slice Ao53 t598.length co53, gb605) _ ⟨hHeld, (by (with_reducible repeat (first | apply Kd.R_alloc | apply Kd.R_drewN | apply Kd.R_drew)); exact Kd.R_mono HO580.out (fun _ hk => ⟨hk.1.1.1, ⟨hk.1.1.2.1, ⟨hk.1.1.2.2.1, ⟨hk.1.2, ⟨hk.1.1.2.2.2, hk.2⟩⟩⟩⟩⟩)), (by (with_reducible repeat (first | apply Kd.R_alloc | apply Kd.R_drewN | apply Kd.R_drew)); exact Kd.R_mono HO584.out (fun _ hk => ⟨hk.1.1.1, ⟨hk.1.1.2.1, ⟨hk.1.1.2.2.1, ⟨hk.1.2, ⟨hk.1.1.2.2.2, hk.2⟩⟩⟩⟩⟩)), (by (with_reducible repeat (first | apply Kd.R_alloc | apply Kd.R_drewN | apply Kd.R_drew)); exact Kd.R_mono HO590.out (fun _ hk => ⟨hk.1.1.1, ⟨hk.1.1.2.1, ⟨hk.1.1.2.2.1, ⟨hk.1.2, ⟨hk.1.1.2.2.2, hk.2⟩⟩⟩⟩⟩)), (by (with_reducible repeat (first | apply Kd.R_alloc | apply Kd.R_drewN | apply Kd.R_drew)); exact Kd.R_mono HO594.out (fun _ hk => ⟨hk.1.1.1, ⟨hk.1.1.2.1, ⟨hk.1.1.2.2.1, ⟨hk.1.2, ⟨hk.1.1.2.2.2, hk.2⟩⟩⟩⟩⟩)), (by (with_reducible repeat (first | apply Kd.R_alloc | apply Kd.R_drewN | apply Kd.R_drew)); exact Kd.R_mono HO600.out (fun _ hk => ⟨hk.1.1.1.1.1.2, ⟨hk.1.1.1.1.2, ⟨hk.1.1.1.2, ⟨hk.1.1.2, ⟨hk.1.2, hk.2⟩⟩⟩⟩⟩)), (bG BK572.out), (bG BK573.out), (bG BK586.out), (bG BK596.out), (bG BK605.out), GW605.out, GE605.out, NB572_605.out, NB605_572.out, NB573_605.out, NB605_573.out, NB586_605.out, NB605_586.out, NB596_605.out, NB605_596.out, (eG HB.out)⟩)
      ·
       skip
       refine box_step ?hg (N := 15) ?hd (cs := #[.int .i64 0, .int .i64 0, .int .i64 0]) (t := 26) ?hr ?_; (case hd => rfl); (case hg => rfl); (case hr => first | (go_simp; done) | (go_simp; rfl))
       intro gb605 hg w51 hbox hb; have n0_ := Aside0.mk (Kd.R_below (Kd.R_elderB (rG HO580.out) gb605 (Nat.le_of_eq hg.symm)) hb); have n1_ := Aside0.mk (Kd.R_below (Kd.R_elderB (rG HO584.out) gb605 (Nat.le_of_eq hg.symm)) hb); have n2_ := Aside0.mk (Kd.R_below (Kd.R_elderB (rG HO590.out) gb605 (Nat.le_of_eq hg.symm)) hb); have n3_ := Aside0.mk (Kd.R_below (Kd.R_elderB (rG HO594.out) gb605 (Nat.le_of_eq hg.symm)) hb); have n4_ := Aside0.mk (blk_below (bG BK572.out) hb); have n5_ := Aside0.mk (blk_below (bG BK573.out) hb); have n6_ := Aside0.mk (blk_below (bG BK586.out) hb); have n7_ := Aside0.mk (blk_below (bG BK596.out) hb); have n8_ := Aside0.mk (below_step (eG HB.out) hb); have n9_ := Aside0.mk (hbox); have n10_ := Aside0.mk ((by rw [hg]; exact (below_size (eG HB.out)) : w.heap.size ≤ gb605)); have n11_ := Aside0.mk ((by rw [hg]; exact (below_size (eG HB.out)) : w.heap.size ≤ gb605)); have n12_ := Aside0.mk ((by rw [hg]; exact Nat.ne_of_lt (blk_lt (bG BK572.out)) : gb572 ≠ gb605)); have n13_ := Aside0.mk ((by rw [hg]; exact Nat.ne_of_gt (blk_lt (bG BK572.out)) : gb605 ≠ gb572)); have n14_ := Aside0.mk ((by rw [hg]; exact Nat.ne_of_lt (blk_lt (bG BK573.out)) : gb573 ≠ gb605)); have n15_ := Aside0.mk ((by rw [hg]; exact Nat.ne_of_gt (blk_lt (bG BK573.out)) : gb605 ≠ gb573)); have n16_ := Aside0.mk ((by rw [hg]; exact Nat.ne_of_lt (blk_lt (bG BK586.out)) : gb586 ≠ gb605)); have n17_ := Aside0.mk ((by rw [hg]; exact Nat.ne_of_gt (blk_lt (bG BK586.out)) : gb605 ≠ gb586)); have n18_ := Aside0.mk ((by rw [hg]; exact Nat.ne_of_lt (blk_lt (bG BK596.out)) : gb596 ≠ gb605)); have n19_ := Aside0.mk ((by rw [hg]; exact Nat.ne_of_gt (blk_lt (bG BK596.out)) : gb605 ≠ gb596)); clear HO580; clear HO584; clear HO590; clear HO594; clear BK572; clear BK573; clear BK586; clear BK596; clear HB; have HO580 := n0_; have HO584 := n1_; have HO590 := n2_; have HO594 := n3_; have BK572 := n4_; have BK573 := n5_; have BK586 := n6_; have BK596 := n7_; have HB := n8_; have BK605 := n9_; have GW605 := n10_; have GE605 := n11_; have ig605_ := geI GE605
       have NB572_605 := n12_; have NB605_572 := n13_; have NB573_605 := n14_; have NB605_573 := n15_; have NB586_605 := n16_; have NB605_586 := n17_; have NB596_605 := n18_; have NB605_596 := n19_; clear n0_ n1_ n2_ n3_ n4_ n5_ n6_ n7_ n8_ n9_ n10_ n11_ n12_ n13_ n14_ n15_ n16_ n17_ n18_ n19_; clear hb hbox hg; refine hK.out _ _ ⟨(blk_cell BK586.out 0).trans rfl, (blk_cell BK586.out 1).trans rfl, (blk_cell BK573.out 0).trans rfl, (blk_cell BK573.out 1).trans rfl, (blk_cell BK573.out 2).trans rfl⟩ (fun hHeld => ?_); clear hK K; refine norm_ (a' := ?_) ?_ ?_; rotate_left
       ·
        show Act.put _ (some 15) _ = _
        simp only [Act.put, sIA, sC0, sCS, i64_w, i32_w]; rfl
       refine one_ (i := 1) (N := some 53) #[true, true, true, true, true, true, false, false, false, false, true, false, false] rfl rfl (one_of HT_.out (by kernel_rfl)) (by decide) (fun K hK => ?_); refine goes_ Tryz.func14 (by kernel_rfl) rfl #[.agg #[.int .i64 t581, .slice Ao37 t582.length co37]] (by rfl) rfl rfl (by (try simp only [List.map_toArray, List.map_cons, List.map_nil]); first | done | rfl | (simp only [List.length_drop, List.length_take]; rfl)) ?_; with_reducible refine (spilelaw46_cp.calls t581 _ _ t582 t597 t598 _ ?side1 ?side2 A25.out).mono ?_
       (case side1 => repeat (first | exact (Kd.R_reads' HO584.out).2.2 | (with_reducible refine Kd.C_alloc ?_ _) | (with_reducible refine Kd.C_drewN ?_ _) | (with_reducible refine Kd.C_drew ?_)))
       (case side2 => exact (Kd.R_reads' HO584.out).2.1)
       rintro e w52 ⟨v599, rfl, ho0, hb⟩; refine ⟨_, rfl, ?_⟩; have n0_ := Aside0.mk (Kd.R_elder' (rG HO580.out) (Kd.R_base ho0) hb); have n1_ := Aside0.mk (Kd.R_elder' (rG HO584.out) (Kd.R_base ho0) hb); have n2_ := Aside0.mk (Kd.R_elder' (rG HO590.out) (Kd.R_base ho0) hb); have n3_ := Aside0.mk (Kd.R_elder' (rG HO594.out) (Kd.R_base ho0) hb); have n4_ := Aside0.mk (Kd.R_lower (Kd.R_newB (Kd.R_newB (Kd.R_new' (Kd.R_new' (Kd.R_new' (Kd.R_new' ho0 (Kd.R_lt (rG HO580.out))) (Kd.R_lt (rG HO584.out))) (Kd.R_lt (rG HO590.out))) (Kd.R_lt (rG HO594.out))) (bG BK573.out)) (bG BK605.out)) (below_size (eG HB.out))); have n5_ := Aside0.mk (blk_below (bG BK572.out) hb); have n6_ := Aside0.mk (blk_below (bG BK573.out) hb); have n7_ := Aside0.mk (blk_below (bG BK586.out) hb); have n8_ := Aside0.mk (blk_below (bG BK596.out) hb); have n9_ := Aside0.mk (blk_below (bG BK605.out) hb); have n10_ := Aside0.mk (below_step (eG HB.out) hb); clear HO580; clear HO584; clear HO590; clear HO594; clear BK572; clear BK573; clear BK586; clear BK596; clear BK605; clear HB; have HO580 := n0_; have HO584 := n1_; have HO590 := n2_; have HO594 := n3_; have HO600 := n4_; have BK572 := n5_; have BK573 := n6_; have BK586 := n7_; have BK596 := n8_; have BK605 := n9_; have HB := n10_; clear n0_ n1_ n2_ n3_ n4_ n5_ n6_ n7_ n8_ n9_ n10_; (try clear hb)
       (try clear hb2)
       (try clear hk)
       (try clear hi)
       (try clear ho0)
       obtain ⟨Ao53, co53, eo53⟩ := Kd.R_slice HO600.out; (first | subst eo53 | (injection eo53 with f1_ f2_ f3_; have f4_ := f1_.symm; have f5_ := f3_.symm; clear f1_ f2_ f3_; subst f4_; subst f5_))
       refine hK.out _ _ ⟨(blk_cell BK586.out 0).trans rfl, (blk_cell BK586.out 1).trans rfl, (blk_cell BK573.out 0).trans rfl, (blk_cell BK573.out 1).trans rfl, (blk_cell BK573.out 2).trans rfl⟩ (fun hHeld => ?_); clear hK K; refine norm_ (a' := ?_) ?_ ?_; rotate_left
       ·
        show Act.put _ (some 53) _ = _
        simp only [Act.put, sIA, sC0, sCS, i64_w, i32_w]; rfl
       refine one_ (i := 6) (N := some 58) #[true, true, true, true, true, true, true, false, false, false, true, false, false] rfl rfl (one_of HT_.out (by kernel_rfl)) (by decide) (fun K hK => ?_); refine goes_ Tryz.func19 (by kernel_rfl) rfl #[.agg #[.int .i64 t597, .slice Ao53 t598.length co53], .int .i64 a1_0, .int .i64 a1_1] (by rfl) rfl rfl (by (try simp only [List.map_toArray, List.map_cons, List.map_nil]); first | done | rfl | (simp only [List.length_drop, List.length_take]; rfl)) ?_; with_reducible refine (tariff_At.calls kj5 t597 _ _ t598 a1_0 a1_1 t601 t602 t603 t604 _ ?side1 ?side2 A26.out).mono ?_
       (case side1 => repeat (first | exact (Kd.R_reads' HO600.out).2.2 | (with_reducible refine Kd.C_alloc ?_ _) | (with_reducible refine Kd.C_drewN ?_ _) | (with_reducible refine Kd.C_drew ?_)))
       (case side2 => exact (Kd.R_reads' HO600.out).2.1)
       rintro e w54 ⟨rfl, hb⟩; refine ⟨_, rfl, ?_⟩; have n0_ := Aside0.mk (Kd.R_below (rG HO580.out) hb); have n1_ := Aside0.mk (Kd.R_below (rG HO584.out) hb); have n2_ := Aside0.mk (Kd.R_below (rG HO590.out) hb); have n3_ := Aside0.mk (Kd.R_below (rG HO594.out) hb); have n4_ := Aside0.mk (Kd.R_below (rG HO600.out) hb); have n5_ := Aside0.mk (blk_below (bG BK572.out) hb); have n6_ := Aside0.mk (blk_below (bG BK573.out) hb); have n7_ := Aside0.mk (blk_below (bG BK586.out) hb); have n8_ := Aside0.mk (blk_below (bG BK596.out) hb); have n9_ := Aside0.mk (blk_below (bG BK605.out) hb); have n10_ := Aside0.mk (below_step (eG HB.out) hb); clear HO580; clear HO584; clear HO590; clear HO594; clear HO600; clear BK572; clear BK573; clear BK586; clear BK596; clear BK605; clear HB; have HO580 := n0_; have HO584 := n1_; have HO590 := n2_; have HO594 := n3_; have HO600 := n4_; have BK572 := n5_; have BK573 := n6_; have BK586 := n7_; have BK596 := n8_; have BK605 := n9_; have HB := n10_; clear n0_ n1_ n2_ n3_ n4_ n5_ n6_ n7_ n8_ n9_ n10_; (try clear hb)
       (try clear hb2)
       (try clear hk)
       (try clear hi)
       refine hK.out _ _ ⟨(blk_cell BK586.out 0).trans rfl, (blk_cell BK586.out 1).trans rfl, (blk_cell BK573.out 0).trans rfl, (blk_cell BK573.out 1).trans rfl, (blk_cell BK573.out 2).trans rfl⟩ (fun hHeld => ?_); clear hK K; refine norm_ (a' := ?_) ?_ ?_; rotate_left
       ·
        show Act.put _ (some 58) _ = _
        simp only [Act.put, sIA, sC0, sCS, i64_w, i32_w]; rfl
       refine pure_ (i := 7) (N := some 51) (v := ?_) (a' := ?_) #[true, true, true, true, true, true, true, true, false, false, true, false, false] rfl rfl (any_of HT_.out (by kernel_rfl)) (fun _ _ _ h => h) (Or.inl ⟨by rfl, ?_⟩) ?_ ?_; rotate_left
       · intro w'; go_simp; with_reducible rfl
       rotate_left
       · simp only [Act.put, sIA, sC0, sCS, i64_w, i32_w]; rfl
       refine pure_ (i := 8) (N := some 59) (v := ?_) (a' := ?_) #[true, true, true, true, true, true, true, true, true, false, true, false, false] rfl rfl (any_of HT_.out (by kernel_rfl)) (fun _ _ _ h => h) (Or.inl ⟨by rfl, ?_⟩) ?_ ?_; rotate_left
       · intro w'; go_simp; with_reducible rfl
       rotate_left
       · simp only [Act.put, sIA, sC0, sCS, i64_w, i32_w]; rfl
       refine pure_ (i := 9) (N := some 60) (v := ?_) (a' := ?_) #[true, true, true, true, true, true, true, true, true, true, true, false, false] rfl rfl (any_of HT_.out (by kernel_rfl)) (fun _ _ _ h => h) (Or.inl ⟨by rfl, ?_⟩) ?_ ?_; rotate_left
       · intro w'; go_simp; with_reducible rfl
       rotate_left
       · simp only [Act.put, sIA, sC0, sCS, i64_w, i32_w]; rfl
       exact norm_ (by simp only [putAll, Act.put, sIA, sC0, sCS]) (hCont (.slice Ao53 t598.length co53, gb605) _ ⟨hHeld, (by (with_reducible repeat (first | apply Kd.R_alloc | apply Kd.R_drewN | apply Kd.R_drew)); exact Kd.R_mono HO580.out (fun _ hk => ⟨hk.1.1.1, ⟨hk.1.1.2.1, ⟨hk.1.1.2.2.1, ⟨hk.2, ⟨hk.1.1.2.2.2, hk.1.2⟩⟩⟩⟩⟩)), (by (with_reducible repeat (first | apply Kd.R_alloc | apply Kd.R_drewN | apply Kd.R_drew)); exact Kd.R_mono HO584.out (fun _ hk => ⟨hk.1.1.1, ⟨hk.1.1.2.1, ⟨hk.1.1.2.2.1, ⟨hk.2, ⟨hk.1.1.2.2.2, hk.1.2⟩⟩⟩⟩⟩)), (by (with_reducible repeat (first | apply Kd.R_alloc | apply Kd.R_drewN | apply Kd.R_drew)); exact Kd.R_mono HO590.out (fun _ hk => ⟨hk.1.1.1, ⟨hk.1.1.2.1, ⟨hk.1.1.2.2.1, ⟨hk.2, ⟨hk.1.1.2.2.2, hk.1.2⟩⟩⟩⟩⟩)), (by (with_reducible repeat (first | apply Kd.R_alloc | apply Kd.R_drewN | apply Kd.R_drew)); exact Kd.R_mono HO594.out (fun _ hk => ⟨hk.1.1.1, ⟨hk.1.1.2.1, ⟨hk.1.1.2.2.1, ⟨hk.2, ⟨hk.1.1.2.2.2, hk.1.2⟩⟩⟩⟩⟩)), (by (with_reducible repeat (first | apply Kd.R_alloc | apply Kd.R_drewN | apply Kd.R_drew)); exact Kd.R_mono HO600.out (fun _ hk => ⟨hk.1.1.1.1.1.2, ⟨hk.1.1.1.1.2, ⟨hk.1.1.1.2, ⟨hk.1.1.2, ⟨hk.1.2, hk.2⟩⟩⟩⟩⟩)), (bG BK572.out), (bG BK573.out), (bG BK586.out), (bG BK596.out), (bG BK605.out), GW605.out, GE605.out, NB572_605.out, NB605_572.out, NB573_605.out, NB605_573.out, NB586_605.out, NB605_586.out, NB596_605.out, NB605_596.out, (eG HB.out)⟩)
     rintro ⟨v599, gb605⟩ w55 ⟨hS_, h0_, h1_, h2_, h3_, h4_, h5_, h6_, h7_, h8_, h9_, h10_, h11_, h12_, h13_, h14_, h15_, h16_, h17_, h18_, h19_, h20_⟩; have n0_ : Aside0 (Kd.R k26 26 w55 w.heap.size (fun k_ => some k_ ≠ (.slice Ao37 t582.length co37 : Value).ownBlock ∧ some k_ ≠ (v589 : Value).ownBlock ∧ some k_ ≠ (.slice Ao47 t592.length co47 : Value).ownBlock ∧ some k_ ≠ (v599 : Value).ownBlock ∧ k_ ≠ gb573 ∧ k_ ≠ gb605) v579 t578) := ⟨h0_⟩; have n1_ : Aside0 (Kd.R k26 26 w55 w.heap.size (fun k_ => some k_ ≠ (v579 : Value).ownBlock ∧ some k_ ≠ (v589 : Value).ownBlock ∧ some k_ ≠ (.slice Ao47 t592.length co47 : Value).ownBlock ∧ some k_ ≠ (v599 : Value).ownBlock ∧ k_ ≠ gb573 ∧ k_ ≠ gb605) (.slice Ao37 t582.length co37) t582) := ⟨h1_⟩; have n2_ : Aside0 (Kd.R k26 26 w55 w.heap.size (fun k_ => some k_ ≠ (v579 : Value).ownBlock ∧ some k_ ≠ (.slice Ao37 t582.length co37 : Value).ownBlock ∧ some k_ ≠ (.slice Ao47 t592.length co47 : Value).ownBlock ∧ some k_ ≠ (v599 : Value).ownBlock ∧ k_ ≠ gb573 ∧ k_ ≠ gb605) v589 t588) := ⟨h2_⟩; have n3_ : Aside0 (Kd.R k26 26 w55 w.heap.size (fun k_ => some k_ ≠ (v579 : Value).ownBlock ∧ some k_ ≠ (.slice Ao37 t582.length co37 : Value).ownBlock ∧ some k_ ≠ (v589 : Value).ownBlock ∧ some k_ ≠ (v599 : Value).ownBlock ∧ k_ ≠ gb573 ∧ k_ ≠ gb605) (.slice Ao47 t592.length co47) t592) := ⟨h3_⟩; have n4_ : Aside0 (Kd.R k26 26 w55 w.heap.size (fun k_ => some k_ ≠ (v579 : Value).ownBlock ∧ some k_ ≠ (.slice Ao37 t582.length co37 : Value).ownBlock ∧ some k_ ≠ (v589 : Value).ownBlock ∧ some k_ ≠ (.slice Ao47 t592.length co47 : Value).ownBlock ∧ k_ ≠ gb573 ∧ k_ ≠ gb605) v599 t598) := ⟨h4_⟩; have n5_ : Aside0 (w55.heap[gb572]? = some (.cells #[.int .i64 a0_0, .slice A0_1 l0_1.length c0_1] 24 (0, 0))) := ⟨h5_⟩; have n6_ : Aside0 (w55.heap[gb573]? = some (.cells #[.int .i64 a1_0, .int .i64 a1_1, .int .i64 a1_2] 26 (0, 0))) := ⟨h6_⟩; have n7_ : Aside0 (w55.heap[gb586]? = some (.cells #[.int .i64 t581, .slice Ao37 t582.length co37] 24 (0, 0))) := ⟨h7_⟩; have n8_ : Aside0 (w55.heap[gb596]? = some (.cells #[.int .i64 t591, .slice Ao47 t592.length co47] 24 (0, 0))) := ⟨h8_⟩; have n9_ : Aside0 (w55.heap[gb605]? = some (.cells #[.int .i64 0, .int .i64 0, .int .i64 0] 26 (0, 0))) := ⟨h9_⟩; have n10_ : Aside0 (w.heap.size ≤ gb605) := ⟨h10_⟩; have n11_ : Aside0 (w.heap.size ≤ gb605) := ⟨h11_⟩; have n12_ : Aside0 (gb572 ≠ gb605) := ⟨h12_⟩; have n13_ : Aside0 (gb605 ≠ gb572) := ⟨h13_⟩; have n14_ : Aside0 (gb573 ≠ gb605) := ⟨h14_⟩; have n15_ : Aside0 (gb605 ≠ gb573) := ⟨h15_⟩; have n16_ : Aside0 (gb586 ≠ gb605) := ⟨h16_⟩; have n17_ : Aside0 (gb605 ≠ gb586) := ⟨h17_⟩; have n18_ : Aside0 (gb596 ≠ gb605) := ⟨h18_⟩; have n19_ : Aside0 (gb605 ≠ gb596) := ⟨h19_⟩; have n20_ : Aside0 (Below w.heap.size w w55) := ⟨h20_⟩; clear HO580; clear HO584; clear HO590; clear HO594; clear BK572; clear BK573; clear BK586; clear BK596; clear HB; clear h0_ h1_ h2_ h3_ h4_ h5_ h6_ h7_ h8_ h9_ h10_ h11_ h12_ h13_ h14_ h15_ h16_ h17_ h18_ h19_ h20_; have HO580 := n0_; have HO584 := n1_; have HO590 := n2_; have HO594 := n3_; have HO600 := n4_; have BK572 := n5_; have BK573 := n6_; have BK586 := n7_; have BK596 := n8_; have BK605 := n9_; have GW605 := n10_; have GE605 := n11_; have ig605_ := geI GE605
     have NB572_605 := n12_; have NB605_572 := n13_; have NB573_605 := n14_; have NB605_573 := n15_; have NB586_605 := n16_; have NB605_586 := n17_; have NB596_605 := n18_; have NB605_596 := n19_; have HB := n20_; clear n0_ n1_ n2_ n3_ n4_ n5_ n6_ n7_ n8_ n9_ n10_ n11_ n12_ n13_ n14_ n15_ n16_ n17_ n18_ n19_ n20_; have hHeld : w55.cell? ⟨gb586, 0, none⟩ = some (.int .i64 t581) ∧ w55.cell? ⟨gb586, 1, none⟩ = some (.slice Ao37 t582.length co37) ∧ w55.cell? ⟨gb573, 0, none⟩ = some (.int .i64 a1_0) ∧ w55.cell? ⟨gb573, 1, none⟩ = some (.int .i64 a1_1) ∧ w55.cell? ⟨gb573, 2, none⟩ = some (.int .i64 a1_2) := hS_; refine norm_ (a' := ?_) ?_ ?_; rotate_left
     · simp only [putAll, Act.put, sIA, sC0, sCS]; rfl
     refine one_ (i := 11) (N := none) #[true, true, true, true, true, true, true, true, true, true, true, true, false] rfl rfl (one_of HT_.out (by kernel_rfl)) (by decide) (fun K hK => ?_); have hs56 : w55.cell? ⟨gb605, 0, none⟩ = some (.int .i64 0) := (blk_cell BK605.out 0).trans rfl; have hfs56 := blk_frozen BK605.out 0; have hns56_0 := NB572_605.out; have hns56_1 := NB573_605.out; have hns56_2 := NB586_605.out; have hns56_3 := NB596_605.out; have hms56_0 := NB605_572.out; have hms56_1 := NB605_573.out; have hms56_2 := NB605_586.out; have hms56_3 := NB605_596.out; have hs57 : w55.cell? ⟨gb605, 1, none⟩ = some (.int .i64 0) := (blk_cell BK605.out 1).trans rfl; have hfs57 := blk_frozen BK605.out 1; have hns57_0 := NB572_605.out; have hns57_1 := NB573_605.out; have hns57_2 := NB586_605.out; have hns57_3 := NB596_605.out; have hms57_0 := NB605_572.out; have hms57_1 := NB605_573.out; have hms57_2 := NB605_586.out; have hms57_3 := NB605_596.out; have hs58 : w55.cell? ⟨gb605, 2, none⟩ = some (.int .i64 0) := (blk_cell BK605.out 2).trans rfl; have hfs58 := blk_frozen BK605.out 2; have hns58_0 := NB572_605.out; have hns58_1 := NB573_605.out; have hns58_2 := NB586_605.out; have hns58_3 := NB596_605.out; have hms58_0 := NB605_572.out; have hms58_1 := NB605_573.out; have hms58_2 := NB605_586.out; have hms58_3 := NB605_596.out; refine skip_ (w1 := ?_) (by rfl) rfl ?_ ?_; rotate_left
     · go_simp; rfl
     refine hK.out _ _ ⟨((cell_far (p := ⟨gb605, _, none⟩) NB586_605.out _).trans (((cell_far (p := ⟨gb605, _, none⟩) NB586_605.out _).trans (((cell_far (p := ⟨gb605, _, none⟩) NB586_605.out _).trans (hHeld.1)))))), ((cell_far (p := ⟨gb605, _, none⟩) NB586_605.out _).trans (((cell_far (p := ⟨gb605, _, none⟩) NB586_605.out _).trans (((cell_far (p := ⟨gb605, _, none⟩) NB586_605.out _).trans (hHeld.2.1)))))), ((cell_far (p := ⟨gb605, _, none⟩) NB573_605.out _).trans (((cell_far (p := ⟨gb605, _, none⟩) NB573_605.out _).trans (((cell_far (p := ⟨gb605, _, none⟩) NB573_605.out _).trans (hHeld.2.2.1)))))), ((cell_far (p := ⟨gb605, _, none⟩) NB573_605.out _).trans (((cell_far (p := ⟨gb605, _, none⟩) NB573_605.out _).trans (((cell_far (p := ⟨gb605, _, none⟩) NB573_605.out _).trans (hHeld.2.2.2.1)))))), ((cell_far (p := ⟨gb605, _, none⟩) NB573_605.out _).trans (((cell_far (p := ⟨gb605, _, none⟩) NB573_605.out _).trans (((cell_far (p := ⟨gb605, _, none⟩) NB573_605.out _).trans (hHeld.2.2.2.2))))))⟩ (fun hHeld => ?_); clear hK K; refine pure_ (i := 12) (N := some 16) (v := ?_) (a' := ?_) #[true, true, true, true, true, true, true, true, true, true, true, true, true] rfl rfl (any_of HT_.out (by kernel_rfl)) (fun _ _ _ h => h) (Or.inl ⟨by rfl, ?_⟩) ?_ ?_; rotate_left
     · intro w'; go_simp; with_reducible rfl
     rotate_left
     · simp only [Act.put, sIA, sC0, sCS, i64_w, i32_w]; rfl
     refine done_ (done_of HT_.out (by kernel_rfl)) ?_; have hnb59 := NB586_572.out; have hnc59 := NB572_586.out; have hnb60 := NB586_573.out; have hnc60 := NB573_586.out; have hnb61 := NB586_596.out; have hnc61 := NB596_586.out; have hnb62 := NB586_605.out; have hnc62 := NB605_586.out; have hcz63_0 : w55.cell? ⟨gb586, 0, none⟩ = some (.int .i64 t581) := (blk_cell BK586.out 0).trans rfl; have hcz63_1 : w55.cell? ⟨gb586, 1, none⟩ = some (.slice Ao37 t582.length co37) := (blk_cell BK586.out 1).trans rfl; have hfz63_0 := blk_frozen BK586.out 0; have hfz63_1 := blk_frozen BK586.out 1; go_upto_region 9 with (first | ((with_reducible refine gate_callee (f := 14) rfl ?_); refine goesL_ (some 63) rfl rfl Tryz.func14 (by kernel_rfl) rfl #[.agg #[.int .i64 t581, .slice Ao37 t582.length co37]] rfl (by (try simp only [List.map_toArray, List.map_cons, List.map_nil]); first | done | rfl | (simp only [List.length_drop, List.length_take]; rfl)) ?_; (with_reducible refine (spilelaw46_cp.calls t581 _ _ t582 t606 t607 _ ?side1 ?side2 A27.out).mono ?_); (case side1 => refine (Kd.R_reads' (e := 26) (base := w.heap.size) (ok := fun k_ => (some k_ ≠ (v579 : Value).ownBlock ∧ (some k_ ≠ (v589 : Value).ownBlock ∧ (some k_ ≠ (.slice Ao47 t592.length co47 : Value).ownBlock ∧ (some k_ ≠ (v599 : Value).ownBlock ∧ (k_ ≠ gb573 ∧ k_ ≠ gb605)))))) (n := t582.length) (c := co37) ?_).2.2; exact (by (with_reducible repeat (first | apply Kd.R_alloc | apply Kd.R_drewN | apply Kd.R_drew)); exact (Kd.R_mono (Kd.R_far (p := ⟨gb605, 2, none⟩) (Kd.R_far (p := ⟨gb605, 1, none⟩) (Kd.R_far (p := ⟨gb605, 0, none⟩) (Kd.R_mono HO584.out (fun k_ hk => (⟨hk, hk.2.2.2.2.2⟩ : _ ∧ k_ ≠ gb605))) (fun _ hk => hk.2) (.int .i64 t601)) (fun _ hk => hk.2) (.int .i64 t602)) (fun _ hk => hk.2) (.int .i64 t603)) (fun _ h_ => h_.1)))); (case side2 => exact (Kd.R_reads' HO584.out).2.1); rintro e w64 ⟨v608, rfl, ho0, hb⟩; refine ⟨_, rfl, ?_⟩; have n0_ := Aside0.mk (Kd.R_elder' (by (with_reducible repeat (first | apply Kd.R_alloc | apply Kd.R_drewN | apply Kd.R_drew)); exact (Kd.R_mono (Kd.R_far (p := ⟨gb605, 2, none⟩) (Kd.R_far (p := ⟨gb605, 1, none⟩) (Kd.R_far (p := ⟨gb605, 0, none⟩) (Kd.R_mono HO580.out (fun k_ hk => (⟨hk, hk.2.2.2.2.2⟩ : _ ∧ k_ ≠ gb605))) (fun _ hk => hk.2) (.int .i64 t601)) (fun _ hk => hk.2) (.int .i64 t602)) (fun _ hk => hk.2) (.int .i64 t603)) (fun _ h_ => h_.1))) (Kd.R_base ho0) hb); have n1_ := Aside0.mk (Kd.R_elder' (by (with_reducible repeat (first | apply Kd.R_alloc | apply Kd.R_drewN | apply Kd.R_drew)); exact (Kd.R_mono (Kd.R_far (p := ⟨gb605, 2, none⟩) (Kd.R_far (p := ⟨gb605, 1, none⟩) (Kd.R_far (p := ⟨gb605, 0, none⟩) (Kd.R_mono HO584.out (fun k_ hk => (⟨hk, hk.2.2.2.2.2⟩ : _ ∧ k_ ≠ gb605))) (fun _ hk => hk.2) (.int .i64 t601)) (fun _ hk => hk.2) (.int .i64 t602)) (fun _ hk => hk.2) (.int .i64 t603)) (fun _ h_ => h_.1))) (Kd.R_base ho0) hb); have n2_ := Aside0.mk (Kd.R_elder' (by (with_reducible repeat (first | apply Kd.R_alloc | apply Kd.R_drewN | apply Kd.R_drew)); exact (Kd.R_mono (Kd.R_far (p := ⟨gb605, 2, none⟩) (Kd.R_far (p := ⟨gb605, 1, none⟩) (Kd.R_far (p := ⟨gb605, 0, none⟩) (Kd.R_mono HO590.out (fun k_ hk => (⟨hk, hk.2.2.2.2.2⟩ : _ ∧ k_ ≠ gb605))) (fun _ hk => hk.2) (.int .i64 t601)) (fun _ hk => hk.2) (.int .i64 t602)) (fun _ hk => hk.2) (.int .i64 t603)) (fun _ h_ => h_.1))) (Kd.R_base ho0) hb); have n3_ := Aside0.mk (Kd.R_elder' (by (with_reducible repeat (first | apply Kd.R_alloc | apply Kd.R_drewN | apply Kd.R_drew)); exact (Kd.R_mono (Kd.R_far (p := ⟨gb605, 2, none⟩) (Kd.R_far (p := ⟨gb605, 1, none⟩) (Kd.R_far (p := ⟨gb605, 0, none⟩) (Kd.R_mono HO594.out (fun k_ hk => (⟨hk, hk.2.2.2.2.2⟩ : _ ∧ k_ ≠ gb605))) (fun _ hk => hk.2) (.int .i64 t601)) (fun _ hk => hk.2) (.int .i64 t602)) (fun _ hk => hk.2) (.int .i64 t603)) (fun _ h_ => h_.1))) (Kd.R_base ho0) hb); have n4_ := Aside0.mk (Kd.R_elder' (by (with_reducible repeat (first | apply Kd.R_alloc | apply Kd.R_drewN | apply Kd.R_drew)); exact (Kd.R_mono (Kd.R_far (p := ⟨gb605, 2, none⟩) (Kd.R_far (p := ⟨gb605, 1, none⟩) (Kd.R_far (p := ⟨gb605, 0, none⟩) (Kd.R_mono HO600.out (fun k_ hk => (⟨hk, hk.2.2.2.2.2⟩ : _ ∧ k_ ≠ gb605))) (fun _ hk => hk.2) (.int .i64 t601)) (fun _ hk => hk.2) (.int .i64 t602)) (fun _ hk => hk.2) (.int .i64 t603)) (fun _ h_ => h_.1))) (Kd.R_base ho0) hb); have n5_ := Aside0.mk (Kd.R_lower (Kd.R_newB (Kd.R_newB (Kd.R_new' (Kd.R_new' (Kd.R_new' (Kd.R_new' (Kd.R_new' ho0 (Kd.R_lt (by (with_reducible repeat (first | apply Kd.R_alloc | apply Kd.R_drewN | apply Kd.R_drew)); exact (Kd.R_mono (Kd.R_far (p := ⟨gb605, 2, none⟩) (Kd.R_far (p := ⟨gb605, 1, none⟩) (Kd.R_far (p := ⟨gb605, 0, none⟩) (Kd.R_mono HO580.out (fun k_ hk => (⟨hk, hk.2.2.2.2.2⟩ : _ ∧ k_ ≠ gb605))) (fun _ hk => hk.2) (.int .i64 t601)) (fun _ hk => hk.2) (.int .i64 t602)) (fun _ hk => hk.2) (.int .i64 t603)) (fun _ h_ => h_.1))))) (Kd.R_lt (by (with_reducible repeat (first | apply Kd.R_alloc | apply Kd.R_drewN | apply Kd.R_drew)); exact (Kd.R_mono (Kd.R_far (p := ⟨gb605, 2, none⟩) (Kd.R_far (p := ⟨gb605, 1, none⟩) (Kd.R_far (p := ⟨gb605, 0, none⟩) (Kd.R_mono HO584.out (fun k_ hk => (⟨hk, hk.2.2.2.2.2⟩ : _ ∧ k_ ≠ gb605))) (fun _ hk => hk.2) (.int .i64 t601)) (fun _ hk => hk.2) (.int .i64 t602)) (fun _ hk => hk.2) (.int .i64 t603)) (fun _ h_ => h_.1))))) (Kd.R_lt (by (with_reducible repeat (first | apply Kd.R_alloc | apply Kd.R_drewN | apply Kd.R_drew)); exact (Kd.R_mono (Kd.R_far (p := ⟨gb605, 2, none⟩) (Kd.R_far (p := ⟨gb605, 1, none⟩) (Kd.R_far (p := ⟨gb605, 0, none⟩) (Kd.R_mono HO590.out (fun k_ hk => (⟨hk, hk.2.2.2.2.2⟩ : _ ∧ k_ ≠ gb605))) (fun _ hk => hk.2) (.int .i64 t601)) (fun _ hk => hk.2) (.int .i64 t602)) (fun _ hk => hk.2) (.int .i64 t603)) (fun _ h_ => h_.1))))) (Kd.R_lt (by (with_reducible repeat (first | apply Kd.R_alloc | apply Kd.R_drewN | apply Kd.R_drew)); exact (Kd.R_mono (Kd.R_far (p := ⟨gb605, 2, none⟩) (Kd.R_far (p := ⟨gb605, 1, none⟩) (Kd.R_far (p := ⟨gb605, 0, none⟩) (Kd.R_mono HO594.out (fun k_ hk => (⟨hk, hk.2.2.2.2.2⟩ : _ ∧ k_ ≠ gb605))) (fun _ hk => hk.2) (.int .i64 t601)) (fun _ hk => hk.2) (.int .i64 t602)) (fun _ hk => hk.2) (.int .i64 t603)) (fun _ h_ => h_.1))))) (Kd.R_lt (by (with_reducible repeat (first | apply Kd.R_alloc | apply Kd.R_drewN | apply Kd.R_drew)); exact (Kd.R_mono (Kd.R_far (p := ⟨gb605, 2, none⟩) (Kd.R_far (p := ⟨gb605, 1, none⟩) (Kd.R_far (p := ⟨gb605, 0, none⟩) (Kd.R_mono HO600.out (fun k_ hk => (⟨hk, hk.2.2.2.2.2⟩ : _ ∧ k_ ≠ gb605))) (fun _ hk => hk.2) (.int .i64 t601)) (fun _ hk => hk.2) (.int .i64 t602)) (fun _ hk => hk.2) (.int .i64 t603)) (fun _ h_ => h_.1))))) (g := gb573) (o := .cells #[.int .i64 a1_0, .int .i64 a1_1, .int .i64 a1_2] 26 (0, 0)) (by (with_reducible repeat first | apply bN | apply bD | apply bA); refine blk_far ?_ NB573_605.out _; (with_reducible repeat first | apply bN | apply bD | apply bA); refine blk_far ?_ NB573_605.out _; (with_reducible repeat first | apply bN | apply bD | apply bA); refine blk_far ?_ NB573_605.out _; (with_reducible repeat first | apply bN | apply bD | apply bA); exact BK573.out)) (g := gb605) (o := .cells #[.int .i64 t601, .int .i64 t602, .int .i64 t603] 26 (0, 0)) (by (with_reducible repeat first | apply bN | apply bD | apply bA); refine blk_put (cs := #[.int .i64 t601, .int .i64 t602, .int .i64 0]) ?_ 2 _ rfl; (with_reducible repeat first | apply bN | apply bD | apply bA); refine blk_put (cs := #[.int .i64 t601, .int .i64 0, .int .i64 0]) ?_ 1 _ rfl; (with_reducible repeat first | apply bN | apply bD | apply bA); refine blk_put (cs := #[.int .i64 0, .int .i64 0, .int .i64 0]) ?_ 0 _ rfl; (with_reducible repeat first | apply bN | apply bD | apply bA); exact BK605.out)) (below_size (eG HB.out))); have n6_ := Aside0.mk (blk_below (g := gb572) (o := .cells #[.int .i64 a0_0, .slice A0_1 l0_1.length c0_1] 24 (0, 0)) (by (with_reducible repeat first | apply bN | apply bD | apply bA); refine blk_far ?_ NB572_605.out _; (with_reducible repeat first | apply bN | apply bD | apply bA); refine blk_far ?_ NB572_605.out _; (with_reducible repeat first | apply bN | apply bD | apply bA); refine blk_far ?_ NB572_605.out _; (with_reducible repeat first | apply bN | apply bD | apply bA); exact BK572.out) hb); have n7_ := Aside0.mk (blk_below (g := gb573) (o := .cells #[.int .i64 a1_0, .int .i64 a1_1, .int .i64 a1_2] 26 (0, 0)) (by (with_reducible repeat first | apply bN | apply bD | apply bA); refine blk_far ?_ NB573_605.out _; (with_reducible repeat first | apply bN | apply bD | apply bA); refine blk_far ?_ NB573_605.out _; (with_reducible repeat first | apply bN | apply bD | apply bA); refine blk_far ?_ NB573_605.out _; (with_reducible repeat first | apply bN | apply bD | apply bA); exact BK573.out) hb); have n8_ := Aside0.mk (blk_below (g := gb586) (o := .cells #[.int .i64 t581, .slice Ao37 t582.length co37] 24 (0, 0)) (by (with_reducible repeat first | apply bN | apply bD | apply bA); refine blk_far ?_ NB586_605.out _; (with_reducible repeat first | apply bN | apply bD | apply bA); refine blk_far ?_ NB586_605.out _; (with_reducible repeat first | apply bN | apply bD | apply bA); refine blk_far ?_ NB586_605.out _; (with_reducible repeat first | apply bN | apply bD | apply bA); exact BK586.out) hb); have n9_ := Aside0.mk (blk_below (g := gb596) (o := .cells #[.int .i64 t591, .slice Ao47 t592.length co47] 24 (0, 0)) (by (with_reducible repeat first | apply bN | apply bD | apply bA); refine blk_far ?_ NB596_605.out _; (with_reducible repeat first | apply bN | apply bD | apply bA); refine blk_far ?_ NB596_605.out _; (with_reducible repeat first | apply bN | apply bD | apply bA); refine blk_far ?_ NB596_605.out _; (with_reducible repeat first | apply bN | apply bD | apply bA); exact BK596.out) hb); have n10_ := Aside0.mk (blk_below (g := gb605) (o := .cells #[.int .i64 t601, .int .i64 t602, .int .i64 t603] 26 (0, 0)) (by (with_reducible repeat first | apply bN | apply bD | apply bA); refine blk_put (cs := #[.int .i64 t601, .int .i64 t602, .int .i64 0]) ?_ 2 _ rfl; (with_reducible repeat first | apply bN | apply bD | apply bA); refine blk_put (cs := #[.int .i64 t601, .int .i64 0, .int .i64 0]) ?_ 1 _ rfl; (with_reducible repeat first | apply bN | apply bD | apply bA); refine blk_put (cs := #[.int .i64 0, .int .i64 0, .int .i64 0]) ?_ 0 _ rfl; (with_reducible repeat first | apply bN | apply bD | apply bA); exact BK605.out) hb); have n11_ := Aside0.mk (below_step (eG HB.out) hb); clear HO580; clear HO584; clear HO590; clear HO594; clear HO600; clear BK572; clear BK573; clear BK586; clear BK596; clear BK605; clear HB; have HO580 := n0_; have HO584 := n1_; have HO590 := n2_; have HO594 := n3_; have HO600 := n4_; have HO609 := n5_; have BK572 := n6_; have BK573 := n7_; have BK586 := n8_; have BK596 := n9_; have BK605 := n10_; have HB := n11_; clear n0_ n1_ n2_ n3_ n4_ n5_ n6_ n7_ n8_ n9_ n10_ n11_; (try clear hb); (try clear hb2); (try clear hk); (try clear hi); (try clear ho0); obtain ⟨Ao65, co65, eo65⟩ := Kd.R_slice HO609.out; subst eo65) | ((with_reducible refine gate_callee (f := 13) rfl ?_); refine goesL_ (some 64) rfl rfl Tryz.func13 (by kernel_rfl) rfl #[.agg #[.int .i64 t606, .slice Ao65 t607.length co65]] rfl (by (try simp only [List.map_toArray, List.map_cons, List.map_nil]); first | done | rfl | (simp only [List.length_drop, List.length_take]; rfl)) ?_; (with_reducible refine (tariff_Check.calls kj5 t606 _ _ t607 t610 t611 _ ?side1 ?side2 A28.out).mono ?_); (case side1 => repeat (first | exact (Kd.R_reads' HO609.out).2.2 | (with_reducible refine Kd.C_alloc ?_ _) | (with_reducible refine Kd.C_drewN ?_ _) | (with_reducible refine Kd.C_drew ?_))); (case side2 => exact (Kd.R_reads' HO609.out).2.1); rintro e w66 ⟨rfl, hb⟩; refine ⟨_, rfl, ?_⟩; have n0_ := Aside0.mk (Kd.R_below (rG HO580.out) hb); have n1_ := Aside0.mk (Kd.R_below (rG HO584.out) hb); have n2_ := Aside0.mk (Kd.R_below (rG HO590.out) hb); have n3_ := Aside0.mk (Kd.R_below (rG HO594.out) hb); have n4_ := Aside0.mk (Kd.R_below (rG HO600.out) hb); have n5_ := Aside0.mk (Kd.R_below (rG HO609.out) hb); have n6_ := Aside0.mk (blk_below (bG BK572.out) hb); have n7_ := Aside0.mk (blk_below (bG BK573.out) hb); have n8_ := Aside0.mk (blk_below (bG BK586.out) hb); have n9_ := Aside0.mk (blk_below (bG BK596.out) hb); have n10_ := Aside0.mk (blk_below (bG BK605.out) hb); have n11_ := Aside0.mk (below_step (eG HB.out) hb); clear HO580; clear HO584; clear HO590; clear HO594; clear HO600; clear HO609; clear BK572; clear BK573; clear BK586; clear BK596; clear BK605; clear HB; have HO580 := n0_; have HO584 := n1_; have HO590 := n2_; have HO594 := n3_; have HO600 := n4_; have HO609 := n5_; have BK572 := n6_; have BK573 := n7_; have BK586 := n8_; have BK596 := n9_; have BK605 := n10_; have HB := n11_; clear n0_ n1_ n2_ n3_ n4_ n5_ n6_ n7_ n8_ n9_ n10_ n11_; (try clear hb); (try clear hb2); (try clear hk); (try clear hi)))
     (try simp only [Act.put, sIA, sC0, sCS])
     go_cut [87] (fun v87 wc => ∃ (kq : Nat) (x87_28 : Bool), v87 = .bool x87_28 ∧ Aside0 (spilelaw46_TariffLater.j1 kq a2 a3 a4 x87_28 a0_0 l0_1 a1_0 a1_1 a1_2 t581 t582 = some r) ∧ Aside0 (kq ≤ kj5) ∧ Aside0 (Kd.R k26 26 wc w.heap.size (fun k_ => some k_ ≠ ((.slice Ao47 t592.length co47) : Value).ownBlock ∧ k_ ≠ gb573 ∧ k_ ≠ gb605) (.slice Ao37 t582.length co37) t582) ∧ Aside0 (Kd.R k26 26 wc w.heap.size (fun k_ => some k_ ≠ ((.slice Ao37 t582.length co37) : Value).ownBlock ∧ k_ ≠ gb573 ∧ k_ ≠ gb605) (.slice Ao47 t592.length co47) t592) ∧ Aside0 (wc.heap[gb572]? = some (.cells #[.int .i64 a0_0, (.slice A0_1 l0_1.length c0_1)] 24 (0, 0))) ∧ Aside0 (wc.heap[gb573]? = some (.cells #[.int .i64 a1_0, .int .i64 a1_1, .int .i64 a1_2] 26 (0, 0))) ∧ Aside0 (wc.heap[gb586]? = some (.cells #[.int .i64 t581, (.slice Ao37 t582.length co37)] 24 (0, 0))) ∧ Aside0 (wc.heap[gb596]? = some (.cells #[.int .i64 t591, (.slice Ao47 t592.length co47)] 24 (0, 0))) ∧ Aside0 (wc.heap[gb605]? = some (.cells #[.int .i64 t601, .int .i64 t602, .int .i64 t603] 26 (0, 0))) ∧ Aside0 (Below w.heap.size w wc))
     case first =>
      have H := HC29.out; clear HC29; by_cases c67 : (wrap64 ((wrap64 (t595 + t604)) + t611)) = 0
      ·
       rw [if_pos c67] at H; have c67b0 : ((wrap64 ((wrap64 (t595 + t604)) + t611)) == 0) = true := beq_iff_eq.mpr c67; have c67b1 : ((wrap64 ((wrap64 (t595 + t604)) + t611)) != 0) = false := bne_eq_false_iff_eq.mpr c67; clear c67; (first | rw [c67b0] | (simp only [i64_w, i32_w]; rw [c67b0]) | skip)
       by_cases c68 : t610 = (-1)
       ·
        rw [if_pos c68] at H; have c68b0 : (t610 == (-1)) = true := beq_iff_eq.mpr c68; have c68b1 : (t610 != (-1)) = false := bne_eq_false_iff_eq.mpr c68; clear c68; replace H := Option.bind_eq_some_iff.mp H; obtain ⟨t612, A690, H⟩ := H; replace H : (if t612 = true then (spilelaw46_TariffLater.j1 kj5 a2 a3 a4 (!(t601 == a1_0) || (!(t602 == a1_1) || (!(t603 == a1_2)))) a0_0 l0_1 a1_0 a1_1 a1_2 t581 t582) else (spilelaw46_TariffLater.j1 kj5 a2 a3 a4 true a0_0 l0_1 a1_0 a1_1 a1_2 t581 t582)) = some r := H; have A69 := Aside0.mk A690; clear A690; by_cases c70 : t612 = true
        ·
         subst c70; replace H : (spilelaw46_TariffLater.j1 kj5 a2 a3 a4 (!(t601 == a1_0) || (!(t602 == a1_1) || (!(t603 == a1_2)))) a0_0 l0_1 a1_0 a1_1 a1_2 t581 t582) = some r := by rw [if_pos rfl] at H; exact H
         have H' := Aside0.mk H; clear H; have hnb71 := NB596_572.out; have hnc71 := NB572_596.out; have hnb72 := NB596_573.out; have hnc72 := NB573_596.out; have hnb73 := NB596_586.out; have hnc73 := NB586_596.out; have hnb74 := NB596_605.out; have hnc74 := NB605_596.out; have hcz75_0 : w66.cell? ⟨gb596, 0, none⟩ = some (.int .i64 t591) := (blk_cell BK596.out 0).trans rfl; have hcz75_1 : w66.cell? ⟨gb596, 1, none⟩ = some (.slice Ao47 t592.length co47) := (blk_cell BK596.out 1).trans rfl; have hfz75_0 := blk_frozen BK596.out 0; have hfz75_1 := blk_frozen BK596.out 1; have hnb76 := NB586_572.out; have hnc76 := NB572_586.out; have hnb77 := NB586_573.out; have hnc77 := NB573_586.out; have hnb78 := NB586_605.out; have hnc78 := NB605_586.out; have hcz79_0 : w66.cell? ⟨gb586, 0, none⟩ = some (.int .i64 t581) := (blk_cell BK586.out 0).trans rfl; have hcz79_1 : w66.cell? ⟨gb586, 1, none⟩ = some (.slice Ao37 t582.length co37) := (blk_cell BK586.out 1).trans rfl; have hfz79_0 := blk_frozen BK586.out 0; have hfz79_1 := blk_frozen BK586.out 1; go_wp2_with (first | (go_at_call 18; (with_reducible refine (spileref46_Same.calls kj5 t591 _ _ t592 t581 _ _ t582 true _ ?side1 ?side2 ?side3 ?side4 A69.out).mono ?_); (case side1 => repeat (first | exact (Kd.R_reads' HO594.out).2.2 | (with_reducible refine Kd.C_alloc ?_ _) | (with_reducible refine Kd.C_drewN ?_ _) | (with_reducible refine Kd.C_drew ?_))); (case side2 => exact (Kd.R_reads' HO594.out).2.1); (case side3 => repeat (first | exact (Kd.R_reads' HO584.out).2.2 | (with_reducible refine Kd.C_alloc ?_ _) | (with_reducible refine Kd.C_drewN ?_ _) | (with_reducible refine Kd.C_drew ?_))); (case side4 => exact (Kd.R_reads' HO584.out).2.1); rintro e w80 ⟨rfl, hb⟩; have n0_ := Aside0.mk (Kd.R_below (rG HO580.out) hb); have n1_ := Aside0.mk (Kd.R_below (rG HO584.out) hb); have n2_ := Aside0.mk (Kd.R_below (rG HO590.out) hb); have n3_ := Aside0.mk (Kd.R_below (rG HO594.out) hb); have n4_ := Aside0.mk (Kd.R_below (rG HO600.out) hb); have n5_ := Aside0.mk (Kd.R_below (rG HO609.out) hb); have n6_ := Aside0.mk (blk_below (bG BK572.out) hb); have n7_ := Aside0.mk (blk_below (bG BK573.out) hb); have n8_ := Aside0.mk (blk_below (bG BK586.out) hb); have n9_ := Aside0.mk (blk_below (bG BK596.out) hb); have n10_ := Aside0.mk (blk_below (bG BK605.out) hb); have n11_ := Aside0.mk (below_step (eG HB.out) hb); clear HO580; clear HO584; clear HO590; clear HO594; clear HO600; clear HO609; clear BK572; clear BK573; clear BK586; clear BK596; clear BK605; clear HB; have HO580 := n0_; have HO584 := n1_; have HO590 := n2_; have HO594 := n3_; have HO600 := n4_; have HO609 := n5_; have BK572 := n6_; have BK573 := n7_; have BK586 := n8_; have BK596 := n9_; have BK605 := n10_; have HB := n11_; clear n0_ n1_ n2_ n3_ n4_ n5_ n6_ n7_ n8_ n9_ n10_ n11_; (try clear hb); (try clear hb2); (try clear hk); (try clear hi); have hnb81 := NB605_572.out; have hnc81 := NB572_605.out; have hnb82 := NB605_573.out; have hnc82 := NB573_605.out; have hcz83_0 : w80.cell? ⟨gb605, 0, none⟩ = some (.int .i64 t601) := (blk_cell BK605.out 0).trans rfl; have hcz83_1 : w80.cell? ⟨gb605, 1, none⟩ = some (.int .i64 t602) := (blk_cell BK605.out 1).trans rfl; have hcz83_2 : w80.cell? ⟨gb605, 2, none⟩ = some (.int .i64 t603) := (blk_cell BK605.out 2).trans rfl; have hfz83_0 := blk_frozen BK605.out 0; have hfz83_1 := blk_frozen BK605.out 1; have hfz83_2 := blk_frozen BK605.out 2; have hnb84 := NB573_572.out; have hnc84 := NB572_573.out; have hcz85_0 : w80.cell? ⟨gb573, 0, none⟩ = some (.int .i64 a1_0) := (blk_cell BK573.out 0).trans rfl; have hcz85_1 : w80.cell? ⟨gb573, 1, none⟩ = some (.int .i64 a1_1) := (blk_cell BK573.out 1).trans rfl; have hcz85_2 : w80.cell? ⟨gb573, 2, none⟩ = some (.int .i64 a1_2) := (blk_cell BK573.out 2).trans rfl; have hfz85_0 := blk_frozen BK573.out 0; have hfz85_1 := blk_frozen BK573.out 1; have hfz85_2 := blk_frozen BK573.out 2))
         go_meet
         case rel => exact ⟨_, ((!(t601 == a1_0) || (!(t602 == a1_1) || (!(t603 == a1_2))))), (by first | rfl | (simp; done) | (simp [*]; done)), H', ⟨by have := HJ5.out; first | omega | exact Nat.le_refl _⟩, ⟨by (with_reducible repeat (first | apply Kd.R_alloc | apply Kd.R_drewN | apply Kd.R_drew)); exact Kd.R_mono HO584.out (fun _ hk => ⟨hk.1.2.2.1, ⟨hk.1.2.2.2.2.1, hk.1.2.2.2.2.2⟩⟩)⟩, ⟨by (with_reducible repeat (first | apply Kd.R_alloc | apply Kd.R_drewN | apply Kd.R_drew)); exact Kd.R_mono HO594.out (fun _ hk => ⟨hk.1.2.1, ⟨hk.1.2.2.2.2.1, hk.1.2.2.2.2.2⟩⟩)⟩, ⟨by (with_reducible repeat first | apply bN | apply bD | apply bA); exact BK572.out⟩, ⟨by (with_reducible repeat first | apply bN | apply bD | apply bA); exact BK573.out⟩, ⟨by (with_reducible repeat first | apply bN | apply bD | apply bA); exact BK586.out⟩, ⟨by (with_reducible repeat first | apply bN | apply bD | apply bA); exact BK596.out⟩, ⟨by (with_reducible repeat first | apply bN | apply bD | apply bA); exact BK605.out⟩, ⟨eG HB.out⟩⟩
        ·
         replace c70 := Bool.eq_false_iff.mpr c70; subst c70; replace H : (spilelaw46_TariffLater.j1 kj5 a2 a3 a4 true a0_0 l0_1 a1_0 a1_1 a1_2 t581 t582) = some r := by rw [if_neg (show ¬ (false = true) by decide)] at H; exact H
         have H' := Aside0.mk H; clear H; have hnb86 := NB596_572.out; have hnc86 := NB572_596.out; have hnb87 := NB596_573.out; have hnc87 := NB573_596.out; have hnb88 := NB596_586.out; have hnc88 := NB586_596.out; have hnb89 := NB596_605.out; have hnc89 := NB605_596.out; have hcz90_0 : w66.cell? ⟨gb596, 0, none⟩ = some (.int .i64 t591) := (blk_cell BK596.out 0).trans rfl; have hcz90_1 : w66.cell? ⟨gb596, 1, none⟩ = some (.slice Ao47 t592.length co47) := (blk_cell BK596.out 1).trans rfl; have hfz90_0 := blk_frozen BK596.out 0; have hfz90_1 := blk_frozen BK596.out 1; have hnb91 := NB586_572.out; have hnc91 := NB572_586.out; have hnb92 := NB586_573.out; have hnc92 := NB573_586.out; have hnb93 := NB586_605.out; have hnc93 := NB605_586.out; have hcz94_0 : w66.cell? ⟨gb586, 0, none⟩ = some (.int .i64 t581) := (blk_cell BK586.out 0).trans rfl; have hcz94_1 : w66.cell? ⟨gb586, 1, none⟩ = some (.slice Ao37 t582.length co37) := (blk_cell BK586.out 1).trans rfl; have hfz94_0 := blk_frozen BK586.out 0; have hfz94_1 := blk_frozen BK586.out 1; go_wp2_with (first | (go_at_call 18; (with_reducible refine (spileref46_Same.calls kj5 t591 _ _ t592 t581 _ _ t582 false _ ?side1 ?side2 ?side3 ?side4 A69.out).mono ?_); (case side1 => repeat (first | exact (Kd.R_reads' HO594.out).2.2 | (with_reducible refine Kd.C_alloc ?_ _) | (with_reducible refine Kd.C_drewN ?_ _) | (with_reducible refine Kd.C_drew ?_))); (case side2 => exact (Kd.R_reads' HO594.out).2.1); (case side3 => repeat (first | exact (Kd.R_reads' HO584.out).2.2 | (with_reducible refine Kd.C_alloc ?_ _) | (with_reducible refine Kd.C_drewN ?_ _) | (with_reducible refine Kd.C_drew ?_))); (case side4 => exact (Kd.R_reads' HO584.out).2.1); rintro e w95 ⟨rfl, hb⟩; have n0_ := Aside0.mk (Kd.R_below (rG HO580.out) hb); have n1_ := Aside0.mk (Kd.R_below (rG HO584.out) hb); have n2_ := Aside0.mk (Kd.R_below (rG HO590.out) hb); have n3_ := Aside0.mk (Kd.R_below (rG HO594.out) hb); have n4_ := Aside0.mk (Kd.R_below (rG HO600.out) hb); have n5_ := Aside0.mk (Kd.R_below (rG HO609.out) hb); have n6_ := Aside0.mk (blk_below (bG BK572.out) hb); have n7_ := Aside0.mk (blk_below (bG BK573.out) hb); have n8_ := Aside0.mk (blk_below (bG BK586.out) hb); have n9_ := Aside0.mk (blk_below (bG BK596.out) hb); have n10_ := Aside0.mk (blk_below (bG BK605.out) hb); have n11_ := Aside0.mk (below_step (eG HB.out) hb); clear HO580; clear HO584; clear HO590; clear HO594; clear HO600; clear HO609; clear BK572; clear BK573; clear BK586; clear BK596; clear BK605; clear HB; have HO580 := n0_; have HO584 := n1_; have HO590 := n2_; have HO594 := n3_; have HO600 := n4_; have HO609 := n5_; have BK572 := n6_; have BK573 := n7_; have BK586 := n8_; have BK596 := n9_; have BK605 := n10_; have HB := n11_; clear n0_ n1_ n2_ n3_ n4_ n5_ n6_ n7_ n8_ n9_ n10_ n11_; (try clear hb); (try clear hb2); (try clear hk); (try clear hi)))
         go_meet
         case rel => exact ⟨_, (true), (by first | rfl | (simp; done) | (simp [*]; done)), H', ⟨by have := HJ5.out; first | omega | exact Nat.le_refl _⟩, ⟨by (with_reducible repeat (first | apply Kd.R_alloc | apply Kd.R_drewN | apply Kd.R_drew)); exact Kd.R_mono HO584.out (fun _ hk => ⟨hk.1.2.2.1, ⟨hk.1.2.2.2.2.1, hk.1.2.2.2.2.2⟩⟩)⟩, ⟨by (with_reducible repeat (first | apply Kd.R_alloc | apply Kd.R_drewN | apply Kd.R_drew)); exact Kd.R_mono HO594.out (fun _ hk => ⟨hk.1.2.1, ⟨hk.1.2.2.2.2.1, hk.1.2.2.2.2.2⟩⟩)⟩, ⟨by (with_reducible repeat first | apply bN | apply bD | apply bA); exact BK572.out⟩, ⟨by (with_reducible repeat first | apply bN | apply bD | apply bA); exact BK573.out⟩, ⟨by (with_reducible repeat first | apply bN | apply bD | apply bA); exact BK586.out⟩, ⟨by (with_reducible repeat first | apply bN | apply bD | apply bA); exact BK596.out⟩, ⟨by (with_reducible repeat first | apply bN | apply bD | apply bA); exact BK605.out⟩, ⟨eG HB.out⟩⟩
       ·
        rw [if_neg c68] at H; have c68b0 : (t610 == (-1)) = false := beq_eq_false_iff_ne.mpr c68; have c68b1 : (t610 != (-1)) = true := bne_iff_ne.mpr c68; have H' := Aside0.mk H; clear H; go_wp2; go_meet
        case rel => exact ⟨_, (true), (by first | rfl | (simp; done) | (simp [*]; done)), H', ⟨by have := HJ5.out; first | omega | exact Nat.le_refl _⟩, ⟨by (with_reducible repeat (first | apply Kd.R_alloc | apply Kd.R_drewN | apply Kd.R_drew)); exact Kd.R_mono HO584.out (fun _ hk => ⟨hk.1.2.2.1, ⟨hk.1.2.2.2.2.1, hk.1.2.2.2.2.2⟩⟩)⟩, ⟨by (with_reducible repeat (first | apply Kd.R_alloc | apply Kd.R_drewN | apply Kd.R_drew)); exact Kd.R_mono HO594.out (fun _ hk => ⟨hk.1.2.1, ⟨hk.1.2.2.2.2.1, hk.1.2.2.2.2.2⟩⟩)⟩, ⟨by (with_reducible repeat first | apply bN | apply bD | apply bA); exact BK572.out⟩, ⟨by (with_reducible repeat first | apply bN | apply bD | apply bA); exact BK573.out⟩, ⟨by (with_reducible repeat first | apply bN | apply bD | apply bA); exact BK586.out⟩, ⟨by (with_reducible repeat first | apply bN | apply bD | apply bA); exact BK596.out⟩, ⟨by (with_reducible repeat first | apply bN | apply bD | apply bA); exact BK605.out⟩, ⟨eG HB.out⟩⟩
      ·
       rw [if_neg c67] at H; have c67b0 : ((wrap64 ((wrap64 (t595 + t604)) + t611)) == 0) = false := beq_eq_false_iff_ne.mpr c67; have c67b1 : ((wrap64 ((wrap64 (t595 + t604)) + t611)) != 0) = true := bne_iff_ne.mpr c67; (first | rw [c67b0] | (simp only [i64_w, i32_w]; rw [c67b0]) | skip)
       have H' := Aside0.mk H; clear H; go_wp2; go_meet
       case rel => exact ⟨_, (true), (by first | rfl | (simp; done) | (simp [*]; done)), H', ⟨by have := HJ5.out; first | omega | exact Nat.le_refl _⟩, ⟨by (with_reducible repeat (first | apply Kd.R_alloc | apply Kd.R_drewN | apply Kd.R_drew)); exact Kd.R_mono HO584.out (fun _ hk => ⟨hk.1.2.2.1, ⟨hk.1.2.2.2.2.1, hk.1.2.2.2.2.2⟩⟩)⟩, ⟨by (with_reducible repeat (first | apply Kd.R_alloc | apply Kd.R_drewN | apply Kd.R_drew)); exact Kd.R_mono HO594.out (fun _ hk => ⟨hk.1.2.1, ⟨hk.1.2.2.2.2.1, hk.1.2.2.2.2.2⟩⟩)⟩, ⟨by (with_reducible repeat first | apply bN | apply bD | apply bA); exact BK572.out⟩, ⟨by (with_reducible repeat first | apply bN | apply bD | apply bA); exact BK573.out⟩, ⟨by (with_reducible repeat first | apply bN | apply bD | apply bA); exact BK586.out⟩, ⟨by (with_reducible repeat first | apply bN | apply bD | apply bA); exact BK596.out⟩, ⟨by (with_reducible repeat first | apply bN | apply bD | apply bA); exact BK605.out⟩, ⟨eG HB.out⟩⟩
     case rest =>
      clear HC29; repeat first | clear c1 | clear p2 | clear c5 | clear c6 | clear p6 | clear c7 | clear c8 | clear c9 | clear c13 | clear c14 | clear c19 | clear c59 | clear c60 | clear c61 | clear c62 | clear p64 | clear c67 | clear c67b0 | clear c67b1 | clear c68 | clear c68b0 | clear c68b1 | clear c70 | clear c71 | clear c72 | clear c73 | clear c74 | clear c76 | clear c77 | clear c78 | clear c81 | clear c82 | clear c84 | clear c86 | clear c87 | clear c88 | clear c89 | clear c91 | clear c92 | clear c93 | clear hcz63_0 | clear hcz63_1 | clear hcz75_0 | clear hcz75_1 | clear hcz79_0 | clear hcz79_1 | clear hcz83_0 | clear hcz83_1 | clear hcz83_2 | clear hcz85_0 | clear hcz85_1 | clear hcz85_2 | clear hcz90_0 | clear hcz90_1 | clear hcz94_0 | clear hcz94_1 | clear hfz63_0 | clear hfz63_1 | clear hfz75_0 | clear hfz75_1 | clear hfz79_0 | clear hfz79_1 | clear hfz83_0 | clear hfz83_1 | clear hfz83_2 | clear hfz85_0 | clear hfz85_1 | clear hfz85_2 | clear hfz90_0 | clear hfz90_1 | clear hfz94_0 | clear hfz94_1
      obtain ⟨kq, x87_28, rfl, HA, HJ28, HO_587001, HO_597001, BK572, BK573, BK586, BK596, BK605, HB⟩ := hcut
      cases kq with
      | zero => exact absurd HA.out (by simp [spilelaw46_TariffLater.j1])
      | succ kj28 =>
       have H := HA.out; clear HA; simp only [spilelaw46_TariffLater.j1] at H; by_cases c96 : x87_28 = true
       ·
        subst c96; replace H : (some false) = some r := by rw [if_pos rfl] at H; exact H
        subst hr_; exact absurd H (by simp)
       ·
        replace c96 := Bool.eq_false_iff.mpr c96; subst c96; replace H : ((spilelaw46_cp.f a0_0 l0_1).bind fun bt613 => ((tariff_Duty.f kj28 bt613.1 bt613.2 a2 a3 a4).bind fun bt617 => ((spilelaw46_cp.f t581 t582).bind fun bt619 => ((tariff_Duty.f kj28 bt619.1 bt619.2 a2 a3 a4).bind fun bt623 => (if a2 = a1_0 then (if a3 ≥ a1_1 then (some true) else (if bt617.1 = bt623.1 then (some (bt617.2 == bt623.2)) else (some false))) else (if bt617.1 = bt623.1 then (some (bt617.2 == bt623.2)) else (some false))))))) = some r := by rw [if_neg (show ¬ (false = true) by decide)] at H; exact H
        replace H := Option.bind_eq_some_iff.mp H; obtain ⟨⟨t613, t614⟩, A970, H⟩ := H; replace H : ((tariff_Duty.f kj28 t613 t614 a2 a3 a4).bind fun bt617 => ((spilelaw46_cp.f t581 t582).bind fun bt619 => ((tariff_Duty.f kj28 bt619.1 bt619.2 a2 a3 a4).bind fun bt623 => (if a2 = a1_0 then (if a3 ≥ a1_1 then (some true) else (if bt617.1 = bt623.1 then (some (bt617.2 == bt623.2)) else (some false))) else (if bt617.1 = bt623.1 then (some (bt617.2 == bt623.2)) else (some false)))))) = some r := H; have A97 := Aside0.mk A970; clear A970; replace H := Option.bind_eq_some_iff.mp H; obtain ⟨⟨t617, t618⟩, A980, H⟩ := H; replace H : ((spilelaw46_cp.f t581 t582).bind fun bt619 => ((tariff_Duty.f kj28 bt619.1 bt619.2 a2 a3 a4).bind fun bt623 => (if a2 = a1_0 then (if a3 ≥ a1_1 then (some true) else (if t617 = bt623.1 then (some (t618 == bt623.2)) else (some false))) else (if t617 = bt623.1 then (some (t618 == bt623.2)) else (some false))))) = some r := H; have A98 := Aside0.mk A980; clear A980; replace H := Option.bind_eq_some_iff.mp H; obtain ⟨⟨t619, t620⟩, A990, H⟩ := H; replace H : ((tariff_Duty.f kj28 t619 t620 a2 a3 a4).bind fun bt623 => (if a2 = a1_0 then (if a3 ≥ a1_1 then (some true) else (if t617 = bt623.1 then (some (t618 == bt623.2)) else (some false))) else (if t617 = bt623.1 then (some (t618 == bt623.2)) else (some false)))) = some r := H; have A99 := Aside0.mk A990; clear A990; replace H := Option.bind_eq_some_iff.mp H; obtain ⟨⟨t623, t624⟩, A1000, H⟩ := H; replace H : (if a2 = a1_0 then (if a3 ≥ a1_1 then (some true) else (if t617 = t623 then (some (t618 == t624)) else (some false))) else (if t617 = t623 then (some (t618 == t624)) else (some false))) = some r := H; have A100 := Aside0.mk A1000; clear A1000; by_cases c101 : a2 = a1_0
        ·
         rw [if_pos c101] at H; have c101b0 : (a2 == a1_0) = true := beq_iff_eq.mpr c101; have c101b1 : (a2 != a1_0) = false := bne_eq_false_iff_eq.mpr c101; clear c101; by_cases c102 : a3 ≥ a1_1
         ·
          rw [if_pos c102] at H; have c102b0 : decide (a1_1 ≤ a3) = true := decide_eq_true c102; clear c102; obtain rfl := Option.some.inj H; have hnb103 := NB572_573.out; have hnc103 := NB573_572.out; have hnb104 := NB572_586.out; have hnc104 := NB586_572.out; have hnb105 := NB572_596.out; have hnc105 := NB596_572.out; have hnb106 := NB572_605.out; have hnc106 := NB605_572.out; have hcz107_0 : wc.cell? ⟨gb572, 0, none⟩ = some (.int .i64 a0_0) := (blk_cell BK572.out 0).trans rfl; have hcz107_1 : wc.cell? ⟨gb572, 1, none⟩ = some (.slice A0_1 l0_1.length c0_1) := (blk_cell BK572.out 1).trans rfl; have hfz107_0 := blk_frozen BK572.out 0; have hfz107_1 := blk_frozen BK572.out 1; go_wp2_with (first | ((with_reducible refine gate_callee (f := 14) rfl ?_); refine goesL_ (some 90) rfl rfl Tryz.func14 (by kernel_rfl) rfl #[.agg #[.int .i64 a0_0, .slice A0_1 l0_1.length c0_1]] rfl (by (try simp only [List.map_toArray, List.map_cons, List.map_nil]); first | done | rfl | (simp only [List.length_drop, List.length_take]; rfl)) ?_; (with_reducible refine (spilelaw46_cp.calls a0_0 _ _ l0_1 t613 t614 _ ?side1 ?side2 A97.out).mono ?_); (case side1 => repeat (first | exact (Kd.C_below HR0_1.out HB.out) | (with_reducible refine Kd.C_alloc ?_ _) | (with_reducible refine Kd.C_drewN ?_ _) | (with_reducible refine Kd.C_drew ?_))); (case side2 => exact HC0_1.out); rintro e w108 ⟨v615, rfl, ho0, hb⟩; refine ⟨_, rfl, ?_⟩; have n0_ := Aside0.mk (Kd.R_elder' (by (with_reducible repeat (first | apply Kd.R_alloc | apply Kd.R_drewN | apply Kd.R_drew)); exact HO_587001.out) (Kd.R_base ho0) hb); have n1_ := Aside0.mk (Kd.R_elder' (by (with_reducible repeat (first | apply Kd.R_alloc | apply Kd.R_drewN | apply Kd.R_drew)); exact HO_597001.out) (Kd.R_base ho0) hb); have n2_ := Aside0.mk (Kd.R_lower (Kd.R_newB (Kd.R_newB (Kd.R_new' (Kd.R_new' ho0 (Kd.R_lt (by (with_reducible repeat (first | apply Kd.R_alloc | apply Kd.R_drewN | apply Kd.R_drew)); exact HO_587001.out))) (Kd.R_lt (by (with_reducible repeat (first | apply Kd.R_alloc | apply Kd.R_drewN | apply Kd.R_drew)); exact HO_597001.out))) (bG BK573.out)) (bG BK605.out)) (below_size (eG HB.out))); have n3_ := Aside0.mk (blk_below (bG BK572.out) hb); have n4_ := Aside0.mk (blk_below (bG BK573.out) hb); have n5_ := Aside0.mk (blk_below (bG BK586.out) hb); have n6_ := Aside0.mk (blk_below (bG BK596.out) hb); have n7_ := Aside0.mk (blk_below (bG BK605.out) hb); have n8_ := Aside0.mk (below_step (eG HB.out) hb); clear HO_587001; clear HO_597001; clear BK572; clear BK573; clear BK586; clear BK596; clear BK605; clear HB; have HO_587001 := n0_; have HO_597001 := n1_; have HO616 := n2_; have BK572 := n3_; have BK573 := n4_; have BK586 := n5_; have BK596 := n6_; have BK605 := n7_; have HB := n8_; clear n0_ n1_ n2_ n3_ n4_ n5_ n6_ n7_ n8_; (try clear hb); (try clear hb2); (try clear hk); (try clear hi); (try clear ho0); obtain ⟨Ao109, co109, eo109⟩ := Kd.R_slice HO616.out; subst eo109) | ((with_reducible refine gate_callee (f := 26) rfl ?_); refine goesL_ (some 94) rfl rfl Tryz.func26 (by kernel_rfl) rfl #[.agg #[.int .i64 t613, .slice Ao109 t614.length co109], .int .i64 a2, .int .i64 a3, .int .i64 a4] rfl (by (try simp only [List.map_toArray, List.map_cons, List.map_nil]); first | done | rfl | (simp only [List.length_drop, List.length_take]; rfl)) ?_; (with_reducible refine (tariff_Duty.calls kj28 t613 _ _ t614 a2 a3 a4 t617 t618 _ ?side1 ?side2 A98.out).mono ?_); (case side1 => repeat (first | exact (Kd.R_reads' HO616.out).2.2 | (with_reducible refine Kd.C_alloc ?_ _) | (with_reducible refine Kd.C_drewN ?_ _) | (with_reducible refine Kd.C_drew ?_))); (case side2 => exact (Kd.R_reads' HO616.out).2.1); rintro e w110 ⟨rfl, hb⟩; refine ⟨_, rfl, ?_⟩; have n0_ := Aside0.mk (Kd.R_below (by (with_reducible repeat (first | apply Kd.R_alloc | apply Kd.R_drewN | apply Kd.R_drew)); exact HO_587001.out) hb); have n1_ := Aside0.mk (Kd.R_below (by (with_reducible repeat (first | apply Kd.R_alloc | apply Kd.R_drewN | apply Kd.R_drew)); exact HO_597001.out) hb); have n2_ := Aside0.mk (Kd.R_below (rG HO616.out) hb); have n3_ := Aside0.mk (blk_below (bG BK572.out) hb); have n4_ := Aside0.mk (blk_below (bG BK573.out) hb); have n5_ := Aside0.mk (blk_below (bG BK586.out) hb); have n6_ := Aside0.mk (blk_below (bG BK596.out) hb); have n7_ := Aside0.mk (blk_below (bG BK605.out) hb); have n8_ := Aside0.mk (below_step (eG HB.out) hb); clear HO_587001; clear HO_597001; clear HO616; clear BK572; clear BK573; clear BK586; clear BK596; clear BK605; clear HB; have HO_587001 := n0_; have HO_597001 := n1_; have HO616 := n2_; have BK572 := n3_; have BK573 := n4_; have BK586 := n5_; have BK596 := n6_; have BK605 := n7_; have HB := n8_; clear n0_ n1_ n2_ n3_ n4_ n5_ n6_ n7_ n8_; (try clear hb); (try clear hb2); (try clear hk); (try clear hi); have hnb111 := NB586_573.out; have hnc111 := NB573_586.out; have hnb112 := NB586_596.out; have hnc112 := NB596_586.out; have hnb113 := NB586_605.out; have hnc113 := NB605_586.out; have hcz114_0 : w110.cell? ⟨gb586, 0, none⟩ = some (.int .i64 t581) := (blk_cell BK586.out 0).trans rfl; have hcz114_1 : w110.cell? ⟨gb586, 1, none⟩ = some (.slice Ao37 t582.length co37) := (blk_cell BK586.out 1).trans rfl; have hfz114_0 := blk_frozen BK586.out 0; have hfz114_1 := blk_frozen BK586.out 1) | ((with_reducible refine gate_callee (f := 14) rfl ?_); refine goesL_ (some 99) rfl rfl Tryz.func14 (by kernel_rfl) rfl #[.agg #[.int .i64 t581, .slice Ao37 t582.length co37]] rfl (by (try simp only [List.map_toArray, List.map_cons, List.map_nil]); first | done | rfl | (simp only [List.length_drop, List.length_take]; rfl)) ?_; (with_reducible refine (spilelaw46_cp.calls t581 _ _ t582 t619 t620 _ ?side1 ?side2 A99.out).mono ?_); (case side1 => repeat (first | exact (Kd.R_reads' HO_587001.out).2.2 | (with_reducible refine Kd.C_alloc ?_ _) | (with_reducible refine Kd.C_drewN ?_ _) | (with_reducible refine Kd.C_drew ?_))); (case side2 => exact (Kd.R_reads' HO_587001.out).2.1); rintro e w115 ⟨v621, rfl, ho0, hb⟩; refine ⟨_, rfl, ?_⟩; have n0_ := Aside0.mk (Kd.R_elder' (by (with_reducible repeat (first | apply Kd.R_alloc | apply Kd.R_drewN | apply Kd.R_drew)); exact HO_587001.out) (Kd.R_base ho0) hb); have n1_ := Aside0.mk (Kd.R_elder' (by (with_reducible repeat (first | apply Kd.R_alloc | apply Kd.R_drewN | apply Kd.R_drew)); exact HO_597001.out) (Kd.R_base ho0) hb); have n2_ := Aside0.mk (Kd.R_elder' (rG HO616.out) (Kd.R_base ho0) hb); have n3_ := Aside0.mk (Kd.R_lower (Kd.R_newB (Kd.R_newB (Kd.R_new' (Kd.R_new' (Kd.R_new' ho0 (Kd.R_lt (by (with_reducible repeat (first | apply Kd.R_alloc | apply Kd.R_drewN | apply Kd.R_drew)); exact HO_587001.out))) (Kd.R_lt (by (with_reducible repeat (first | apply Kd.R_alloc | apply Kd.R_drewN | apply Kd.R_drew)); exact HO_597001.out))) (Kd.R_lt (rG HO616.out))) (bG BK573.out)) (bG BK605.out)) (below_size (eG HB.out))); have n4_ := Aside0.mk (blk_below (bG BK572.out) hb); have n5_ := Aside0.mk (blk_below (bG BK573.out) hb); have n6_ := Aside0.mk (blk_below (bG BK586.out) hb); have n7_ := Aside0.mk (blk_below (bG BK596.out) hb); have n8_ := Aside0.mk (blk_below (bG BK605.out) hb); have n9_ := Aside0.mk (below_step (eG HB.out) hb); clear HO_587001; clear HO_597001; clear HO616; clear BK572; clear BK573; clear BK586; clear BK596; clear BK605; clear HB; have HO_587001 := n0_; have HO_597001 := n1_; have HO616 := n2_; have HO622 := n3_; have BK572 := n4_; have BK573 := n5_; have BK586 := n6_; have BK596 := n7_; have BK605 := n8_; have HB := n9_; clear n0_ n1_ n2_ n3_ n4_ n5_ n6_ n7_ n8_ n9_; (try clear hb); (try clear hb2); (try clear hk); (try clear hi); (try clear ho0); obtain ⟨Ao116, co116, eo116⟩ := Kd.R_slice HO622.out; subst eo116) | ((with_reducible refine gate_callee (f := 26) rfl ?_); refine goesL_ (some 103) rfl rfl Tryz.func26 (by kernel_rfl) rfl #[.agg #[.int .i64 t619, .slice Ao116 t620.length co116], .int .i64 a2, .int .i64 a3, .int .i64 a4] rfl (by (try simp only [List.map_toArray, List.map_cons, List.map_nil]); first | done | rfl | (simp only [List.length_drop, List.length_take]; rfl)) ?_; (with_reducible refine (tariff_Duty.calls kj28 t619 _ _ t620 a2 a3 a4 t623 t624 _ ?side1 ?side2 A100.out).mono ?_); (case side1 => repeat (first | exact (Kd.R_reads' HO622.out).2.2 | (with_reducible refine Kd.C_alloc ?_ _) | (with_reducible refine Kd.C_drewN ?_ _) | (with_reducible refine Kd.C_drew ?_))); (case side2 => exact (Kd.R_reads' HO622.out).2.1); rintro e w117 ⟨rfl, hb⟩; refine ⟨_, rfl, ?_⟩; have n0_ := Aside0.mk (Kd.R_below (by (with_reducible repeat (first | apply Kd.R_alloc | apply Kd.R_drewN | apply Kd.R_drew)); exact HO_587001.out) hb); have n1_ := Aside0.mk (Kd.R_below (by (with_reducible repeat (first | apply Kd.R_alloc | apply Kd.R_drewN | apply Kd.R_drew)); exact HO_597001.out) hb); have n2_ := Aside0.mk (Kd.R_below (rG HO616.out) hb); have n3_ := Aside0.mk (Kd.R_below (rG HO622.out) hb); have n4_ := Aside0.mk (blk_below (bG BK572.out) hb); have n5_ := Aside0.mk (blk_below (bG BK573.out) hb); have n6_ := Aside0.mk (blk_below (bG BK586.out) hb); have n7_ := Aside0.mk (blk_below (bG BK596.out) hb); have n8_ := Aside0.mk (blk_below (bG BK605.out) hb); have n9_ := Aside0.mk (below_step (eG HB.out) hb); clear HO_587001; clear HO_597001; clear HO616; clear HO622; clear BK572; clear BK573; clear BK586; clear BK596; clear BK605; clear HB; have HO_587001 := n0_; have HO_597001 := n1_; have HO616 := n2_; have HO622 := n3_; have BK572 := n4_; have BK573 := n5_; have BK586 := n6_; have BK596 := n7_; have BK605 := n8_; have HB := n9_; clear n0_ n1_ n2_ n3_ n4_ n5_ n6_ n7_ n8_ n9_; (try clear hb); (try clear hb2); (try clear hk); (try clear hi); have hnb118 := NB573_596.out; have hnc118 := NB596_573.out; have hnb119 := NB573_605.out; have hnc119 := NB605_573.out; have hcz120_0 : w117.cell? ⟨gb573, 0, none⟩ = some (.int .i64 a1_0) := (blk_cell BK573.out 0).trans rfl; have hcz120_1 : w117.cell? ⟨gb573, 1, none⟩ = some (.int .i64 a1_1) := (blk_cell BK573.out 1).trans rfl; have hcz120_2 : w117.cell? ⟨gb573, 2, none⟩ = some (.int .i64 a1_2) := (blk_cell BK573.out 2).trans rfl; have hfz120_0 := blk_frozen BK573.out 0; have hfz120_1 := blk_frozen BK573.out 1; have hfz120_2 := blk_frozen BK573.out 2))
          go_ret
          exact ⟨by first | rfl | (simp [errW_none, errW_some] <;> rfl) | (simp [*, errW_none, errW_some] <;> rfl), eG HB.out⟩
         ·
          rw [if_neg c102] at H; have c102b0 : decide (a1_1 ≤ a3) = false := decide_eq_false c102; clear c102; by_cases c121 : t617 = t623
          ·
           rw [if_pos c121] at H; have c121b0 : (t617 == t623) = true := beq_iff_eq.mpr c121; have c121b1 : (t617 != t623) = false := bne_eq_false_iff_eq.mpr c121; clear c121; obtain rfl := Option.some.inj H; have hnb122 := NB572_573.out; have hnc122 := NB573_572.out; have hnb123 := NB572_586.out; have hnc123 := NB586_572.out; have hnb124 := NB572_596.out; have hnc124 := NB596_572.out; have hnb125 := NB572_605.out; have hnc125 := NB605_572.out; have hcz126_0 : wc.cell? ⟨gb572, 0, none⟩ = some (.int .i64 a0_0) := (blk_cell BK572.out 0).trans rfl; have hcz126_1 : wc.cell? ⟨gb572, 1, none⟩ = some (.slice A0_1 l0_1.length c0_1) := (blk_cell BK572.out 1).trans rfl; have hfz126_0 := blk_frozen BK572.out 0; have hfz126_1 := blk_frozen BK572.out 1; go_wp2_with (first | ((with_reducible refine gate_callee (f := 14) rfl ?_); refine goesL_ (some 90) rfl rfl Tryz.func14 (by kernel_rfl) rfl #[.agg #[.int .i64 a0_0, .slice A0_1 l0_1.length c0_1]] rfl (by (try simp only [List.map_toArray, List.map_cons, List.map_nil]); first | done | rfl | (simp only [List.length_drop, List.length_take]; rfl)) ?_; (with_reducible refine (spilelaw46_cp.calls a0_0 _ _ l0_1 t613 t614 _ ?side1 ?side2 A97.out).mono ?_); (case side1 => repeat (first | exact (Kd.C_below HR0_1.out HB.out) | (with_reducible refine Kd.C_alloc ?_ _) | (with_reducible refine Kd.C_drewN ?_ _) | (with_reducible refine Kd.C_drew ?_))); (case side2 => exact HC0_1.out); rintro e w127 ⟨v615, rfl, ho0, hb⟩; refine ⟨_, rfl, ?_⟩; have n0_ := Aside0.mk (Kd.R_elder' (by (with_reducible repeat (first | apply Kd.R_alloc | apply Kd.R_drewN | apply Kd.R_drew)); exact HO_587001.out) (Kd.R_base ho0) hb); have n1_ := Aside0.mk (Kd.R_elder' (by (with_reducible repeat (first | apply Kd.R_alloc | apply Kd.R_drewN | apply Kd.R_drew)); exact HO_597001.out) (Kd.R_base ho0) hb); have n2_ := Aside0.mk (Kd.R_lower (Kd.R_newB (Kd.R_newB (Kd.R_new' (Kd.R_new' ho0 (Kd.R_lt (by (with_reducible repeat (first | apply Kd.R_alloc | apply Kd.R_drewN | apply Kd.R_drew)); exact HO_587001.out))) (Kd.R_lt (by (with_reducible repeat (first | apply Kd.R_alloc | apply Kd.R_drewN | apply Kd.R_drew)); exact HO_597001.out))) (bG BK573.out)) (bG BK605.out)) (below_size (eG HB.out))); have n3_ := Aside0.mk (blk_below (bG BK572.out) hb); have n4_ := Aside0.mk (blk_below (bG BK573.out) hb); have n5_ := Aside0.mk (blk_below (bG BK586.out) hb); have n6_ := Aside0.mk (blk_below (bG BK596.out) hb); have n7_ := Aside0.mk (blk_below (bG BK605.out) hb); have n8_ := Aside0.mk (below_step (eG HB.out) hb); clear HO_587001; clear HO_597001; clear BK572; clear BK573; clear BK586; clear BK596; clear BK605; clear HB; have HO_587001 := n0_; have HO_597001 := n1_; have HO616 := n2_; have BK572 := n3_; have BK573 := n4_; have BK586 := n5_; have BK596 := n6_; have BK605 := n7_; have HB := n8_; clear n0_ n1_ n2_ n3_ n4_ n5_ n6_ n7_ n8_; (try clear hb); (try clear hb2); (try clear hk); (try clear hi); (try clear ho0); obtain ⟨Ao128, co128, eo128⟩ := Kd.R_slice HO616.out; subst eo128) | ((with_reducible refine gate_callee (f := 26) rfl ?_); refine goesL_ (some 94) rfl rfl Tryz.func26 (by kernel_rfl) rfl #[.agg #[.int .i64 t613, .slice Ao128 t614.length co128], .int .i64 a2, .int .i64 a3, .int .i64 a4] rfl (by (try simp only [List.map_toArray, List.map_cons, List.map_nil]); first | done | rfl | (simp only [List.length_drop, List.length_take]; rfl)) ?_; (with_reducible refine (tariff_Duty.calls kj28 t613 _ _ t614 a2 a3 a4 t617 t618 _ ?side1 ?side2 A98.out).mono ?_); (case side1 => repeat (first | exact (Kd.R_reads' HO616.out).2.2 | (with_reducible refine Kd.C_alloc ?_ _) | (with_reducible refine Kd.C_drewN ?_ _) | (with_reducible refine Kd.C_drew ?_))); (case side2 => exact (Kd.R_reads' HO616.out).2.1); rintro e w129 ⟨rfl, hb⟩; refine ⟨_, rfl, ?_⟩; have n0_ := Aside0.mk (Kd.R_below (by (with_reducible repeat (first | apply Kd.R_alloc | apply Kd.R_drewN | apply Kd.R_drew)); exact HO_587001.out) hb); have n1_ := Aside0.mk (Kd.R_below (by (with_reducible repeat (first | apply Kd.R_alloc | apply Kd.R_drewN | apply Kd.R_drew)); exact HO_597001.out) hb); have n2_ := Aside0.mk (Kd.R_below (rG HO616.out) hb); have n3_ := Aside0.mk (blk_below (bG BK572.out) hb); have n4_ := Aside0.mk (blk_below (bG BK573.out) hb); have n5_ := Aside0.mk (blk_below (bG BK586.out) hb); have n6_ := Aside0.mk (blk_below (bG BK596.out) hb); have n7_ := Aside0.mk (blk_below (bG BK605.out) hb); have n8_ := Aside0.mk (below_step (eG HB.out) hb); clear HO_587001; clear HO_597001; clear HO616; clear BK572; clear BK573; clear BK586; clear BK596; clear BK605; clear HB; have HO_587001 := n0_; have HO_597001 := n1_; have HO616 := n2_; have BK572 := n3_; have BK573 := n4_; have BK586 := n5_; have BK596 := n6_; have BK605 := n7_; have HB := n8_; clear n0_ n1_ n2_ n3_ n4_ n5_ n6_ n7_ n8_; (try clear hb); (try clear hb2); (try clear hk); (try clear hi); have hnb130 := NB586_573.out; have hnc130 := NB573_586.out; have hnb131 := NB586_596.out; have hnc131 := NB596_586.out; have hnb132 := NB586_605.out; have hnc132 := NB605_586.out; have hcz133_0 : w129.cell? ⟨gb586, 0, none⟩ = some (.int .i64 t581) := (blk_cell BK586.out 0).trans rfl; have hcz133_1 : w129.cell? ⟨gb586, 1, none⟩ = some (.slice Ao37 t582.length co37) := (blk_cell BK586.out 1).trans rfl; have hfz133_0 := blk_frozen BK586.out 0; have hfz133_1 := blk_frozen BK586.out 1) | ((with_reducible refine gate_callee (f := 14) rfl ?_); refine goesL_ (some 99) rfl rfl Tryz.func14 (by kernel_rfl) rfl #[.agg #[.int .i64 t581, .slice Ao37 t582.length co37]] rfl (by (try simp only [List.map_toArray, List.map_cons, List.map_nil]); first | done | rfl | (simp only [List.length_drop, List.length_take]; rfl)) ?_; (with_reducible refine (spilelaw46_cp.calls t581 _ _ t582 t619 t620 _ ?side1 ?side2 A99.out).mono ?_); (case side1 => repeat (first | exact (Kd.R_reads' HO_587001.out).2.2 | (with_reducible refine Kd.C_alloc ?_ _) | (with_reducible refine Kd.C_drewN ?_ _) | (with_reducible refine Kd.C_drew ?_))); (case side2 => exact (Kd.R_reads' HO_587001.out).2.1); rintro e w134 ⟨v621, rfl, ho0, hb⟩; refine ⟨_, rfl, ?_⟩; have n0_ := Aside0.mk (Kd.R_elder' (by (with_reducible repeat (first | apply Kd.R_alloc | apply Kd.R_drewN | apply Kd.R_drew)); exact HO_587001.out) (Kd.R_base ho0) hb); have n1_ := Aside0.mk (Kd.R_elder' (by (with_reducible repeat (first | apply Kd.R_alloc | apply Kd.R_drewN | apply Kd.R_drew)); exact HO_597001.out) (Kd.R_base ho0) hb); have n2_ := Aside0.mk (Kd.R_elder' (rG HO616.out) (Kd.R_base ho0) hb); have n3_ := Aside0.mk (Kd.R_lower (Kd.R_newB (Kd.R_newB (Kd.R_new' (Kd.R_new' (Kd.R_new' ho0 (Kd.R_lt (by (with_reducible repeat (first | apply Kd.R_alloc | apply Kd.R_drewN | apply Kd.R_drew)); exact HO_587001.out))) (Kd.R_lt (by (with_reducible repeat (first | apply Kd.R_alloc | apply Kd.R_drewN | apply Kd.R_drew)); exact HO_597001.out))) (Kd.R_lt (rG HO616.out))) (bG BK573.out)) (bG BK605.out)) (below_size (eG HB.out))); have n4_ := Aside0.mk (blk_below (bG BK572.out) hb); have n5_ := Aside0.mk (blk_below (bG BK573.out) hb); have n6_ := Aside0.mk (blk_below (bG BK586.out) hb); have n7_ := Aside0.mk (blk_below (bG BK596.out) hb); have n8_ := Aside0.mk (blk_below (bG BK605.out) hb); have n9_ := Aside0.mk (below_step (eG HB.out) hb); clear HO_587001; clear HO_597001; clear HO616; clear BK572; clear BK573; clear BK586; clear BK596; clear BK605; clear HB; have HO_587001 := n0_; have HO_597001 := n1_; have HO616 := n2_; have HO622 := n3_; have BK572 := n4_; have BK573 := n5_; have BK586 := n6_; have BK596 := n7_; have BK605 := n8_; have HB := n9_; clear n0_ n1_ n2_ n3_ n4_ n5_ n6_ n7_ n8_ n9_; (try clear hb); (try clear hb2); (try clear hk); (try clear hi); (try clear ho0); obtain ⟨Ao135, co135, eo135⟩ := Kd.R_slice HO622.out; subst eo135) | ((with_reducible refine gate_callee (f := 26) rfl ?_); refine goesL_ (some 103) rfl rfl Tryz.func26 (by kernel_rfl) rfl #[.agg #[.int .i64 t619, .slice Ao135 t620.length co135], .int .i64 a2, .int .i64 a3, .int .i64 a4] rfl (by (try simp only [List.map_toArray, List.map_cons, List.map_nil]); first | done | rfl | (simp only [List.length_drop, List.length_take]; rfl)) ?_; (with_reducible refine (tariff_Duty.calls kj28 t619 _ _ t620 a2 a3 a4 t623 t624 _ ?side1 ?side2 A100.out).mono ?_); (case side1 => repeat (first | exact (Kd.R_reads' HO622.out).2.2 | (with_reducible refine Kd.C_alloc ?_ _) | (with_reducible refine Kd.C_drewN ?_ _) | (with_reducible refine Kd.C_drew ?_))); (case side2 => exact (Kd.R_reads' HO622.out).2.1); rintro e w136 ⟨rfl, hb⟩; refine ⟨_, rfl, ?_⟩; have n0_ := Aside0.mk (Kd.R_below (by (with_reducible repeat (first | apply Kd.R_alloc | apply Kd.R_drewN | apply Kd.R_drew)); exact HO_587001.out) hb); have n1_ := Aside0.mk (Kd.R_below (by (with_reducible repeat (first | apply Kd.R_alloc | apply Kd.R_drewN | apply Kd.R_drew)); exact HO_597001.out) hb); have n2_ := Aside0.mk (Kd.R_below (rG HO616.out) hb); have n3_ := Aside0.mk (Kd.R_below (rG HO622.out) hb); have n4_ := Aside0.mk (blk_below (bG BK572.out) hb); have n5_ := Aside0.mk (blk_below (bG BK573.out) hb); have n6_ := Aside0.mk (blk_below (bG BK586.out) hb); have n7_ := Aside0.mk (blk_below (bG BK596.out) hb); have n8_ := Aside0.mk (blk_below (bG BK605.out) hb); have n9_ := Aside0.mk (below_step (eG HB.out) hb); clear HO_587001; clear HO_597001; clear HO616; clear HO622; clear BK572; clear BK573; clear BK586; clear BK596; clear BK605; clear HB; have HO_587001 := n0_; have HO_597001 := n1_; have HO616 := n2_; have HO622 := n3_; have BK572 := n4_; have BK573 := n5_; have BK586 := n6_; have BK596 := n7_; have BK605 := n8_; have HB := n9_; clear n0_ n1_ n2_ n3_ n4_ n5_ n6_ n7_ n8_ n9_; (try clear hb); (try clear hb2); (try clear hk); (try clear hi); have hnb137 := NB573_596.out; have hnc137 := NB596_573.out; have hnb138 := NB573_605.out; have hnc138 := NB605_573.out; have hcz139_0 : w136.cell? ⟨gb573, 0, none⟩ = some (.int .i64 a1_0) := (blk_cell BK573.out 0).trans rfl; have hcz139_1 : w136.cell? ⟨gb573, 1, none⟩ = some (.int .i64 a1_1) := (blk_cell BK573.out 1).trans rfl; have hcz139_2 : w136.cell? ⟨gb573, 2, none⟩ = some (.int .i64 a1_2) := (blk_cell BK573.out 2).trans rfl; have hfz139_0 := blk_frozen BK573.out 0; have hfz139_1 := blk_frozen BK573.out 1; have hfz139_2 := blk_frozen BK573.out 2))
           go_ret
           exact ⟨by first | rfl | (simp [errW_none, errW_some] <;> rfl) | (simp [*, errW_none, errW_some] <;> rfl), eG HB.out⟩
          · rw [if_neg c121] at H; have c121b0 : (t617 == t623) = false := beq_eq_false_iff_ne.mpr c121; have c121b1 : (t617 != t623) = true := bne_iff_ne.mpr c121; subst hr_; exact absurd H (by simp)
        ·
         rw [if_neg c101] at H; have c101b0 : (a2 == a1_0) = false := beq_eq_false_iff_ne.mpr c101; have c101b1 : (a2 != a1_0) = true := bne_iff_ne.mpr c101; by_cases c140 : t617 = t623
         ·
          rw [if_pos c140] at H; have c140b0 : (t617 == t623) = true := beq_iff_eq.mpr c140; have c140b1 : (t617 != t623) = false := bne_eq_false_iff_eq.mpr c140; clear c140; obtain rfl := Option.some.inj H; have hnb141 := NB572_573.out; have hnc141 := NB573_572.out; have hnb142 := NB572_586.out; have hnc142 := NB586_572.out; have hnb143 := NB572_596.out; have hnc143 := NB596_572.out; have hnb144 := NB572_605.out; have hnc144 := NB605_572.out; have hcz145_0 : wc.cell? ⟨gb572, 0, none⟩ = some (.int .i64 a0_0) := (blk_cell BK572.out 0).trans rfl; have hcz145_1 : wc.cell? ⟨gb572, 1, none⟩ = some (.slice A0_1 l0_1.length c0_1) := (blk_cell BK572.out 1).trans rfl; have hfz145_0 := blk_frozen BK572.out 0; have hfz145_1 := blk_frozen BK572.out 1; go_wp2_with (first | ((with_reducible refine gate_callee (f := 14) rfl ?_); refine goesL_ (some 90) rfl rfl Tryz.func14 (by kernel_rfl) rfl #[.agg #[.int .i64 a0_0, .slice A0_1 l0_1.length c0_1]] rfl (by (try simp only [List.map_toArray, List.map_cons, List.map_nil]); first | done | rfl | (simp only [List.length_drop, List.length_take]; rfl)) ?_; (with_reducible refine (spilelaw46_cp.calls a0_0 _ _ l0_1 t613 t614 _ ?side1 ?side2 A97.out).mono ?_); (case side1 => repeat (first | exact (Kd.C_below HR0_1.out HB.out) | (with_reducible refine Kd.C_alloc ?_ _) | (with_reducible refine Kd.C_drewN ?_ _) | (with_reducible refine Kd.C_drew ?_))); (case side2 => exact HC0_1.out); rintro e w146 ⟨v615, rfl, ho0, hb⟩; refine ⟨_, rfl, ?_⟩; have n0_ := Aside0.mk (Kd.R_elder' (by (with_reducible repeat (first | apply Kd.R_alloc | apply Kd.R_drewN | apply Kd.R_drew)); exact HO_587001.out) (Kd.R_base ho0) hb); have n1_ := Aside0.mk (Kd.R_elder' (by (with_reducible repeat (first | apply Kd.R_alloc | apply Kd.R_drewN | apply Kd.R_drew)); exact HO_597001.out) (Kd.R_base ho0) hb); have n2_ := Aside0.mk (Kd.R_lower (Kd.R_newB (Kd.R_newB (Kd.R_new' (Kd.R_new' ho0 (Kd.R_lt (by (with_reducible repeat (first | apply Kd.R_alloc | apply Kd.R_drewN | apply Kd.R_drew)); exact HO_587001.out))) (Kd.R_lt (by (with_reducible repeat (first | apply Kd.R_alloc | apply Kd.R_drewN | apply Kd.R_drew)); exact HO_597001.out))) (bG BK573.out)) (bG BK605.out)) (below_size (eG HB.out))); have n3_ := Aside0.mk (blk_below (bG BK572.out) hb); have n4_ := Aside0.mk (blk_below (bG BK573.out) hb); have n5_ := Aside0.mk (blk_below (bG BK586.out) hb); have n6_ := Aside0.mk (blk_below (bG BK596.out) hb); have n7_ := Aside0.mk (blk_below (bG BK605.out) hb); have n8_ := Aside0.mk (below_step (eG HB.out) hb); clear HO_587001; clear HO_597001; clear BK572; clear BK573; clear BK586; clear BK596; clear BK605; clear HB; have HO_587001 := n0_; have HO_597001 := n1_; have HO616 := n2_; have BK572 := n3_; have BK573 := n4_; have BK586 := n5_; have BK596 := n6_; have BK605 := n7_; have HB := n8_; clear n0_ n1_ n2_ n3_ n4_ n5_ n6_ n7_ n8_; (try clear hb); (try clear hb2); (try clear hk); (try clear hi); (try clear ho0); obtain ⟨Ao147, co147, eo147⟩ := Kd.R_slice HO616.out; subst eo147) | ((with_reducible refine gate_callee (f := 26) rfl ?_); refine goesL_ (some 94) rfl rfl Tryz.func26 (by kernel_rfl) rfl #[.agg #[.int .i64 t613, .slice Ao147 t614.length co147], .int .i64 a2, .int .i64 a3, .int .i64 a4] rfl (by (try simp only [List.map_toArray, List.map_cons, List.map_nil]); first | done | rfl | (simp only [List.length_drop, List.length_take]; rfl)) ?_; (with_reducible refine (tariff_Duty.calls kj28 t613 _ _ t614 a2 a3 a4 t617 t618 _ ?side1 ?side2 A98.out).mono ?_); (case side1 => repeat (first | exact (Kd.R_reads' HO616.out).2.2 | (with_reducible refine Kd.C_alloc ?_ _) | (with_reducible refine Kd.C_drewN ?_ _) | (with_reducible refine Kd.C_drew ?_))); (case side2 => exact (Kd.R_reads' HO616.out).2.1); rintro e w148 ⟨rfl, hb⟩; refine ⟨_, rfl, ?_⟩; have n0_ := Aside0.mk (Kd.R_below (by (with_reducible repeat (first | apply Kd.R_alloc | apply Kd.R_drewN | apply Kd.R_drew)); exact HO_587001.out) hb); have n1_ := Aside0.mk (Kd.R_below (by (with_reducible repeat (first | apply Kd.R_alloc | apply Kd.R_drewN | apply Kd.R_drew)); exact HO_597001.out) hb); have n2_ := Aside0.mk (Kd.R_below (rG HO616.out) hb); have n3_ := Aside0.mk (blk_below (bG BK572.out) hb); have n4_ := Aside0.mk (blk_below (bG BK573.out) hb); have n5_ := Aside0.mk (blk_below (bG BK586.out) hb); have n6_ := Aside0.mk (blk_below (bG BK596.out) hb); have n7_ := Aside0.mk (blk_below (bG BK605.out) hb); have n8_ := Aside0.mk (below_step (eG HB.out) hb); clear HO_587001; clear HO_597001; clear HO616; clear BK572; clear BK573; clear BK586; clear BK596; clear BK605; clear HB; have HO_587001 := n0_; have HO_597001 := n1_; have HO616 := n2_; have BK572 := n3_; have BK573 := n4_; have BK586 := n5_; have BK596 := n6_; have BK605 := n7_; have HB := n8_; clear n0_ n1_ n2_ n3_ n4_ n5_ n6_ n7_ n8_; (try clear hb); (try clear hb2); (try clear hk); (try clear hi); have hnb149 := NB586_573.out; have hnc149 := NB573_586.out; have hnb150 := NB586_596.out; have hnc150 := NB596_586.out; have hnb151 := NB586_605.out; have hnc151 := NB605_586.out; have hcz152_0 : w148.cell? ⟨gb586, 0, none⟩ = some (.int .i64 t581) := (blk_cell BK586.out 0).trans rfl; have hcz152_1 : w148.cell? ⟨gb586, 1, none⟩ = some (.slice Ao37 t582.length co37) := (blk_cell BK586.out 1).trans rfl; have hfz152_0 := blk_frozen BK586.out 0; have hfz152_1 := blk_frozen BK586.out 1) | ((with_reducible refine gate_callee (f := 14) rfl ?_); refine goesL_ (some 99) rfl rfl Tryz.func14 (by kernel_rfl) rfl #[.agg #[.int .i64 t581, .slice Ao37 t582.length co37]] rfl (by (try simp only [List.map_toArray, List.map_cons, List.map_nil]); first | done | rfl | (simp only [List.length_drop, List.length_take]; rfl)) ?_; (with_reducible refine (spilelaw46_cp.calls t581 _ _ t582 t619 t620 _ ?side1 ?side2 A99.out).mono ?_); (case side1 => repeat (first | exact (Kd.R_reads' HO_587001.out).2.2 | (with_reducible refine Kd.C_alloc ?_ _) | (with_reducible refine Kd.C_drewN ?_ _) | (with_reducible refine Kd.C_drew ?_))); (case side2 => exact (Kd.R_reads' HO_587001.out).2.1); rintro e w153 ⟨v621, rfl, ho0, hb⟩; refine ⟨_, rfl, ?_⟩; have n0_ := Aside0.mk (Kd.R_elder' (by (with_reducible repeat (first | apply Kd.R_alloc | apply Kd.R_drewN | apply Kd.R_drew)); exact HO_587001.out) (Kd.R_base ho0) hb); have n1_ := Aside0.mk (Kd.R_elder' (by (with_reducible repeat (first | apply Kd.R_alloc | apply Kd.R_drewN | apply Kd.R_drew)); exact HO_597001.out) (Kd.R_base ho0) hb); have n2_ := Aside0.mk (Kd.R_elder' (rG HO616.out) (Kd.R_base ho0) hb); have n3_ := Aside0.mk (Kd.R_lower (Kd.R_newB (Kd.R_newB (Kd.R_new' (Kd.R_new' (Kd.R_new' ho0 (Kd.R_lt (by (with_reducible repeat (first | apply Kd.R_alloc | apply Kd.R_drewN | apply Kd.R_drew)); exact HO_587001.out))) (Kd.R_lt (by (with_reducible repeat (first | apply Kd.R_alloc | apply Kd.R_drewN | apply Kd.R_drew)); exact HO_597001.out))) (Kd.R_lt (rG HO616.out))) (bG BK573.out)) (bG BK605.out)) (below_size (eG HB.out))); have n4_ := Aside0.mk (blk_below (bG BK572.out) hb); have n5_ := Aside0.mk (blk_below (bG BK573.out) hb); have n6_ := Aside0.mk (blk_below (bG BK586.out) hb); have n7_ := Aside0.mk (blk_below (bG BK596.out) hb); have n8_ := Aside0.mk (blk_below (bG BK605.out) hb); have n9_ := Aside0.mk (below_step (eG HB.out) hb); clear HO_587001; clear HO_597001; clear HO616; clear BK572; clear BK573; clear BK586; clear BK596; clear BK605; clear HB; have HO_587001 := n0_; have HO_597001 := n1_; have HO616 := n2_; have HO622 := n3_; have BK572 := n4_; have BK573 := n5_; have BK586 := n6_; have BK596 := n7_; have BK605 := n8_; have HB := n9_; clear n0_ n1_ n2_ n3_ n4_ n5_ n6_ n7_ n8_ n9_; (try clear hb); (try clear hb2); (try clear hk); (try clear hi); (try clear ho0); obtain ⟨Ao154, co154, eo154⟩ := Kd.R_slice HO622.out; subst eo154) | ((with_reducible refine gate_callee (f := 26) rfl ?_); refine goesL_ (some 103) rfl rfl Tryz.func26 (by kernel_rfl) rfl #[.agg #[.int .i64 t619, .slice Ao154 t620.length co154], .int .i64 a2, .int .i64 a3, .int .i64 a4] rfl (by (try simp only [List.map_toArray, List.map_cons, List.map_nil]); first | done | rfl | (simp only [List.length_drop, List.length_take]; rfl)) ?_; (with_reducible refine (tariff_Duty.calls kj28 t619 _ _ t620 a2 a3 a4 t623 t624 _ ?side1 ?side2 A100.out).mono ?_); (case side1 => repeat (first | exact (Kd.R_reads' HO622.out).2.2 | (with_reducible refine Kd.C_alloc ?_ _) | (with_reducible refine Kd.C_drewN ?_ _) | (with_reducible refine Kd.C_drew ?_))); (case side2 => exact (Kd.R_reads' HO622.out).2.1); rintro e w155 ⟨rfl, hb⟩; refine ⟨_, rfl, ?_⟩; have n0_ := Aside0.mk (Kd.R_below (by (with_reducible repeat (first | apply Kd.R_alloc | apply Kd.R_drewN | apply Kd.R_drew)); exact HO_587001.out) hb); have n1_ := Aside0.mk (Kd.R_below (by (with_reducible repeat (first | apply Kd.R_alloc | apply Kd.R_drewN | apply Kd.R_drew)); exact HO_597001.out) hb); have n2_ := Aside0.mk (Kd.R_below (rG HO616.out) hb); have n3_ := Aside0.mk (Kd.R_below (rG HO622.out) hb); have n4_ := Aside0.mk (blk_below (bG BK572.out) hb); have n5_ := Aside0.mk (blk_below (bG BK573.out) hb); have n6_ := Aside0.mk (blk_below (bG BK586.out) hb); have n7_ := Aside0.mk (blk_below (bG BK596.out) hb); have n8_ := Aside0.mk (blk_below (bG BK605.out) hb); have n9_ := Aside0.mk (below_step (eG HB.out) hb); clear HO_587001; clear HO_597001; clear HO616; clear HO622; clear BK572; clear BK573; clear BK586; clear BK596; clear BK605; clear HB; have HO_587001 := n0_; have HO_597001 := n1_; have HO616 := n2_; have HO622 := n3_; have BK572 := n4_; have BK573 := n5_; have BK586 := n6_; have BK596 := n7_; have BK605 := n8_; have HB := n9_; clear n0_ n1_ n2_ n3_ n4_ n5_ n6_ n7_ n8_ n9_; (try clear hb); (try clear hb2); (try clear hk); (try clear hi); have hnb156 := NB573_596.out; have hnc156 := NB596_573.out; have hnb157 := NB573_605.out; have hnc157 := NB605_573.out; have hcz158_0 : w155.cell? ⟨gb573, 0, none⟩ = some (.int .i64 a1_0) := (blk_cell BK573.out 0).trans rfl; have hcz158_1 : w155.cell? ⟨gb573, 1, none⟩ = some (.int .i64 a1_1) := (blk_cell BK573.out 1).trans rfl; have hcz158_2 : w155.cell? ⟨gb573, 2, none⟩ = some (.int .i64 a1_2) := (blk_cell BK573.out 2).trans rfl; have hfz158_0 := blk_frozen BK573.out 0; have hfz158_1 := blk_frozen BK573.out 1; have hfz158_2 := blk_frozen BK573.out 2))
          go_ret
          exact ⟨by first | rfl | (simp [errW_none, errW_some] <;> rfl) | (simp [*, errW_none, errW_some] <;> rfl), eG HB.out⟩
         · rw [if_neg c140] at H; have c140b0 : (t617 == t623) = false := beq_eq_false_iff_ne.mpr c140; have c140b1 : (t617 != t623) = true := bne_iff_ne.mpr c140; subst hr_; exact absurd H (by simp)
    ·
     rw [if_neg c22] at H; have c22b0 : (t585 == 0) = false := beq_eq_false_iff_ne.mpr c22; have c22b1 : (t585 != 0) = true := bne_iff_ne.mpr c22; obtain rfl := Option.some.inj H; try go_wp2
     have n0_ := Aside0.mk (blk_drew BK572.out); have n1_ := Aside0.mk (blk_drew BK573.out); have n2_ := Aside0.mk (below_drew1 HB.out); clear BK572; clear BK573; clear HB; have BK572 := n0_; have BK573 := n1_; have HB := n2_; clear n0_ n1_ n2_; refine start_ (n := 10) (S := fun w' => w'.cell? ⟨gb572, 0, none⟩ = some (.int .i64 a0_0) ∧ w'.cell? ⟨gb572, 1, none⟩ = some (.slice A0_1 l0_1.length c0_1) ∧ w'.cell? ⟨gb573, 0, none⟩ = some (.int .i64 a1_0) ∧ w'.cell? ⟨gb573, 1, none⟩ = some (.int .i64 a1_1) ∧ w'.cell? ⟨gb573, 2, none⟩ = some (.int .i64 a1_2)) (ds := []) #[false, false, false, false, false, false, false, false, false, false] (by kernel_rfl) rfl rfl ⟨(blk_cell BK572.out 0).trans rfl, (blk_cell BK572.out 1).trans rfl, (blk_cell BK573.out 0).trans rfl, (blk_cell BK573.out 1).trans rfl, (blk_cell BK573.out 2).trans rfl⟩ (fun hHeld => ?_); refine with_tabW spilelaw46_TariffLater.tab3 spilelaw46_TariffLater.bits3 (fun HT_ HW_ => ?_)
     generalize wc.drew = w159 at BK572 BK573 HB hHeld ⊢; refine take_ (i := 0) (N := some 32) (v := ?_) (a' := ?_) #[true, false, false, false, false, false, false, false, false, false] rfl rfl (take_ofW HT_.out HW_.out (by kernel_rfl)) (fun _ _ _ h => h) (Or.inl ⟨by rfl, ?_⟩) hHeld ?_ ?_; rotate_left
     · rintro w' ⟨s0, s1, s2, s3, s4⟩; go_simp; with_reducible rfl
     rotate_left
     · simp only [Act.put, sIA, sC0, sCS, i64_w, i32_w]; rfl
     refine take_ (i := 2) (N := some 34) (v := ?_) (a' := ?_) #[true, false, true, false, false, false, false, false, false, false] rfl rfl (take_ofW HT_.out HW_.out (by kernel_rfl)) (fun _ _ _ h => h) (Or.inl ⟨by rfl, ?_⟩) hHeld ?_ ?_; rotate_left
     · rintro w' ⟨s0, s1, s2, s3, s4⟩; go_simp; with_reducible rfl
     rotate_left
     · simp only [Act.put, sIA, sC0, sCS, i64_w, i32_w]; rfl
     refine join_ (σ := Value × Value × Nat) 2 #[true, true, true, true, true, true, true, true, false, false] (fun s_ => [(33, .agg #[.int .i64 t577, s_.1]), (35, .tuple #[.agg #[.int .i64 t581, s_.2.1], .int .i64 t585]), (11, .pointer (some ⟨s_.2.2, 0, none⟩)), (31, .tuple #[.agg #[.int .i64 t581, s_.2.1], .int .i64 t585]), (36, .agg #[.int .i64 t581, s_.2.1]), (37, .int .i64 t585)]) (fun s_ w' => (w'.cell? ⟨gb572, 0, none⟩ = some (.int .i64 a0_0) ∧ w'.cell? ⟨gb572, 1, none⟩ = some (.slice A0_1 l0_1.length c0_1) ∧ w'.cell? ⟨gb573, 0, none⟩ = some (.int .i64 a1_0) ∧ w'.cell? ⟨gb573, 1, none⟩ = some (.int .i64 a1_1) ∧ w'.cell? ⟨gb573, 2, none⟩ = some (.int .i64 a1_2)) ∧ (Kd.R k26 26 w' w.heap.size (fun k_ => some k_ ≠ (s_.2.1 : Value).ownBlock ∧ k_ ≠ gb573) s_.1 t578) ∧ (Kd.R k26 26 w' w.heap.size (fun k_ => some k_ ≠ (s_.1 : Value).ownBlock ∧ k_ ≠ gb573) s_.2.1 t582) ∧ (w'.heap[gb572]? = some (.cells #[.int .i64 a0_0, .slice A0_1 l0_1.length c0_1] 24 (0, 0))) ∧ (w'.heap[gb573]? = some (.cells #[.int .i64 a1_0, .int .i64 a1_1, .int .i64 a1_2] 26 (0, 0))) ∧ (w'.heap[s_.2.2]? = some (.cells #[.int .i64 0, .slice none 0 0] 24 (0, 0))) ∧ (w.heap.size ≤ s_.2.2) ∧ (w.heap.size ≤ s_.2.2) ∧ (gb572 ≠ s_.2.2) ∧ (s_.2.2 ≠ gb572) ∧ (gb573 ≠ s_.2.2) ∧ (s_.2.2 ≠ gb573) ∧ (Below w.heap.size w w')) ?_ ?_; rotate_left
     ·
      intro hCont; refine two_ (i := 1) (j := 7) (Ni := some 33) (Nj := some 11) #[true, true, true, false, false, false, false, false, false, false] #[true, false, true, false, false, false, false, true, false, false] rfl rfl rfl rfl (two_of HT_.out (by kernel_rfl)) (by decide) (by decide) (fun K hK => ?_) (fun K hK => ?_)
      ·
       skip
       refine goes_ Tryz.func14 (by kernel_rfl) rfl #[.agg #[.int .i64 a0_0, .slice A0_1 l0_1.length c0_1]] (by rfl) rfl rfl (by (try simp only [List.map_toArray, List.map_cons, List.map_nil]); first | done | rfl | (simp only [List.length_drop, List.length_take]; rfl)) ?_; with_reducible refine (spilelaw46_cp.calls a0_0 _ _ l0_1 t577 t578 _ ?side1 ?side2 A20.out).mono ?_
       (case side1 => repeat (first | exact (Kd.C_below HR0_1.out HB.out) | (with_reducible refine Kd.C_alloc ?_ _) | (with_reducible refine Kd.C_drewN ?_ _) | (with_reducible refine Kd.C_drew ?_)))
       (case side2 => exact HC0_1.out)
       rintro e w160 ⟨v579, rfl, ho0, hb⟩; refine ⟨_, rfl, ?_⟩; have n0_ := Aside0.mk (Kd.R_lower (Kd.R_newB ho0 (bG BK573.out)) (below_size (eG HB.out))); have n1_ := Aside0.mk (blk_below (bG BK572.out) hb); have n2_ := Aside0.mk (blk_below (bG BK573.out) hb); have n3_ := Aside0.mk (below_step (eG HB.out) hb); clear BK572; clear BK573; clear HB; have HO580 := n0_; have BK572 := n1_; have BK573 := n2_; have HB := n3_; clear n0_ n1_ n2_ n3_; (try clear hb)
       (try clear hb2)
       (try clear hk)
       (try clear hi)
       (try clear ho0)
       obtain ⟨Ao161, co161, eo161⟩ := Kd.R_slice HO580.out; (first | subst eo161 | (injection eo161 with f1_ f2_ f3_; have f4_ := f1_.symm; have f5_ := f3_.symm; clear f1_ f2_ f3_; subst f4_; subst f5_))
       refine hK.out _ _ ⟨(blk_cell BK572.out 0).trans rfl, (blk_cell BK572.out 1).trans rfl, (blk_cell BK573.out 0).trans rfl, (blk_cell BK573.out 1).trans rfl, (blk_cell BK573.out 2).trans rfl⟩ (fun hHeld => ?_); clear hK K; refine norm_ (a' := ?_) ?_ ?_; rotate_left
       ·
        show Act.put _ (some 33) _ = _
        simp only [Act.put, sIA, sC0, sCS, i64_w, i32_w]; rfl
       refine two_ (i := 3) (j := 7) (Ni := some 35) (Nj := some 11) #[true, true, true, true, false, false, false, false, false, false] #[true, true, true, false, false, false, false, true, false, false] rfl rfl rfl rfl (two_of HT_.out (by kernel_rfl)) (by decide) (by decide) (fun K hK => ?_) (fun K hK => ?_)
       ·
        skip
        refine goes_ Tryz.func16 (by kernel_rfl) rfl #[.agg #[.int .i64 t577, .slice Ao161 t578.length co161], .agg #[.int .i64 a1_0, .int .i64 a1_1, .int .i64 a1_2]] (by rfl) rfl rfl (by (try simp only [List.map_toArray, List.map_cons, List.map_nil]); first | done | rfl | (simp only [List.length_drop, List.length_take]; rfl)) ?_; with_reducible refine (tariff_Insert.calls kj5 t577 _ _ t578 a1_0 a1_1 a1_2 t581 t582 t585 _ ?side1 ?side2 A21.out).mono ?_
        (case side1 => repeat (first | exact (Kd.R_reads' HO580.out).2.2 | (with_reducible refine Kd.C_alloc ?_ _) | (with_reducible refine Kd.C_drewN ?_ _) | (with_reducible refine Kd.C_drew ?_)))
        (case side2 => exact (Kd.R_reads' HO580.out).2.1)
        rintro e w162 ⟨v583, rfl, ho0, hb⟩; refine ⟨_, rfl, ?_⟩; have n0_ := Aside0.mk (Kd.R_elder' (rG HO580.out) (Kd.R_base ho0) hb); have n1_ := Aside0.mk (Kd.R_lower (Kd.R_newB (Kd.R_new' ho0 (Kd.R_lt (rG HO580.out))) (bG BK573.out)) (below_size (eG HB.out))); have n2_ := Aside0.mk (blk_below (bG BK572.out) hb); have n3_ := Aside0.mk (blk_below (bG BK573.out) hb); have n4_ := Aside0.mk (below_step (eG HB.out) hb); clear HO580; clear BK572; clear BK573; clear HB; have HO580 := n0_; have HO584 := n1_; have BK572 := n2_; have BK573 := n3_; have HB := n4_; clear n0_ n1_ n2_ n3_ n4_; (try clear hb)
        (try clear hb2)
        (try clear hk)
        (try clear hi)
        (try clear ho0)
        refine hK.out _ _ ⟨(blk_cell BK572.out 0).trans rfl, (blk_cell BK572.out 1).trans rfl, (blk_cell BK573.out 0).trans rfl, (blk_cell BK573.out 1).trans rfl, (blk_cell BK573.out 2).trans rfl⟩ (fun hHeld => ?_); clear hK K; refine norm_ (a' := ?_) ?_ ?_; rotate_left
        ·
         show Act.put _ (some 35) _ = _
         simp only [Act.put, sIA, sC0, sCS, i64_w, i32_w]; rfl
        refine pure_ (i := 4) (N := some 31) (v := ?_) (a' := ?_) #[true, true, true, true, true, false, false, false, false, false] rfl rfl (any_of HT_.out (by kernel_rfl)) (fun _ _ _ h => h) (Or.inl ⟨by rfl, ?_⟩) ?_ ?_; rotate_left
        · intro w'; go_simp; with_reducible rfl
        rotate_left
        · simp only [Act.put, sIA, sC0, sCS, i64_w, i32_w]; rfl
        refine pure_ (i := 5) (N := some 36) (v := ?_) (a' := ?_) #[true, true, true, true, true, true, false, false, false, false] rfl rfl (any_of HT_.out (by kernel_rfl)) (fun _ _ _ h => h) (Or.inl ⟨by rfl, ?_⟩) ?_ ?_; rotate_left
        · intro w'; go_simp; with_reducible rfl
        rotate_left
        · simp only [Act.put, sIA, sC0, sCS, i64_w, i32_w]; rfl
        refine pure_ (i := 6) (N := some 37) (v := ?_) (a' := ?_) #[true, true, true, true, true, true, true, false, false, false] rfl rfl (any_of HT_.out (by kernel_rfl)) (fun _ _ _ h => h) (Or.inl ⟨by rfl, ?_⟩) ?_ ?_; rotate_left
        · intro w'; go_simp; with_reducible rfl
        rotate_left
        · simp only [Act.put, sIA, sC0, sCS, i64_w, i32_w]; rfl
        refine one_ (i := 7) (N := some 11) #[true, true, true, true, true, true, true, true, false, false] rfl rfl (one_of HT_.out (by kernel_rfl)) (by decide) (fun K hK => ?_); refine box_step ?hg (N := 11) ?hd (cs := #[.int .i64 0, .slice none 0 0]) (t := 24) ?hr ?_; (case hd => rfl); (case hg => rfl); (case hr => first | (go_simp; done) | (go_simp; rfl))
        intro gb586 hg w163 hbox hb; have n0_ := Aside0.mk (Kd.R_below (rG HO580.out) hb); have n1_ := Aside0.mk (Kd.R_below (rG HO584.out) hb); have n2_ := Aside0.mk (blk_below (bG BK572.out) hb); have n3_ := Aside0.mk (blk_below (bG BK573.out) hb); have n4_ := Aside0.mk (below_step (eG HB.out) hb); have n5_ := Aside0.mk (hbox); have n6_ := Aside0.mk ((by rw [hg]; exact (below_size (eG HB.out)) : w.heap.size ≤ gb586)); have n7_ := Aside0.mk ((by rw [hg]; exact (below_size (eG HB.out)) : w.heap.size ≤ gb586)); have n8_ := Aside0.mk ((by rw [hg]; exact Nat.ne_of_lt (blk_lt (bG BK572.out)) : gb572 ≠ gb586)); have n9_ := Aside0.mk ((by rw [hg]; exact Nat.ne_of_gt (blk_lt (bG BK572.out)) : gb586 ≠ gb572)); have n10_ := Aside0.mk ((by rw [hg]; exact Nat.ne_of_lt (blk_lt (bG BK573.out)) : gb573 ≠ gb586)); have n11_ := Aside0.mk ((by rw [hg]; exact Nat.ne_of_gt (blk_lt (bG BK573.out)) : gb586 ≠ gb573)); clear HO580; clear HO584; clear BK572; clear BK573; clear HB; have HO580 := n0_; have HO584 := n1_; have BK572 := n2_; have BK573 := n3_; have HB := n4_; have BK586 := n5_; have GW586 := n6_; have GE586 := n7_; have ig586_ := geI GE586
        have NB572_586 := n8_; have NB586_572 := n9_; have NB573_586 := n10_; have NB586_573 := n11_; clear n0_ n1_ n2_ n3_ n4_ n5_ n6_ n7_ n8_ n9_ n10_ n11_; clear hb hbox hg; refine hK.out _ _ ⟨(blk_cell BK572.out 0).trans rfl, (blk_cell BK572.out 1).trans rfl, (blk_cell BK573.out 0).trans rfl, (blk_cell BK573.out 1).trans rfl, (blk_cell BK573.out 2).trans rfl⟩ (fun hHeld => ?_); clear hK K; refine norm_ (a' := ?_) ?_ ?_; rotate_left
        ·
         show Act.put _ (some 11) _ = _
         simp only [Act.put, sIA, sC0, sCS, i64_w, i32_w]; rfl
        exact norm_ (by simp only [putAll, Act.put, sIA, sC0, sCS]) (hCont (.slice Ao161 t578.length co161, v583, gb586) _ ⟨hHeld, (by (with_reducible repeat (first | apply Kd.R_alloc | apply Kd.R_drewN | apply Kd.R_drew)); exact Kd.R_mono HO580.out (fun _ hk => ⟨hk.2, hk.1.2⟩)), (by (with_reducible repeat (first | apply Kd.R_alloc | apply Kd.R_drewN | apply Kd.R_drew)); exact Kd.R_mono HO584.out (fun _ hk => ⟨hk.1.2, hk.2⟩)), (bG BK572.out), (bG BK573.out), (bG BK586.out), GW586.out, GE586.out, NB572_586.out, NB586_572.out, NB573_586.out, NB586_573.out, (eG HB.out)⟩)
       ·
        skip
        refine box_step ?hg (N := 11) ?hd (cs := #[.int .i64 0, .slice none 0 0]) (t := 24) ?hr ?_; (case hd => rfl); (case hg => rfl); (case hr => first | (go_simp; done) | (go_simp; rfl))
        intro gb586 hg w161 hbox hb; have n0_ := Aside0.mk (Kd.R_below (rG HO580.out) hb); have n1_ := Aside0.mk (blk_below (bG BK572.out) hb); have n2_ := Aside0.mk (blk_below (bG BK573.out) hb); have n3_ := Aside0.mk (below_step (eG HB.out) hb); have n4_ := Aside0.mk (hbox); have n5_ := Aside0.mk ((by rw [hg]; exact (below_size (eG HB.out)) : w.heap.size ≤ gb586)); have n6_ := Aside0.mk ((by rw [hg]; exact (below_size (eG HB.out)) : w.heap.size ≤ gb586)); have n7_ := Aside0.mk ((by rw [hg]; exact Nat.ne_of_lt (blk_lt (bG BK572.out)) : gb572 ≠ gb586)); have n8_ := Aside0.mk ((by rw [hg]; exact Nat.ne_of_gt (blk_lt (bG BK572.out)) : gb586 ≠ gb572)); have n9_ := Aside0.mk ((by rw [hg]; exact Nat.ne_of_lt (blk_lt (bG BK573.out)) : gb573 ≠ gb586)); have n10_ := Aside0.mk ((by rw [hg]; exact Nat.ne_of_gt (blk_lt (bG BK573.out)) : gb586 ≠ gb573)); clear HO580; clear BK572; clear BK573; clear HB; have HO580 := n0_; have BK572 := n1_; have BK573 := n2_; have HB := n3_; have BK586 := n4_; have GW586 := n5_; have GE586 := n6_; have ig586_ := geI GE586
        have NB572_586 := n7_; have NB586_572 := n8_; have NB573_586 := n9_; have NB586_573 := n10_; clear n0_ n1_ n2_ n3_ n4_ n5_ n6_ n7_ n8_ n9_ n10_; clear hb hbox hg; obtain ⟨Ao162, co162, eo162⟩ := Kd.R_slice HO580.out; (first | subst eo162 | (injection eo162 with f1_ f2_ f3_; have f4_ := f1_.symm; have f5_ := f3_.symm; clear f1_ f2_ f3_; subst f4_; subst f5_))
        refine hK.out _ _ ⟨(blk_cell BK572.out 0).trans rfl, (blk_cell BK572.out 1).trans rfl, (blk_cell BK573.out 0).trans rfl, (blk_cell BK573.out 1).trans rfl, (blk_cell BK573.out 2).trans rfl⟩ (fun hHeld => ?_); clear hK K; refine norm_ (a' := ?_) ?_ ?_; rotate_left
        ·
         show Act.put _ (some 11) _ = _
         simp only [Act.put, sIA, sC0, sCS, i64_w, i32_w]; rfl
        refine one_ (i := 3) (N := some 35) #[true, true, true, true, false, false, false, true, false, false] rfl rfl (one_of HT_.out (by kernel_rfl)) (by decide) (fun K hK => ?_); refine goes_ Tryz.func16 (by kernel_rfl) rfl #[.agg #[.int .i64 t577, .slice Ao162 t578.length co162], .agg #[.int .i64 a1_0, .int .i64 a1_1, .int .i64 a1_2]] (by rfl) rfl rfl (by (try simp only [List.map_toArray, List.map_cons, List.map_nil]); first | done | rfl | (simp only [List.length_drop, List.length_take]; rfl)) ?_; with_reducible refine (tariff_Insert.calls kj5 t577 _ _ t578 a1_0 a1_1 a1_2 t581 t582 t585 _ ?side1 ?side2 A21.out).mono ?_
        (case side1 => repeat (first | exact (Kd.R_reads' HO580.out).2.2 | (with_reducible refine Kd.C_alloc ?_ _) | (with_reducible refine Kd.C_drewN ?_ _) | (with_reducible refine Kd.C_drew ?_)))
        (case side2 => exact (Kd.R_reads' HO580.out).2.1)
        rintro e w163 ⟨v583, rfl, ho0, hb⟩; refine ⟨_, rfl, ?_⟩; have n0_ := Aside0.mk (Kd.R_elder' (rG HO580.out) (Kd.R_base ho0) hb); have n1_ := Aside0.mk (Kd.R_lower (Kd.R_newB (Kd.R_new' ho0 (Kd.R_lt (rG HO580.out))) (bG BK573.out)) (below_size (eG HB.out))); have n2_ := Aside0.mk (blk_below (bG BK572.out) hb); have n3_ := Aside0.mk (blk_below (bG BK573.out) hb); have n4_ := Aside0.mk (blk_below (bG BK586.out) hb); have n5_ := Aside0.mk (below_step (eG HB.out) hb); clear HO580; clear BK572; clear BK573; clear BK586; clear HB; have HO580 := n0_; have HO584 := n1_; have BK572 := n2_; have BK573 := n3_; have BK586 := n4_; have HB := n5_; clear n0_ n1_ n2_ n3_ n4_ n5_; (try clear hb)
        (try clear hb2)
        (try clear hk)
        (try clear hi)
        (try clear ho0)
        refine hK.out _ _ ⟨(blk_cell BK572.out 0).trans rfl, (blk_cell BK572.out 1).trans rfl, (blk_cell BK573.out 0).trans rfl, (blk_cell BK573.out 1).trans rfl, (blk_cell BK573.out 2).trans rfl⟩ (fun hHeld => ?_); clear hK K; refine norm_ (a' := ?_) ?_ ?_; rotate_left
        ·
         show Act.put _ (some 35) _ = _
         simp only [Act.put, sIA, sC0, sCS, i64_w, i32_w]; rfl
        refine pure_ (i := 4) (N := some 31) (v := ?_) (a' := ?_) #[true, true, true, true, true, false, false, true, false, false] rfl rfl (any_of HT_.out (by kernel_rfl)) (fun _ _ _ h => h) (Or.inl ⟨by rfl, ?_⟩) ?_ ?_; rotate_left
        · intro w'; go_simp; with_reducible rfl
        rotate_left
        · simp only [Act.put, sIA, sC0, sCS, i64_w, i32_w]; rfl
        refine pure_ (i := 5) (N := some 36) (v := ?_) (a' := ?_) #[true, true, true, true, true, true, false, true, false, false] rfl rfl (any_of HT_.out (by kernel_rfl)) (fun _ _ _ h => h) (Or.inl ⟨by rfl, ?_⟩) ?_ ?_; rotate_left
        · intro w'; go_simp; with_reducible rfl
        rotate_left
        · simp only [Act.put, sIA, sC0, sCS, i64_w, i32_w]; rfl
        refine pure_ (i := 6) (N := some 37) (v := ?_) (a' := ?_) #[true, true, true, true, true, true, true, true, false, false] rfl rfl (any_of HT_.out (by kernel_rfl)) (fun _ _ _ h => h) (Or.inl ⟨by rfl, ?_⟩) ?_ ?_; rotate_left
        · intro w'; go_simp; with_reducible rfl
        rotate_left
        · simp only [Act.put, sIA, sC0, sCS, i64_w, i32_w]; rfl
        exact norm_ (by simp only [putAll, Act.put, sIA, sC0, sCS]) (hCont (.slice Ao162 t578.length co162, v583, gb586) _ ⟨hHeld, (by (with_reducible repeat (first | apply Kd.R_alloc | apply Kd.R_drewN | apply Kd.R_drew)); exact Kd.R_mono HO580.out (fun _ hk => ⟨hk.2, hk.1.2⟩)), (by (with_reducible repeat (first | apply Kd.R_alloc | apply Kd.R_drewN | apply Kd.R_drew)); exact Kd.R_mono HO584.out (fun _ hk => ⟨hk.1.2, hk.2⟩)), (bG BK572.out), (bG BK573.out), (bG BK586.out), GW586.out, GE586.out, NB572_586.out, NB586_572.out, NB573_586.out, NB586_573.out, (eG HB.out)⟩)
      ·
       skip
       refine box_step ?hg (N := 11) ?hd (cs := #[.int .i64 0, .slice none 0 0]) (t := 24) ?hr ?_; (case hd => rfl); (case hg => rfl); (case hr => first | (go_simp; done) | (go_simp; rfl))
       intro gb586 hg w160 hbox hb; have n0_ := Aside0.mk (blk_below (bG BK572.out) hb); have n1_ := Aside0.mk (blk_below (bG BK573.out) hb); have n2_ := Aside0.mk (below_step (eG HB.out) hb); have n3_ := Aside0.mk (hbox); have n4_ := Aside0.mk ((by rw [hg]; exact (below_size (eG HB.out)) : w.heap.size ≤ gb586)); have n5_ := Aside0.mk ((by rw [hg]; exact (below_size (eG HB.out)) : w.heap.size ≤ gb586)); have n6_ := Aside0.mk ((by rw [hg]; exact Nat.ne_of_lt (blk_lt (bG BK572.out)) : gb572 ≠ gb586)); have n7_ := Aside0.mk ((by rw [hg]; exact Nat.ne_of_gt (blk_lt (bG BK572.out)) : gb586 ≠ gb572)); have n8_ := Aside0.mk ((by rw [hg]; exact Nat.ne_of_lt (blk_lt (bG BK573.out)) : gb573 ≠ gb586)); have n9_ := Aside0.mk ((by rw [hg]; exact Nat.ne_of_gt (blk_lt (bG BK573.out)) : gb586 ≠ gb573)); clear BK572; clear BK573; clear HB; have BK572 := n0_; have BK573 := n1_; have HB := n2_; have BK586 := n3_; have GW586 := n4_; have GE586 := n5_; have ig586_ := geI GE586
       have NB572_586 := n6_; have NB586_572 := n7_; have NB573_586 := n8_; have NB586_573 := n9_; clear n0_ n1_ n2_ n3_ n4_ n5_ n6_ n7_ n8_ n9_; clear hb hbox hg; refine hK.out _ _ ⟨(blk_cell BK572.out 0).trans rfl, (blk_cell BK572.out 1).trans rfl, (blk_cell BK573.out 0).trans rfl, (blk_cell BK573.out 1).trans rfl, (blk_cell BK573.out 2).trans rfl⟩ (fun hHeld => ?_); clear hK K; refine norm_ (a' := ?_) ?_ ?_; rotate_left
       ·
        show Act.put _ (some 11) _ = _
        simp only [Act.put, sIA, sC0, sCS, i64_w, i32_w]; rfl
       refine one_ (i := 1) (N := some 33) #[true, true, true, false, false, false, false, true, false, false] rfl rfl (one_of HT_.out (by kernel_rfl)) (by decide) (fun K hK => ?_); refine goes_ Tryz.func14 (by kernel_rfl) rfl #[.agg #[.int .i64 a0_0, .slice A0_1 l0_1.length c0_1]] (by rfl) rfl rfl (by (try simp only [List.map_toArray, List.map_cons, List.map_nil]); first | done | rfl | (simp only [List.length_drop, List.length_take]; rfl)) ?_; with_reducible refine (spilelaw46_cp.calls a0_0 _ _ l0_1 t577 t578 _ ?side1 ?side2 A20.out).mono ?_
       (case side1 => repeat (first | exact (Kd.C_below HR0_1.out HB.out) | (with_reducible refine Kd.C_alloc ?_ _) | (with_reducible refine Kd.C_drewN ?_ _) | (with_reducible refine Kd.C_drew ?_)))
       (case side2 => exact HC0_1.out)
       rintro e w161 ⟨v579, rfl, ho0, hb⟩; refine ⟨_, rfl, ?_⟩; have n0_ := Aside0.mk (Kd.R_lower (Kd.R_newB ho0 (bG BK573.out)) (below_size (eG HB.out))); have n1_ := Aside0.mk (blk_below (bG BK572.out) hb); have n2_ := Aside0.mk (blk_below (bG BK573.out) hb); have n3_ := Aside0.mk (blk_below (bG BK586.out) hb); have n4_ := Aside0.mk (below_step (eG HB.out) hb); clear BK572; clear BK573; clear BK586; clear HB; have HO580 := n0_; have BK572 := n1_; have BK573 := n2_; have BK586 := n3_; have HB := n4_; clear n0_ n1_ n2_ n3_ n4_; (try clear hb)
       (try clear hb2)
       (try clear hk)
       (try clear hi)
       (try clear ho0)
       obtain ⟨Ao162, co162, eo162⟩ := Kd.R_slice HO580.out; (first | subst eo162 | (injection eo162 with f1_ f2_ f3_; have f4_ := f1_.symm; have f5_ := f3_.symm; clear f1_ f2_ f3_; subst f4_; subst f5_))
       refine hK.out _ _ ⟨(blk_cell BK572.out 0).trans rfl, (blk_cell BK572.out 1).trans rfl, (blk_cell BK573.out 0).trans rfl, (blk_cell BK573.out 1).trans rfl, (blk_cell BK573.out 2).trans rfl⟩ (fun hHeld => ?_); clear hK K; refine norm_ (a' := ?_) ?_ ?_; rotate_left
       ·
        show Act.put _ (some 33) _ = _
        simp only [Act.put, sIA, sC0, sCS, i64_w, i32_w]; rfl
       refine one_ (i := 3) (N := some 35) #[true, true, true, true, false, false, false, true, false, false] rfl rfl (one_of HT_.out (by kernel_rfl)) (by decide) (fun K hK => ?_); refine goes_ Tryz.func16 (by kernel_rfl) rfl #[.agg #[.int .i64 t577, .slice Ao162 t578.length co162], .agg #[.int .i64 a1_0, .int .i64 a1_1, .int .i64 a1_2]] (by rfl) rfl rfl (by (try simp only [List.map_toArray, List.map_cons, List.map_nil]); first | done | rfl | (simp only [List.length_drop, List.length_take]; rfl)) ?_; with_reducible refine (tariff_Insert.calls kj5 t577 _ _ t578 a1_0 a1_1 a1_2 t581 t582 t585 _ ?side1 ?side2 A21.out).mono ?_
       (case side1 => repeat (first | exact (Kd.R_reads' HO580.out).2.2 | (with_reducible refine Kd.C_alloc ?_ _) | (with_reducible refine Kd.C_drewN ?_ _) | (with_reducible refine Kd.C_drew ?_)))
       (case side2 => exact (Kd.R_reads' HO580.out).2.1)
       rintro e w163 ⟨v583, rfl, ho0, hb⟩; refine ⟨_, rfl, ?_⟩; have n0_ := Aside0.mk (Kd.R_elder' (rG HO580.out) (Kd.R_base ho0) hb); have n1_ := Aside0.mk (Kd.R_lower (Kd.R_newB (Kd.R_new' ho0 (Kd.R_lt (rG HO580.out))) (bG BK573.out)) (below_size (eG HB.out))); have n2_ := Aside0.mk (blk_below (bG BK572.out) hb); have n3_ := Aside0.mk (blk_below (bG BK573.out) hb); have n4_ := Aside0.mk (blk_below (bG BK586.out) hb); have n5_ := Aside0.mk (below_step (eG HB.out) hb); clear HO580; clear BK572; clear BK573; clear BK586; clear HB; have HO580 := n0_; have HO584 := n1_; have BK572 := n2_; have BK573 := n3_; have BK586 := n4_; have HB := n5_; clear n0_ n1_ n2_ n3_ n4_ n5_; (try clear hb)
       (try clear hb2)
       (try clear hk)
       (try clear hi)
       (try clear ho0)
       refine hK.out _ _ ⟨(blk_cell BK572.out 0).trans rfl, (blk_cell BK572.out 1).trans rfl, (blk_cell BK573.out 0).trans rfl, (blk_cell BK573.out 1).trans rfl, (blk_cell BK573.out 2).trans rfl⟩ (fun hHeld => ?_); clear hK K; refine norm_ (a' := ?_) ?_ ?_; rotate_left
       ·
        show Act.put _ (some 35) _ = _
        simp only [Act.put, sIA, sC0, sCS, i64_w, i32_w]; rfl
       refine pure_ (i := 4) (N := some 31) (v := ?_) (a' := ?_) #[true, true, true, true, true, false, false, true, false, false] rfl rfl (any_of HT_.out (by kernel_rfl)) (fun _ _ _ h => h) (Or.inl ⟨by rfl, ?_⟩) ?_ ?_; rotate_left
       · intro w'; go_simp; with_reducible rfl
       rotate_left
       · simp only [Act.put, sIA, sC0, sCS, i64_w, i32_w]; rfl
       refine pure_ (i := 5) (N := some 36) (v := ?_) (a' := ?_) #[true, true, true, true, true, true, false, true, false, false] rfl rfl (any_of HT_.out (by kernel_rfl)) (fun _ _ _ h => h) (Or.inl ⟨by rfl, ?_⟩) ?_ ?_; rotate_left
       · intro w'; go_simp; with_reducible rfl
       rotate_left
       · simp only [Act.put, sIA, sC0, sCS, i64_w, i32_w]; rfl
       refine pure_ (i := 6) (N := some 37) (v := ?_) (a' := ?_) #[true, true, true, true, true, true, true, true, false, false] rfl rfl (any_of HT_.out (by kernel_rfl)) (fun _ _ _ h => h) (Or.inl ⟨by rfl, ?_⟩) ?_ ?_; rotate_left
       · intro w'; go_simp; with_reducible rfl
       rotate_left
       · simp only [Act.put, sIA, sC0, sCS, i64_w, i32_w]; rfl
       exact norm_ (by simp only [putAll, Act.put, sIA, sC0, sCS]) (hCont (.slice Ao162 t578.length co162, v583, gb586) _ ⟨hHeld, (by (with_reducible repeat (first | apply Kd.R_alloc | apply Kd.R_drewN | apply Kd.R_drew)); exact Kd.R_mono HO580.out (fun _ hk => ⟨hk.2, hk.1.2⟩)), (by (with_reducible repeat (first | apply Kd.R_alloc | apply Kd.R_drewN | apply Kd.R_drew)); exact Kd.R_mono HO584.out (fun _ hk => ⟨hk.1.2, hk.2⟩)), (bG BK572.out), (bG BK573.out), (bG BK586.out), GW586.out, GE586.out, NB572_586.out, NB586_572.out, NB573_586.out, NB586_573.out, (eG HB.out)⟩)
     rintro ⟨v579, v583, gb586⟩ w164 ⟨hS_, h0_, h1_, h2_, h3_, h4_, h5_, h6_, h7_, h8_, h9_, h10_, h11_⟩; have n0_ : Aside0 (Kd.R k26 26 w164 w.heap.size (fun k_ => some k_ ≠ (v583 : Value).ownBlock ∧ k_ ≠ gb573) v579 t578) := ⟨h0_⟩; have n1_ : Aside0 (Kd.R k26 26 w164 w.heap.size (fun k_ => some k_ ≠ (v579 : Value).ownBlock ∧ k_ ≠ gb573) v583 t582) := ⟨h1_⟩; have n2_ : Aside0 (w164.heap[gb572]? = some (.cells #[.int .i64 a0_0, .slice A0_1 l0_1.length c0_1] 24 (0, 0))) := ⟨h2_⟩; have n3_ : Aside0 (w164.heap[gb573]? = some (.cells #[.int .i64 a1_0, .int .i64 a1_1, .int .i64 a1_2] 26 (0, 0))) := ⟨h3_⟩; have n4_ : Aside0 (w164.heap[gb586]? = some (.cells #[.int .i64 0, .slice none 0 0] 24 (0, 0))) := ⟨h4_⟩; have n5_ : Aside0 (w.heap.size ≤ gb586) := ⟨h5_⟩; have n6_ : Aside0 (w.heap.size ≤ gb586) := ⟨h6_⟩; have n7_ : Aside0 (gb572 ≠ gb586) := ⟨h7_⟩; have n8_ : Aside0 (gb586 ≠ gb572) := ⟨h8_⟩; have n9_ : Aside0 (gb573 ≠ gb586) := ⟨h9_⟩; have n10_ : Aside0 (gb586 ≠ gb573) := ⟨h10_⟩; have n11_ : Aside0 (Below w.heap.size w w164) := ⟨h11_⟩; clear BK572; clear BK573; clear HB; clear h0_ h1_ h2_ h3_ h4_ h5_ h6_ h7_ h8_ h9_ h10_ h11_; have HO580 := n0_; have HO584 := n1_; have BK572 := n2_; have BK573 := n3_; have BK586 := n4_; have GW586 := n5_; have GE586 := n6_; have ig586_ := geI GE586
     have NB572_586 := n7_; have NB586_572 := n8_; have NB573_586 := n9_; have NB586_573 := n10_; have HB := n11_; clear n0_ n1_ n2_ n3_ n4_ n5_ n6_ n7_ n8_ n9_ n10_ n11_; have hHeld : w164.cell? ⟨gb572, 0, none⟩ = some (.int .i64 a0_0) ∧ w164.cell? ⟨gb572, 1, none⟩ = some (.slice A0_1 l0_1.length c0_1) ∧ w164.cell? ⟨gb573, 0, none⟩ = some (.int .i64 a1_0) ∧ w164.cell? ⟨gb573, 1, none⟩ = some (.int .i64 a1_1) ∧ w164.cell? ⟨gb573, 2, none⟩ = some (.int .i64 a1_2) := hS_; obtain ⟨Ao166, co166, eo166⟩ := Kd.R_slice HO584.out; (first | subst eo166 | (injection eo166 with f1_ f2_ f3_; have f4_ := f1_.symm; have f5_ := f3_.symm; clear f1_ f2_ f3_; subst f4_; subst f5_))
     refine norm_ (a' := ?_) ?_ ?_; rotate_left
     · simp only [putAll, Act.put, sIA, sC0, sCS]; rfl
     refine one_ (i := 8) (N := none) #[true, true, true, true, true, true, true, true, true, false] rfl rfl (one_of HT_.out (by kernel_rfl)) (by decide) (fun K hK => ?_); have hs165 : w164.cell? ⟨gb586, 0, none⟩ = some (.int .i64 0) := (blk_cell BK586.out 0).trans rfl; have hfs165 := blk_frozen BK586.out 0; have hns165_0 := NB572_586.out; have hns165_1 := NB573_586.out; have hms165_0 := NB586_572.out; have hms165_1 := NB586_573.out; have hs167 : w164.cell? ⟨gb586, 1, none⟩ = some (.slice none 0 0) := (blk_cell BK586.out 1).trans rfl; have hfs167 := blk_frozen BK586.out 1; have hns167_0 := NB572_586.out; have hns167_1 := NB573_586.out; have hms167_0 := NB586_572.out; have hms167_1 := NB586_573.out; refine skip_ (w1 := ?_) (by rfl) rfl ?_ ?_; rotate_left
     · go_simp; rfl
     refine hK.out _ _ ⟨((cell_far (p := ⟨gb586, _, none⟩) NB572_586.out _).trans (((cell_far (p := ⟨gb586, _, none⟩) NB572_586.out _).trans (hHeld.1)))), ((cell_far (p := ⟨gb586, _, none⟩) NB572_586.out _).trans (((cell_far (p := ⟨gb586, _, none⟩) NB572_586.out _).trans (hHeld.2.1)))), ((cell_far (p := ⟨gb586, _, none⟩) NB573_586.out _).trans (((cell_far (p := ⟨gb586, _, none⟩) NB573_586.out _).trans (hHeld.2.2.1)))), ((cell_far (p := ⟨gb586, _, none⟩) NB573_586.out _).trans (((cell_far (p := ⟨gb586, _, none⟩) NB573_586.out _).trans (hHeld.2.2.2.1)))), ((cell_far (p := ⟨gb586, _, none⟩) NB573_586.out _).trans (((cell_far (p := ⟨gb586, _, none⟩) NB573_586.out _).trans (hHeld.2.2.2.2))))⟩ (fun hHeld => ?_); clear hK K; refine pure_ (i := 9) (N := some 12) (v := ?_) (a' := ?_) #[true, true, true, true, true, true, true, true, true, true] rfl rfl (any_of HT_.out (by kernel_rfl)) (fun _ _ _ h => h) (Or.inl ⟨by rfl, ?_⟩) ?_ ?_; rotate_left
     · intro w'; go_simp; with_reducible rfl
     rotate_left
     · simp only [Act.put, sIA, sC0, sCS, i64_w, i32_w]; rfl
     refine done_ (done_of HT_.out (by kernel_rfl)) ?_; have hnb168 := NB586_572.out; have hnc168 := NB572_586.out; have hnb169 := NB586_573.out; have hnc169 := NB573_586.out; have hcz170_0 : w164.cell? ⟨gb586, 0, none⟩ = some (.int .i64 0) := (blk_cell BK586.out 0).trans rfl; have hcz170_1 : w164.cell? ⟨gb586, 1, none⟩ = some (.slice none 0 0) := (blk_cell BK586.out 1).trans rfl; have hfz170_0 := blk_frozen BK586.out 0; have hfz170_1 := blk_frozen BK586.out 1; try go_wp2
     go_ret
     exact ⟨by first | rfl | (simp [errW_none, errW_some] <;> rfl) | (simp [*, errW_none, errW_some] <;> rfl), eG HB.out⟩
end Go.Proofs.YtholbmidciapdaaGreatDoor.Pr
namespace Go.Proofs.YtholbmidciapdaaGreatDoor.Pr
open Go.RowKit Go.Proofs.YtholbmidciapdaaGreatDoorW.PrintWords Go.Proofs.YtholbmidciapdaaGreatDoorW.PrintLast Go.Proofs.YtholbmidciapdaaGreatDoorW.PrintMore Go.Proofs.YtholbmidciapdaaGreatDoor.X
attribute [local go_sem] max2_int min2_int max_two min_two max_three min_three max_four min_four   -- for this text's walks alone
set_option linter.unusedVariables false
set_option linter.unusedSimpArgs false
mutual
def spileref46_Check.j0 : Nat → Bool → Int → List (S26) → Option (Int × Int)
 | 0, _, _, _ => none
 | k + 1, x12, x262000, x262001 => if x12 = true then (some ((-1), 2)) else (if (x262001.length : Int) > 64 then (some ((-1), 8)) else (spileref46_Check.l0 k 0 x262000 x262001))
def spileref46_Check.l0 : Nat → Int → Int → List (S26) → Option (Int × Int)
 | 0, _, _, _ => none
 | k + 1, x4, x262000, x262001 => if x4 < (x262001.length : Int) then (if 0 ≤ x4 then ((spileref46_right.f ((rd_T26 x262001 x4).f0) ((rd_T26 x262001 x4).f1) ((rd_T26 x262001 x4).f2)).bind fun t263 => (if t263 = true then (if x4 > 0 then (if 0 ≤ (wrap64 (x4 - 1)) then (if (wrap64 (x4 - 1)) < (x262001.length : Int) then ((spileref46_before.f ((rd_T26 x262001 (wrap64 (x4 - 1))).f0) ((rd_T26 x262001 (wrap64 (x4 - 1))).f1) ((rd_T26 x262001 (wrap64 (x4 - 1))).f2) ((rd_T26 x262001 x4).f0) ((rd_T26 x262001 x4).f1) ((rd_T26 x262001 x4).f2)).bind fun t266 => (if t266 = true then (spileref46_Check.l0 k (wrap64 (x4 + 1)) x262000 x262001) else (some (x4, 5)))) else (none)) else (none)) else (spileref46_Check.l0 k (wrap64 (x4 + 1)) x262000 x262001)) else (some (x4, 2)))) else (none)) else (some ((-1), 0))
end
def spileref46_Check.f (k : Nat) (a0_0 : Int) (l0_1 : List (S26)) : Option (Int × Int) := if a0_0 < 1 then (spileref46_Check.j0 k true a0_0 l0_1) else (spileref46_Check.j0 k (decide (a0_0 > 4)) a0_0 l0_1)
end Go.Proofs.YtholbmidciapdaaGreatDoor.Pr
namespace Go.Proofs.YtholbmidciapdaaGreatDoor.Pr
open Go.RowKit Go.Proofs.YtholbmidciapdaaGreatDoorW.PrintWords Go.Proofs.YtholbmidciapdaaGreatDoorW.PrintLast Go.Proofs.YtholbmidciapdaaGreatDoorW.PrintMore Go.Proofs.YtholbmidciapdaaGreatDoor.X
attribute [local go_sem] max2_int min2_int max_two min_two max_three min_three max_four min_four   -- for this text's walks alone
set_option linter.unusedVariables false
set_option linter.unusedSimpArgs false
def spileref46_Force.l0 : Nat → Int → Int → Bool → Int → Int → List (S26) → Int → Int → Int → Option (Int × Int × Int × Bool)
 | 0, _, _, _, _, _, _, _, _, _ => none
 | k + 1, x1, x2, x9, x10, x335000, x335001, x337000, x337001, x337002 => if x10 < (x335001.length : Int) then (if 0 ≤ x10 then (if ((rd_T26 x335001 x10).f0) = x1 then (if ((rd_T26 x335001 x10).f1) ≤ x2 then (spileref46_Force.l0 k x1 x2 true (wrap64 (x10 + 1)) x335000 x335001 ((rd_T26 x335001 x10).f0) ((rd_T26 x335001 x10).f1) ((rd_T26 x335001 x10).f2)) else (spileref46_Force.l0 k x1 x2 x9 (wrap64 (x10 + 1)) x335000 x335001 x337000 x337001 x337002)) else (spileref46_Force.l0 k x1 x2 x9 (wrap64 (x10 + 1)) x335000 x335001 x337000 x337001 x337002)) else (none)) else (some (x337000, x337001, x337002, x9))
end Go.Proofs.YtholbmidciapdaaGreatDoor.Pr
namespace Go.Proofs.YtholbmidciapdaaGreatDoor.Pr
open Go.RowKit Go.Proofs.YtholbmidciapdaaGreatDoorW.PrintWords Go.Proofs.YtholbmidciapdaaGreatDoorW.PrintLast Go.Proofs.YtholbmidciapdaaGreatDoorW.PrintMore Go.Proofs.YtholbmidciapdaaGreatDoor.X
attribute [local go_sem] max2_int min2_int max_two min_two max_three min_three max_four min_four   -- for this text's walks alone
set_option linter.unusedVariables false
set_option linter.unusedSimpArgs false
def bits_Mul64.f (a0 : Int) (a1 : Int) : Option (Int × Int) := some (IntKind.u64.wrap ((IntKind.u64.wrap ((IntKind.u64.wrap ((a0 / 4294967296) * (a1 / 4294967296))) + ((IntKind.u64.wrap ((IntKind.u64.wrap ((a0 / 4294967296) * (Go.bits .and .u64 a1 4294967295))) + ((IntKind.u64.wrap ((Go.bits .and .u64 a0 4294967295) * (Go.bits .and .u64 a1 4294967295))) / 4294967296))) / 4294967296))) + ((IntKind.u64.wrap ((Go.bits .and .u64 (IntKind.u64.wrap ((IntKind.u64.wrap ((a0 / 4294967296) * (Go.bits .and .u64 a1 4294967295))) + ((IntKind.u64.wrap ((Go.bits .and .u64 a0 4294967295) * (Go.bits .and .u64 a1 4294967295))) / 4294967296))) 4294967295) + (IntKind.u64.wrap ((Go.bits .and .u64 a0 4294967295) * (a1 / 4294967296))))) / 4294967296)), IntKind.u64.wrap (a0 * a1))
end Go.Proofs.YtholbmidciapdaaGreatDoor.Pr
namespace Go.Proofs.YtholbmidciapdaaGreatDoor.Opn
open Go Go.RowKit Go.Proofs.YtholbmidciapdaaGreatDoorW.PrintWords Go.Proofs.YtholbmidciapdaaGreatDoor.O Go.Proofs.YtholbmidciapdaaGreatDoor.Pr
theorem opens3 : Opens Tryz.prog 3 (Kd.int .i64) (fun x => (Lit.int .i64 x).wf = true) := opens_int Tryz.underlying3 (by kernel_rfl)
def ok26 (x : S26) : Prop := (Lit.int .i64 x.f0).wf = true ∧ (Lit.int .i64 x.f1).wf = true ∧ (Lit.int .i64 x.f2).wf = true
theorem opens26 : Opens Tryz.prog 26 k26 ok26 :=
  ⟨by kernel_rfl, fun H enc w base sp held fuel cs x h => by
    obtain ⟨xs, n, _, _, hl, hx, hf⟩ := DataW.trod_struct Tryz.underlying26 h
    have hc_ : Tryz.prog.cellsOf 26 = 3 := by kernel_rfl
    rw [hc_] at hl
    obtain ⟨c0, c1, c2, rfl⟩ : ∃ c0 c1 c2, cs = [c0, c1, c2] := by
      clear h hf hx
      rcases cs with _ | ⟨c0, _ | ⟨c1, _ | ⟨c2, _ | ⟨_, _⟩⟩⟩⟩
      all_goals first | exact ⟨_, _, _, rfl⟩ | (simp at hl)
    obtain ⟨y0, hy0⟩ : ∃ y, xs[0]? = some y := ⟨xs[0]'(by rw [hx]; decide), List.getElem?_eq_getElem _⟩
    have e0 : DataW.trod enc Tryz.prog w base sp held n 3 ((List.drop 0 [c0, c1, c2]).take (Tryz.prog.cellsOf 3)) = xs[0]? := hf 0 _ rfl
    rw [hy0, show Tryz.prog.cellsOf 3 = 1 from by kernel_rfl] at e0
    obtain ⟨v0, K0, o0⟩ := opens3.2 H enc w base sp held n _ _ e0
    replace K0 : (Kd.int .i64).K w v0 [c0] := K0
    obtain ⟨y1, hy1⟩ : ∃ y, xs[1]? = some y := ⟨xs[1]'(by rw [hx]; decide), List.getElem?_eq_getElem _⟩
    have e1 : DataW.trod enc Tryz.prog w base sp held n 3 ((List.drop 1 [c0, c1, c2]).take (Tryz.prog.cellsOf 3)) = xs[1]? := hf 1 _ rfl
    rw [hy1, show Tryz.prog.cellsOf 3 = 1 from by kernel_rfl] at e1
    obtain ⟨v1, K1, o1⟩ := opens3.2 H enc w base sp held n _ _ e1
    replace K1 : (Kd.int .i64).K w v1 [c1] := K1
    obtain ⟨y2, hy2⟩ : ∃ y, xs[2]? = some y := ⟨xs[2]'(by rw [hx]; decide), List.getElem?_eq_getElem _⟩
    have e2 : DataW.trod enc Tryz.prog w base sp held n 3 ((List.drop 2 [c0, c1, c2]).take (Tryz.prog.cellsOf 3)) = xs[2]? := hf 2 _ rfl
    rw [hy2, show Tryz.prog.cellsOf 3 = 1 from by kernel_rfl] at e2
    obtain ⟨v2, K2, o2⟩ := opens3.2 H enc w base sp held n _ _ e2
    replace K2 : (Kd.int .i64).K w v2 [c2] := K2
    obtain rfl : c0 = _ := List.singleton_inj.1 K0
    obtain rfl : c1 = _ := List.singleton_inj.1 K1
    obtain rfl : c2 = _ := List.singleton_inj.1 K2
    refine ⟨⟨v0, v1, v2⟩, ?_, o0, o1, o2⟩
    exact k26_mk w ⟨v0, v1, v2⟩ ⟩
theorem opens22 : Opens Tryz.prog 22 (Kd.slice 26 k26) (fun x => (x.length ≤ maxLen ∧ ∀ x0_, x0_ ∈ x → ok26 x0_)) := opens_slice (P := Tryz.prog) (t := 22) (e := 26) Tryz.underlying22 (by kernel_rfl) opens26
def ok24 (x : S24) : Prop := (Lit.int .i64 x.f0).wf = true ∧ (x.f1.length ≤ maxLen ∧ ∀ x0_, x0_ ∈ x.f1 → ok26 x0_)
theorem opens24 : Opens Tryz.prog 24 k24 ok24 :=
  ⟨by kernel_rfl, fun H enc w base sp held fuel cs x h => by
    obtain ⟨xs, n, _, _, hl, hx, hf⟩ := DataW.trod_struct Tryz.underlying24 h
    have hc_ : Tryz.prog.cellsOf 24 = 2 := by kernel_rfl
    rw [hc_] at hl
    obtain ⟨c0, c1, rfl⟩ : ∃ c0 c1, cs = [c0, c1] := by
      clear h hf hx
      rcases cs with _ | ⟨c0, _ | ⟨c1, _ | ⟨_, _⟩⟩⟩
      all_goals first | exact ⟨_, _, rfl⟩ | (simp at hl)
    obtain ⟨y0, hy0⟩ : ∃ y, xs[0]? = some y := ⟨xs[0]'(by rw [hx]; decide), List.getElem?_eq_getElem _⟩
    have e0 : DataW.trod enc Tryz.prog w base sp held n 3 ((List.drop 0 [c0, c1]).take (Tryz.prog.cellsOf 3)) = xs[0]? := hf 0 _ rfl
    rw [hy0, show Tryz.prog.cellsOf 3 = 1 from by kernel_rfl] at e0
    obtain ⟨v0, K0, o0⟩ := opens3.2 H enc w base sp held n _ _ e0
    replace K0 : (Kd.int .i64).K w v0 [c0] := K0
    obtain ⟨y1, hy1⟩ : ∃ y, xs[1]? = some y := ⟨xs[1]'(by rw [hx]; decide), List.getElem?_eq_getElem _⟩
    have e1 : DataW.trod enc Tryz.prog w base sp held n 22 ((List.drop 1 [c0, c1]).take (Tryz.prog.cellsOf 22)) = xs[1]? := hf 1 _ rfl
    rw [hy1, show Tryz.prog.cellsOf 22 = 1 from by kernel_rfl] at e1
    obtain ⟨v1, K1, o1⟩ := opens22.2 H enc w base sp held n _ _ e1
    replace K1 : (Kd.slice 26 k26).K w v1 [c1] := K1
    obtain rfl : c0 = _ := List.singleton_inj.1 K0
    obtain ⟨A1, q1, w1, m1, g1⟩ := K1
    obtain rfl : c1 = _ := List.singleton_inj.1 w1
    refine ⟨⟨v0, v1⟩, ?_, o0, o1⟩
    exact k24_mk w ⟨v0, v1⟩ m1 g1⟩
end Go.Proofs.YtholbmidciapdaaGreatDoor.Opn
namespace Go.Proofs.YtholbmidciapdaaGreatDoor.Pure
open Go Go.RowKit Go.Proofs.YtholbmidciapdaaGreatDoor.Pr Go.Proofs.YtholbmidciapdaaGreatDoor.Opn
def tariffLaterPure : Prop := ∀ (a0_0 : Int) (l0_1 : (List S26)) (a1_0 : Int) (a1_1 : Int) (a1_2 : Int) (a2 : Int) (a3 : Int) (a4 : Int), (Lit.int .i64 a0_0).wf = true → (l0_1.length ≤ maxLen ∧ ∀ x0_, x0_ ∈ l0_1 → ok26 x0_) → (Lit.int .i64 a1_0).wf = true → (Lit.int .i64 a1_1).wf = true → (Lit.int .i64 a1_2).wf = true → (Lit.int .i64 a2).wf = true → (Lit.int .i64 a3).wf = true → (Lit.int .i64 a4).wf = true → ∃ k, spilelaw46_TariffLater.f k a0_0 l0_1 a1_0 a1_1 a1_2 a2 a3 a4 = some true
end Go.Proofs.YtholbmidciapdaaGreatDoor.Pure
namespace Go.Proofs.YtholbmidciapdaaGreatDoor.PL
open Go Go.RowKit Go.Proofs.YtholbmidciapdaaGreatDoorW.PrintWords Go.Proofs.YtholbmidciapdaaGreatDoorW.PrintLast Go.Proofs.YtholbmidciapdaaGreatDoorW.PrintMore
theorem evp {α : Type} {c : Prop} [Decidable c] {g h : Nat → Option α} {r : α} (hc : c) (k : Ev g r) : Ev (fun n => if c then g n else h n) r :=
  Ev.congr (fun n => if_pos hc) k
theorem evn {α : Type} {c : Prop} [Decidable c] {g h : Nat → Option α} {r : α} (hc : ¬ c) (k : Ev h r) : Ev (fun n => if c then g n else h n) r :=
  Ev.congr (fun n => if_neg hc) k
theorem evb {α β : Type} {g : Nat → Option α} {f : Nat → α → Option β} {a : α} {r : β} (h : Ev g a) (k : Ev (fun n => f n a) r) : Ev (fun n => (g n).bind (f n)) r := Ev.bind h k
theorem evr {α : Type} {a r : α} (h : a = r) : Ev (fun _ => some a) r := by subst h; exact Ev.now _
theorem evc {α : Type} {g : Nat → Option α} {r : α} {o : Option α} (hg : ∀ n, g n = o) (h : o = some r) : Ev g r := by
  subst h
  exact Ev.congr hg (Ev.now _)
/-- A loop that counts upwards to n. -/
theorem count_up (a n : Int) (P : Int → Prop) (hend : P n) (hround : ∀ i, a ≤ i → i < n → P (i + 1) → P i) : ∀ i, a ≤ i → i ≤ n → P i := by
  intro i h0 h1
  obtain ⟨d, hd⟩ : ∃ d : Nat, n - i = d := ⟨(n - i).toNat, by omega⟩
  induction d generalizing i with
  | zero =>
    obtain rfl : i = n := by omega
    exact hend
  | succ d ih => exact hround i h0 (by omega) (ih (i + 1) (by omega) (by omega) (by omega))
theorem w64 {x : Int} (h0 : -9223372036854775808 ≤ x) (h1 : x ≤ 9223372036854775807) : wrap64 x = x := by
  unfold wrap64
  omega
theorem w64_succ {i n : Int} (h0 : 0 ≤ i) (h : i < n) (hn : n ≤ 9223372036854775807) : wrap64 (i + 1) = i + 1 := w64 (by omega) (by omega)
theorem w64_pred {i n : Int} (h0 : 0 ≤ i) (h : i ≤ n) (hn : n ≤ 9223372036854775807) : wrap64 (i - 1) = i - 1 := w64 (by omega) (by omega)
/-- A test that comes to true where P holds, and else to false. -/
def EvB (g : Nat → Option Bool) (P : Prop) : Prop := (P → Ev g true) ∧ (¬ P → Ev g false)
theorem EvB.map {g : Nat → Option Bool} {f : Nat → Bool → Option Bool} {P Q : Prop} (h : EvB g P) (ht : P → EvB (fun n => f n true) Q) (hf : ¬ P → EvB (fun n => f n false) Q) : EvB (fun n => (g n).bind (f n)) Q := by
  by_cases hp : P
  · exact ⟨fun q => Ev.bind (h.1 hp) ((ht hp).1 q), fun q => Ev.bind (h.1 hp) ((ht hp).2 q)⟩
  · exact ⟨fun q => Ev.bind (h.2 hp) ((hf hp).1 q), fun q => Ev.bind (h.2 hp) ((hf hp).2 q)⟩
theorem u64w {x : Int} (h0 : 0 ≤ x) (h1 : x ≤ 9223372036854775807) : IntKind.u64.wrap x = x := by
  unfold IntKind.wrap
  simp [IntKind.signed, IntKind.bits]
  omega
theorem half {i j : Int} (h0 : 0 ≤ i) (h1 : i < j) (h2 : j ≤ 4611686018427387904) : wrap64 ((IntKind.u64.wrap (wrap64 (i + j))) / 2) = (i + j) / 2 := by
  rw [w64 (x := i + j) (by omega) (by omega), u64w (by omega) (by omega), w64 (by omega) (by omega)]
theorem mulb {x y X Y : Int} (h0 : 0 ≤ x) (h1 : x ≤ X) (k0 : 0 ≤ y) (k1 : y ≤ Y) : 0 ≤ x * y ∧ x * y ≤ X * Y :=
  ⟨Int.mul_nonneg h0 k0, Int.mul_le_mul h1 k1 k0 (Int.le_trans h0 h1)⟩
end Go.Proofs.YtholbmidciapdaaGreatDoor.PL
namespace Go.Proofs.YtholbmidciapdaaGreatDoor.PL
open Go Go.RowKit Go.Proofs.YtholbmidciapdaaGreatDoorW.PrintWords Go.Proofs.YtholbmidciapdaaGreatDoorW.PrintLast Go.Proofs.YtholbmidciapdaaGreatDoorW.PrintMore Go.Proofs.YtholbmidciapdaaGreatDoor.Pr
def Lt26 (a b : S26) : Prop := a.f0 < b.f0 ∨ (a.f0 = b.f0 ∧ a.f1 < b.f1)
instance (a b : S26) : Decidable (Lt26 a b) := by unfold Lt26; infer_instance
def Key26 (a b : S26) : Prop := a.f0 = b.f0 ∧ a.f1 = b.f1
instance (a b : S26) : Decidable (Key26 a b) := by unfold Key26; infer_instance
def Hit (c d : Int) (x : S26) : Prop := x.f0 = c ∧ x.f1 ≤ d
instance (c d : Int) (x : S26) : Decidable (Hit c d x) := by unfold Hit; infer_instance
abbrev Srt (l : List S26) : Prop := l.Pairwise Lt26
/-- The last one that is in force. -/
def frc (c d : Int) : List S26 → S26 × Bool → S26 × Bool
  | [], s => s
  | x :: r, s => frc c d r (if Hit c d x then (x, true) else s)
theorem frc_spec (c d : Int) : ∀ (l : List S26) (s : S26 × Bool), Srt l → ((∀ x, x ∈ l → ¬ Hit c d x) ∧ frc c d l s = s) ∨ (∃ x, x ∈ l ∧ Hit c d x ∧ frc c d l s = (x, true) ∧ ∀ y, y ∈ l → Hit c d y → y.f1 ≤ x.f1)
  | [], s, _ => .inl ⟨fun x h => absurd h (by simp), rfl⟩
  | x :: r, s, hs => by
    obtain ⟨h1, h2⟩ := List.pairwise_cons.1 hs
    by_cases c1 : Hit c d x
    · rcases frc_spec c d r (x, true) h2 with ⟨q1, q2⟩ | ⟨y, y1, y2, y3, y4⟩
      · refine .inr ⟨x, by simp, c1, ?_, fun y hy hh => ?_⟩
        · show frc c d r (if Hit c d x then (x, true) else s) = _
          rw [if_pos c1]; exact q2
        · rcases List.mem_cons.1 hy with rfl | hy
          · exact Int.le_refl _
          · exact absurd hh (q1 y hy)
      · refine .inr ⟨y, by simp [y1], y2, ?_, fun z hz hh => ?_⟩
        · show frc c d r (if Hit c d x then (x, true) else s) = _
          rw [if_pos c1]; exact y3
        · rcases List.mem_cons.1 hz with rfl | hz
          · have := h1 y y1
            unfold Lt26 at this
            have a := c1.1
            have b := y2.1
            omega
          · exact y4 z hz hh
    · rcases frc_spec c d r s h2 with ⟨q1, q2⟩ | ⟨y, y1, y2, y3, y4⟩
      · refine .inl ⟨fun y hy => ?_, ?_⟩
        · rcases List.mem_cons.1 hy with rfl | hy
          · exact c1
          · exact q1 y hy
        · show frc c d r (if Hit c d x then (x, true) else s) = _
          rw [if_neg c1]; exact q2
      · refine .inr ⟨y, by simp [y1], y2, ?_, fun z hz hh => ?_⟩
        · show frc c d r (if Hit c d x then (x, true) else s) = _
          rw [if_neg c1]; exact y3
        · rcases List.mem_cons.1 hz with rfl | hz
          · exact absurd hh c1
          · exact y4 z hz hh
/-- The same class and day in a sorted list: the same rate. -/
theorem srt_key : ∀ {l : List S26}, Srt l → ∀ {x y : S26}, x ∈ l → y ∈ l → Key26 x y → x = y
  | [], _, x, _, hx, _, _ => absurd hx (by simp)
  | z :: r, hs, x, y, hx, hy, hk => by
    obtain ⟨h1, h2⟩ := List.pairwise_cons.1 hs
    obtain ⟨k1, k2⟩ := hk
    rcases List.mem_cons.1 hx with rfl | hx' <;> rcases List.mem_cons.1 hy with rfl | hy'
    · rfl
    · have := h1 y hy'; unfold Lt26 at this; omega
    · have := h1 x hx'; unfold Lt26 at this; omega
    · exact srt_key h2 hx' hy' ⟨k1, k2⟩
/-- The greatest one of some days: behind lo, or from lo on. -/
def Mst (strict : Bool) (c lo hi : Int) (s : S26 × Bool) (x : S26) : Prop := x.f0 = c ∧ (if strict = true then lo < x.f1 else lo ≤ x.f1) ∧ x.f1 ≤ hi ∧ (s.2 = false ∨ s.1.f2 < x.f2)
instance (b : Bool) (c lo hi : Int) (s : S26 × Bool) (x : S26) : Decidable (Mst b c lo hi s x) := by unfold Mst; infer_instance
/-- The tariff with one more rate. -/
def ins (r : S26) : List S26 → List S26
  | [] => [r]
  | x :: t => if Lt26 x r then x :: ins r t else if Key26 x r then r :: t else r :: x :: t
theorem ins_cons (r x : S26) (t : List S26) : ins r (x :: t) = if Lt26 x r then x :: ins r t else if Key26 x r then r :: t else r :: x :: t := rfl
theorem ins_mem (r : S26) : ∀ l, r ∈ ins r l
  | [] => by simp [ins]
  | x :: t => by
    rw [ins_cons]
    by_cases c : Lt26 x r
    · rw [if_pos c]; exact List.mem_cons_of_mem _ (ins_mem r t)
    · rw [if_neg c]
      by_cases c2 : Key26 x r
      · rw [if_pos c2]; simp
      · rw [if_neg c2]; simp
theorem ins_sub (r : S26) : ∀ l, ∀ y, y ∈ ins r l → y = r ∨ y ∈ l
  | [], y, h => by simp [ins] at h; exact .inl h
  | x :: t, y, h => by
    rw [ins_cons] at h
    by_cases c : Lt26 x r
    · rw [if_pos c] at h
      rcases List.mem_cons.1 h with rfl | h
      · exact .inr (by simp)
      · rcases ins_sub r t y h with h | h
        · exact .inl h
        · exact .inr (by simp [h])
    · rw [if_neg c] at h
      by_cases c2 : Key26 x r
      · rw [if_pos c2] at h
        rcases List.mem_cons.1 h with h | h
        · exact .inl h
        · exact .inr (by simp [h])
      · rw [if_neg c2] at h
        rcases List.mem_cons.1 h with h | h
        · exact .inl h
        · exact .inr h
theorem lt_trans26 {a b c : S26} (h1 : Lt26 a b) (h2 : Lt26 b c) : Lt26 a c := by unfold Lt26 at *; omega
theorem lt_tri {a b : S26} (h1 : ¬ Lt26 a b) (h2 : ¬ Key26 a b) : Lt26 b a := by unfold Lt26 Key26 at *; omega
theorem key_lt {a b c : S26} (h1 : Key26 a b) (h2 : Lt26 a c) : Lt26 b c := by unfold Lt26 Key26 at *; omega
theorem ins_srt (r : S26) : ∀ l, Srt l → Srt (ins r l)
  | [], _ => by simp [ins, Srt]
  | x :: t, hs => by
    obtain ⟨h1, h2⟩ := List.pairwise_cons.1 hs
    rw [ins_cons]
    by_cases c : Lt26 x r
    · rw [if_pos c]
      refine List.pairwise_cons.2 ⟨fun y hy => ?_, ins_srt r t h2⟩
      rcases ins_sub r t y hy with rfl | hy
      · exact c
      · exact h1 y hy
    · rw [if_neg c]
      by_cases c2 : Key26 x r
      · rw [if_pos c2]
        exact List.pairwise_cons.2 ⟨fun y hy => key_lt c2 (h1 y hy), h2⟩
      · rw [if_neg c2]
        have c3 := lt_tri c c2
        refine List.pairwise_cons.2 ⟨fun y hy => ?_, hs⟩
        rcases List.mem_cons.1 hy with rfl | hy
        · exact c3
        · exact lt_trans26 c3 (h1 y hy)
theorem not_lt_self (r : S26) : ¬ Lt26 r r := by unfold Lt26; omega
theorem ins_ins (r : S26) : ∀ l, ins r (ins r l) = ins r l
  | [] => by simp [ins, Key26, not_lt_self]
  | x :: t => by
    rw [ins_cons]
    by_cases c : Lt26 x r
    · rw [if_pos c, ins_cons, if_pos c, ins_ins r t]
    · rw [if_neg c]
      by_cases c2 : Key26 x r
      · rw [if_pos c2, ins_cons, if_neg (not_lt_self r), if_pos ⟨rfl, rfl⟩]
      · rw [if_neg c2, ins_cons, if_neg (not_lt_self r), if_pos ⟨rfl, rfl⟩]
theorem frc_ins (c d : Int) (r : S26) (hr : ¬ Hit c d r) : ∀ (l : List S26) (s : S26 × Bool), frc c d (ins r l) s = frc c d l s
  | [], s => by simp [ins, frc, hr]
  | x :: t, s => by
    rw [ins_cons]
    by_cases c1 : Lt26 x r
    · rw [if_pos c1]; exact frc_ins c d r hr t _
    · rw [if_neg c1]
      by_cases c2 : Key26 x r
      · rw [if_pos c2]
        show frc c d t (if Hit c d r then (r, true) else s) = frc c d t (if Hit c d x then (x, true) else s)
        rw [if_neg hr, if_neg (fun h => hr ⟨by rw [← c2.1]; exact h.1, by rw [← c2.2]; exact h.2⟩)]
      · rw [if_neg c2]
        show frc c d (x :: t) (if Hit c d r then (r, true) else s) = _
        rw [if_neg hr]
theorem frc_in (r : S26) (l : List S26) (s : S26 × Bool) (hs : Srt l) (hr : r ∈ l) : frc r.f0 r.f1 l s = (r, true) := by
  rcases frc_spec r.f0 r.f1 l s hs with ⟨q, _⟩ | ⟨x, x1, x2, x3, x4⟩
  · exact absurd ⟨rfl, Int.le_refl _⟩ (q r hr)
  · rw [x3]
    have h1 := x4 r hr ⟨rfl, Int.le_refl _⟩
    have h2 := x2.2
    rw [srt_key hs x1 hr ⟨x2.1, by omega⟩]
/-- Where a rate goes. -/
theorem ins_at (r : S26) : ∀ (l : List S26) (n : Nat), n ≤ l.length → (∀ x, x ∈ l.take n → Lt26 x r) → (∀ x, x ∈ l.drop n → ¬ Lt26 x r) →
    ins r l = l.take n ++ r :: (match l.drop n with
      | [] => []
      | x :: t => if Key26 x r then t else x :: t)
  | l, 0, _, _, h => by
    cases l with
    | nil => rfl
    | cons x t =>
      rw [ins_cons, if_neg (h x (by simp))]
      show (if Key26 x r then r :: t else r :: x :: t) = r :: (if Key26 x r then t else x :: t)
      by_cases c : Key26 x r
      · rw [if_pos c, if_pos c]
      · rw [if_neg c, if_neg c]
  | [], n + 1, hn, _, _ => by simp at hn
  | x :: t, n + 1, hn, h1, h2 => by
    rw [ins_cons, if_pos (h1 x (by simp)), ins_at r t n (by simpa using hn) (fun y hy => h1 y (by simp [hy])) (fun y hy => h2 y (by simpa using hy))]
    simp
end Go.Proofs.YtholbmidciapdaaGreatDoor.PL
namespace Go.Proofs.YtholbmidciapdaaGreatDoor.PL
open Go Go.RowKit Go.Proofs.YtholbmidciapdaaGreatDoorW.PrintWords Go.Proofs.YtholbmidciapdaaGreatDoorW.PrintLast Go.Proofs.YtholbmidciapdaaGreatDoorW.PrintMore Go.Proofs.YtholbmidciapdaaGreatDoor.Pr Go.Proofs.YtholbmidciapdaaGreatDoor.X
theorem within_eq (a b c : Int) : tariff_within.f a b c = some (decide (b ≤ a ∧ a ≤ c)) := by
  unfold tariff_within.f
  by_cases h : a ≥ b
  · rw [if_pos h]; exact congrArg some (decide_eq_decide.2 ⟨fun q => ⟨h, q⟩, fun q => q.2⟩)
  · rw [if_neg h, decide_eq_false (fun q => h q.1)]
def Rng (x : S26) : Prop := (1 ≤ x.f0 ∧ x.f0 ≤ 9) ∧ (0 ≤ x.f1 ∧ x.f1 ≤ 100000) ∧ 0 ≤ x.f2 ∧ x.f2 ≤ 1000000
instance (x : S26) : Decidable (Rng x) := by unfold Rng; infer_instance
theorem ranged_eq (a b c : Int) : tariff_ranged.f a b c = some (decide (Rng ⟨a, b, c⟩)) := by
  unfold tariff_ranged.f
  simp only [within_eq, Option.bind_some]
  by_cases h1 : 1 ≤ a ∧ a ≤ 9
  · rw [if_pos (decide_eq_true h1)]
    by_cases h2 : 0 ≤ b ∧ b ≤ 100000
    · rw [if_pos (decide_eq_true h2)]
      exact congrArg some (decide_eq_decide.2 ⟨fun q => ⟨h1, h2, q⟩, fun q => q.2.2⟩)
    · rw [if_neg (by simpa using h2), decide_eq_false (fun q : Rng ⟨a, b, c⟩ => h2 q.2.1)]
  · rw [if_neg (by simpa using h1), decide_eq_false (fun q : Rng ⟨a, b, c⟩ => h1 q.1)]
theorem refright_eq (a b c : Int) : spileref46_right.f a b c = some (decide (Rng ⟨a, b, c⟩)) := by
  unfold spileref46_right.f
  by_cases h1 : a ≥ 1
  case neg => rw [if_neg h1, decide_eq_false (fun q : Rng ⟨a, b, c⟩ => h1 q.1.1)]
  rw [if_pos h1]
  by_cases h2 : a ≤ 9
  case neg => rw [if_neg h2, decide_eq_false (fun q : Rng ⟨a, b, c⟩ => h2 q.1.2)]
  rw [if_pos h2]
  by_cases h3 : b ≥ 0
  case neg => rw [if_neg h3, decide_eq_false (fun q : Rng ⟨a, b, c⟩ => h3 q.2.1.1)]
  rw [if_pos h3]
  by_cases h4 : b ≤ 100000
  case neg => rw [if_neg h4, decide_eq_false (fun q : Rng ⟨a, b, c⟩ => h4 q.2.1.2)]
  rw [if_pos h4]
  by_cases h5 : c ≥ 0
  case neg => rw [if_neg h5, decide_eq_false (fun q : Rng ⟨a, b, c⟩ => h5 q.2.2.1)]
  rw [if_pos h5]
  exact congrArg some (decide_eq_decide.2 ⟨fun q => ⟨⟨h1, h2⟩, ⟨h3, h4⟩, h5, q⟩, fun q => q.2.2.2⟩)
def cmpv (a b : Int) : Int := if a < b then -1 else if a > b then 1 else 0
theorem cmp_eq (a b : Int) : cmp_Compare_int.f a b = some (cmpv a b) := by
  unfold cmp_Compare_int.f cmp_isNaN_int.f cmpv
  simp only [bne_self_eq_false, Option.bind_some, Bool.false_eq_true, if_false]
  split
  · rfl
  · split <;> rfl
theorem or_ev (x y : Int) : Ev (fun k => cmp_Or_int.f k [x, y]) (if x = 0 then y else x) := by
  refine Ev.step (fun k => cmp_Or_int.l0.eq_2 ..) (evp (by simp) (evp (by omega) (evp (by simp) ?_)))
  rw [show rd [x, y] 0 = x from rfl, show wrap64 (0 + 1) = 1 from by unfold wrap64; omega]
  by_cases c : x = 0
  · rw [if_pos c]
    refine evp c (Ev.step (fun k => cmp_Or_int.l0.eq_2 ..) (evp (by simp) (evp (by omega) (evp (by simp) ?_))))
    rw [show rd [x, y] 1 = y from rfl, show wrap64 (1 + 1) = 2 from by unfold wrap64; omega]
    by_cases d : y = 0
    · refine evp d (Ev.step (fun k => cmp_Or_int.l0.eq_2 ..) (evn (by simp) (evr d.symm)))
    · exact evn d (Ev.now _)
  · rw [if_neg c]; exact evn c (Ev.now _)
theorem compare_ev (a b : S26) : ∃ v, Ev (fun k => tariff_compare.f k a.f0 a.f1 a.f2 b.f0 b.f1 b.f2) v ∧ (v < 0 ↔ Lt26 a b) ∧ (v = 0 ↔ Key26 a b) := by
  refine ⟨_, evb (evc (fun _ => rfl) (cmp_eq _ _)) (evb (evc (fun _ => rfl) (cmp_eq _ _)) (evb (or_ev _ _) (Ev.now _))), ?_, ?_⟩
  · unfold cmpv Lt26; split <;> (try split) <;> (try split) <;> omega
  · unfold cmpv Key26; split <;> (try split) <;> (try split) <;> omega
theorem before_eq (a b : S26) : spileref46_before.f a.f0 a.f1 a.f2 b.f0 b.f1 b.f2 = some (decide (Lt26 a b)) := by
  unfold spileref46_before.f
  by_cases h : a.f0 < b.f0
  · rw [if_pos h]; exact congrArg some (decide_eq_true (show Lt26 a b from .inl h)).symm
  · rw [if_neg h]
    by_cases h2 : a.f0 = b.f0
    · rw [if_pos h2]; exact congrArg some (decide_eq_decide.2 ⟨fun q => (show Lt26 a b from .inr ⟨h2, q⟩), fun q => by unfold Lt26 at q; omega⟩)
    · rw [if_neg h2]; exact congrArg some (decide_eq_false (show ¬ Lt26 a b from fun q => by unfold Lt26 at q; omega)).symm
theorem rd26_get {l : List S26} {i : Nat} (h : i < l.length) : rd_T26 l (i : Int) = l[i] := by
  unfold rd_T26
  rw [Int.toNat_natCast, List.getD_eq_getElem?_getD, List.getElem?_eq_getElem h]
  rfl
theorem rd26_mem {l : List S26} {i : Int} (h0 : 0 ≤ i) (h : i < (l.length : Int)) : rd_T26 l i ∈ l := by
  obtain ⟨n, rfl⟩ : ∃ n : Nat, i = (n : Int) := ⟨i.toNat, by omega⟩
  rw [rd26_get (by omega)]
  exact List.getElem_mem _
theorem rd26_of_mem {l : List S26} {x : S26} (h : x ∈ l) : ∃ i : Int, 0 ≤ i ∧ i < (l.length : Int) ∧ rd_T26 l i = x := by
  obtain ⟨i, hi, rfl⟩ := List.mem_iff_getElem.1 h
  exact ⟨(i : Int), by omega, by omega, rd26_get hi⟩
theorem drop26 {l : List S26} {i : Int} (h0 : 0 ≤ i) (h1 : i < (l.length : Int)) : l.drop i.toNat = rd_T26 l i :: l.drop (i + 1).toNat := by
  obtain ⟨n, rfl⟩ : ∃ n : Nat, i = (n : Int) := ⟨i.toNat, by omega⟩
  rw [rd26_get (by omega), Int.toNat_natCast, show ((n : Int) + 1).toNat = n + 1 from by omega]
  exact List.drop_eq_getElem_cons (by omega)
def OKT (r : Int) (l : List S26) : Prop := (1 ≤ r ∧ r ≤ 4) ∧ (l.length : Int) ≤ 64 ∧ (∀ x, x ∈ l → Rng x) ∧ Srt l
theorem chain_lt {l : List S26} (h : ∀ j, 0 < j → j < (l.length : Int) → Lt26 (rd_T26 l (j - 1)) (rd_T26 l j)) : ∀ (d : Nat) (a : Int), 0 ≤ a → a + d + 1 < (l.length : Int) → Lt26 (rd_T26 l a) (rd_T26 l (a + d + 1))
  | 0, a, h0, h1 => by
    have := h (a + 1) (by omega) (by omega)
    rw [show a + 1 - 1 = a from by omega] at this
    rwa [show a + ((0 : Nat) : Int) + 1 = a + 1 from by omega]
  | d + 1, a, h0, h1 => by
    have ih := chain_lt h d a h0 (by omega)
    have := h (a + d + 1 + 1) (by omega) (by omega)
    rw [show a + (d : Int) + 1 + 1 - 1 = a + d + 1 from by omega] at this
    rw [show a + ((d + 1 : Nat) : Int) + 1 = a + d + 1 + 1 from by omega]
    exact lt_trans26 ih this
theorem srt_iff (l : List S26) : (∀ j, 0 < j → j < (l.length : Int) → Lt26 (rd_T26 l (j - 1)) (rd_T26 l j)) ↔ Srt l := by
  constructor
  · intro h
    refine List.pairwise_iff_getElem.2 (fun i j hi hj hij => ?_)
    have := chain_lt h (j - i - 1) (i : Int) (by omega) (by omega)
    rwa [show (i : Int) + ((j - i - 1 : Nat) : Int) + 1 = (j : Int) from by omega, rd26_get hi, rd26_get hj] at this
  · intro h j h0 h1
    obtain ⟨n, rfl⟩ : ∃ n : Nat, j = (n : Int) := ⟨j.toNat, by omega⟩
    have := List.pairwise_iff_getElem.1 h (n - 1) n (by omega) (by omega) (by omega)
    rwa [show (n : Int) - 1 = ((n - 1 : Nat) : Int) from by omega, rd26_get (by omega), rd26_get (by omega)]
theorem srt_lt {l : List S26} (h : Srt l) {a b : Int} (h0 : 0 ≤ a) (h1 : a < b) (h2 : b < (l.length : Int)) : Lt26 (rd_T26 l a) (rd_T26 l b) := by
  have := chain_lt ((srt_iff l).2 h) (b - a - 1).toNat a h0 (by omega)
  rwa [show a + ((b - a - 1).toNat : Int) + 1 = b from by omega] at this
theorem check_loop (r : Int) (l : List S26) (hl : (l.length : Int) ≤ 64) : ∀ i, 0 ≤ i → i ≤ (l.length : Int) →
    ∃ e : Int × Int, Ev (fun k => tariff_Check.l0 k l (l.length : Int) i r l) e ∧ Ev (fun k => spileref46_Check.l0 k i r l) e ∧
      (e.2 = 0 ↔ ∀ j, i ≤ j → j < (l.length : Int) → Rng (rd_T26 l j) ∧ (0 < j → Lt26 (rd_T26 l (j - 1)) (rd_T26 l j))) ∧ (e.2 = 0 → e.1 = -1) := by
  refine count_up 0 (l.length : Int) _ ?_ ?_
  · exact ⟨(-1, 0), Ev.step (fun k => tariff_Check.l0.eq_2 ..) (evn (by omega) (Ev.now _)), Ev.step (fun k => spileref46_Check.l0.eq_2 ..) (evn (by omega) (Ev.now _)), ⟨fun _ j a b => by omega, fun _ => rfl⟩, fun _ => rfl⟩
  · intro i h0 h1 ih
    have hw := w64_succ h0 h1 (by omega)
    have re := ranged_eq (rd_T26 l i).f0 (rd_T26 l i).f1 (rd_T26 l i).f2
    have rr := refright_eq (rd_T26 l i).f0 (rd_T26 l i).f1 (rd_T26 l i).f2
    have e26 : (⟨(rd_T26 l i).f0, (rd_T26 l i).f1, (rd_T26 l i).f2⟩ : S26) = rd_T26 l i := rfl
    rw [e26] at re rr
    by_cases c1 : Rng (rd_T26 l i)
    case neg =>
      rw [decide_eq_false c1] at re rr
      exact ⟨(i, 2), Ev.step (fun k => tariff_Check.l0.eq_2 ..) (evp h1 (evp h0 (evp h1 (evb (evc (fun _ => rfl) re) (evn (by simp) (Ev.now _)))))), Ev.step (fun k => spileref46_Check.l0.eq_2 ..) (evp h1 (evp h0 (evb (evc (fun _ => rfl) rr) (evn (by simp) (Ev.now _))))),
        ⟨fun q => by simp at q, fun q => absurd (q i (by omega) h1).1 c1⟩, fun q => by simp at q⟩
    rw [decide_eq_true c1] at re rr
    obtain ⟨e, e1, e2, e3, e4⟩ := ih
    have ext : (0 < i → Lt26 (rd_T26 l (i - 1)) (rd_T26 l i)) → ((∀ j, i + 1 ≤ j → j < (l.length : Int) → Rng (rd_T26 l j) ∧ (0 < j → Lt26 (rd_T26 l (j - 1)) (rd_T26 l j))) ↔ ∀ j, i ≤ j → j < (l.length : Int) → Rng (rd_T26 l j) ∧ (0 < j → Lt26 (rd_T26 l (j - 1)) (rd_T26 l j))) := fun hh =>
      ⟨fun q j a b => by
        by_cases e : j = i
        · rw [e]; exact ⟨c1, hh⟩
        · exact q j (by omega) b, fun q j a b => q j (by omega) b⟩
    by_cases c2 : i > 0
    · have hp := w64_pred (i := i) (n := (l.length : Int)) h0 (by omega) (by omega)
      obtain ⟨v, v1, v2, v3⟩ := compare_ev (rd_T26 l (i - 1)) (rd_T26 l i)
      have hb := before_eq (rd_T26 l (i - 1)) (rd_T26 l i)
      by_cases c3 : Lt26 (rd_T26 l (i - 1)) (rd_T26 l i)
      · rw [decide_eq_true c3] at hb
        have v4 := v2.2 c3
        refine ⟨e, Ev.step (fun k => tariff_Check.l0.eq_2 ..) (evp h1 (evp h0 (evp h1 (evb (evc (fun _ => rfl) re) (evp rfl (evp c2 ?_)))))), Ev.step (fun k => spileref46_Check.l0.eq_2 ..) (evp h1 (evp h0 (evb (evc (fun _ => rfl) rr) (evp rfl (evp c2 ?_))))), e3.trans (ext (fun _ => c3)), e4⟩
        · rw [hp, hw]; exact evp (by omega) (evp (by omega) (evb v1 (evn (by omega) e1)))
        · rw [hp, hw]; exact evp (by omega) (evp (by omega) (evb (evc (fun _ => rfl) hb) (evp rfl e2)))
      · rw [decide_eq_false c3] at hb
        have v4 : v ≥ 0 := by
          by_cases q : v < 0
          · exact absurd (v2.1 q) c3
          · omega
        refine ⟨(i, 5), Ev.step (fun k => tariff_Check.l0.eq_2 ..) (evp h1 (evp h0 (evp h1 (evb (evc (fun _ => rfl) re) (evp rfl (evp c2 ?_)))))), Ev.step (fun k => spileref46_Check.l0.eq_2 ..) (evp h1 (evp h0 (evb (evc (fun _ => rfl) rr) (evp rfl (evp c2 ?_))))), ⟨fun q => by simp at q, fun q => absurd ((q i (by omega) h1).2 c2) c3⟩, fun q => by simp at q⟩
        · rw [hp]; exact evp (by omega) (evp (by omega) (evb v1 (evp v4 (Ev.now _))))
        · rw [hp]; exact evp (by omega) (evp (by omega) (evb (evc (fun _ => rfl) hb) (evn (by simp) (Ev.now _))))
    · refine ⟨e, Ev.step (fun k => tariff_Check.l0.eq_2 ..) (evp h1 (evp h0 (evp h1 (evb (evc (fun _ => rfl) re) (evp rfl (evn c2 ?_)))))), Ev.step (fun k => spileref46_Check.l0.eq_2 ..) (evp h1 (evp h0 (evb (evc (fun _ => rfl) rr) (evp rfl (evn c2 ?_))))), e3.trans (ext (fun q => absurd q c2)), e4⟩
      · rw [hw]; exact e1
      · rw [hw]; exact e2
theorem check_both (r : Int) (l : List S26) : ∃ e : Int × Int, Ev (fun k => tariff_Check.f k r l) e ∧ Ev (fun k => spileref46_Check.f k r l) e ∧ (e.2 = 0 ↔ OKT r l) ∧ (e.2 = 0 → e.1 = -1) := by
  have two : ∀ b : Bool, b = true → Ev (fun k => spileref46_Check.j0 k b r l) (-1, 2) := fun b hb => Ev.step (fun k => spileref46_Check.j0.eq_2 ..) (evp hb (Ev.now _))
  have w := within_eq r 1 4
  by_cases c0 : 1 ≤ r ∧ r ≤ 4
  case neg =>
    rw [decide_eq_false c0] at w
    refine ⟨(-1, 2), evb (evc (fun _ => rfl) w) (evn (by simp) (Ev.now _)), ?_, ⟨fun q => by simp at q, fun q => absurd q.1 c0⟩, fun _ => rfl⟩
    by_cases c1 : r < 1
    · exact evp c1 (two _ rfl)
    · exact evn c1 (two _ (decide_eq_true (by omega)))
  rw [decide_eq_true c0] at w
  have pre : ∀ e, Ev (fun k => if (l.length : Int) > 64 then (some ((-1), 8)) else (spileref46_Check.l0 k 0 r l)) e → Ev (fun k => spileref46_Check.f k r l) e := fun e he => by
    refine evn (by omega) ?_
    rw [decide_eq_false (show ¬ r > 4 by omega)]
    exact Ev.step (fun k => spileref46_Check.j0.eq_2 ..) (evn (by simp) he)
  by_cases c2 : (l.length : Int) > 64
  · exact ⟨(-1, 8), evb (evc (fun _ => rfl) w) (evp rfl (evp c2 (Ev.now _))), pre _ (evp c2 (Ev.now _)), ⟨fun q => by simp at q, fun q => absurd q.2.1 (by omega)⟩, fun _ => rfl⟩
  · obtain ⟨e, e1, e2, e3, e4⟩ := check_loop r l (by omega) 0 (by omega) (by omega)
    refine ⟨e, evb (evc (fun _ => rfl) w) (evp rfl (evn c2 e1)), pre _ (evn c2 e2), e3.trans ⟨fun q => ⟨c0, by omega, fun x hx => ?_, (srt_iff l).1 (fun j a b => (q j (by omega) b).2 a)⟩, fun q j a b => ⟨q.2.2.1 _ (rd26_mem a b), fun p => (srt_iff l).2 q.2.2.2 j p b⟩⟩, e4⟩
    obtain ⟨i, i0, i1, rfl⟩ := rd26_of_mem hx
    exact (q i i0 i1).1
theorem right_B (r : Int) (l : List S26) : EvB (fun k => tariff_right.f k r l) (OKT r l) := by
  obtain ⟨e, e1, _, e3, _⟩ := check_both r l
  refine ⟨fun h => evb e1 (evr (beq_iff_eq.2 (e3.2 h))), fun h => evb e1 (evr ?_)⟩
  rw [beq_eq_false_iff_ne]
  exact fun q => h (e3.1 q)
theorem same_self (r : Int) (l : List S26) (hl : (l.length : Int) ≤ 9223372036854775807) : Ev (fun k => spileref46_Same.f k r l r l) true := by
  refine evp rfl ?_
  rw [show ((l.length : Int) != (l.length : Int)) = false from bne_self_eq_false _]
  refine Ev.step (fun k => spileref46_Same.j0.eq_2 ..) (evn (by simp) ?_)
  refine count_up 0 (l.length : Int) (fun i => Ev (fun k => spileref46_Same.l0 k i r l r l) true) ?_ ?_ 0 (Int.le_refl _) (by omega)
  · exact Ev.step (fun k => spileref46_Same.l0.eq_2 ..) (evn (by omega) (Ev.now _))
  · intro i h0 h1 ih
    refine Ev.step (fun k => spileref46_Same.l0.eq_2 ..) (evp h1 (evp h0 (evp h1 (evn (by simp) ?_))))
    rw [w64_succ h0 h1 hl]
    exact ih
theorem clone_eq {l : List S26} (h : (l.length : Int) ≤ 65) : slices_Clone26.f l = some l := by
  unfold slices_Clone26.f
  rw [if_pos (by omega)]
theorem cp_eq {r : Int} {l : List S26} (h : (l.length : Int) ≤ 65) : spilelaw46_cp.f r l = some (r, l) := by
  unfold spilelaw46_cp.f
  rw [clone_eq h]
  rfl
theorem few_eq (r : Int) (l : List S26) : ∃ b, spileref46_Few.f r l = some b ∧ (b = true → (l.length : Int) ≤ 65) := by
  unfold spileref46_Few.f
  by_cases c : (l.length : Int) ≤ 20
  · exact ⟨true, if_pos c, fun _ => by omega⟩
  · refine ⟨(l.length : Int) == 65, if_neg c, fun q => ?_⟩
    have := beq_iff_eq.1 q
    omega
theorem search_at {α : Type} (n : Int) (Q : Int → Prop) (res : Int → α) (L : Int → Int → Nat → Option α)
    (hend : ∀ i, 0 ≤ i → i ≤ n → Ev (L i i) (res i)) (hyes : ∀ i j, 0 ≤ i → i < j → j ≤ n → Q ((i + j) / 2) → ∀ r, Ev (L i ((i + j) / 2)) r → Ev (L i j) r)
    (hno : ∀ i j, 0 ≤ i → i < j → j ≤ n → ¬ Q ((i + j) / 2) → ∀ r, Ev (L ((i + j) / 2 + 1) j) r → Ev (L i j) r)
    (mono : ∀ a b, 0 ≤ a → a ≤ b → b < n → Q a → Q b) (hn : 0 ≤ n) :
    ∃ r, Ev (L 0 n) (res r) ∧ 0 ≤ r ∧ r ≤ n ∧ (∀ a, 0 ≤ a → a < r → ¬ Q a) ∧ (∀ a, r ≤ a → a < n → Q a) := by
  have go : ∀ (d : Nat) (i j : Int), 0 ≤ i → i ≤ j → j ≤ n → j - i ≤ d → (∀ a, 0 ≤ a → a < i → ¬ Q a) → (∀ a, j ≤ a → a < n → Q a) →
      ∃ r, Ev (L i j) (res r) ∧ 0 ≤ r ∧ r ≤ n ∧ (∀ a, 0 ≤ a → a < r → ¬ Q a) ∧ (∀ a, r ≤ a → a < n → Q a) := by
    intro d
    induction d with
    | zero =>
      intro i j h0 h1 h2 h3 hl hr
      obtain rfl : i = j := by omega
      exact ⟨i, hend i h0 h2, h0, h2, hl, hr⟩
    | succ d ih =>
      intro i j h0 h1 h2 h3 hl hr
      by_cases e : i = j
      · subst e
        exact ⟨i, hend i h0 h2, h0, h2, hl, hr⟩
      · by_cases q : Q ((i + j) / 2)
        · obtain ⟨r, hr2, h⟩ := ih i ((i + j) / 2) h0 (by omega) (by omega) (by omega) hl (fun a ha hb => mono ((i + j) / 2) a (by omega) ha hb q)
          exact ⟨r, hyes i j h0 (by omega) h2 q _ hr2, h⟩
        · obtain ⟨r, hr2, h⟩ := ih ((i + j) / 2 + 1) j (by omega) (by omega) h2 (by omega) (fun a ha hb qa => q (mono a ((i + j) / 2) ha (by omega) (by omega) qa)) hr
          exact ⟨r, hno i j h0 (by omega) h2 q _ hr2, h⟩
  exact go n.toNat 0 n (by omega) hn (by omega) (by omega) (fun a h0 h1 => absurd h1 (by omega)) (fun a h0 h1 => absurd h1 (by omega))
theorem place_ev (l : List S26) (r : S26) (hl : (l.length : Int) ≤ 65) (hs : Srt l) : ∃ i : Int, 0 ≤ i ∧ i ≤ (l.length : Int) ∧ (∀ a, 0 ≤ a → a < i → Lt26 (rd_T26 l a) r) ∧ (∀ a, i ≤ a → a < (l.length : Int) → ¬ Lt26 (rd_T26 l a) r) ∧
    Ev (fun k => api_Rate_42_at_37.f k l r.f0 r.f1 r.f2) (i, decide (i < (l.length : Int) ∧ Key26 (rd_T26 l i) r)) := by
  obtain ⟨i, e, h0, h1, h2, h3⟩ := search_at (l.length : Int) (fun a => ¬ Lt26 (rd_T26 l a) r) (fun i => (i, decide (i < (l.length : Int) ∧ Key26 (rd_T26 l i) r))) (fun i j k => api_Rate_42_at_37.l0 k l (l.length : Int) i j r.f0 r.f1 r.f2)
    (by
      intro i h0 h1
      refine Ev.step (fun k => api_Rate_42_at_37.l0.eq_2 ..) (evn (by omega) ?_)
      by_cases c : i < (l.length : Int)
      · obtain ⟨v, v1, _, v3⟩ := compare_ev (rd_T26 l i) r
        refine evp c (evp h0 (evp c (evb v1 (evr (Prod.ext rfl ?_)))))
        by_cases q : v = 0
        · rw [decide_eq_true ⟨c, v3.1 q⟩, q]; rfl
        · rw [decide_eq_false (fun z => q (v3.2 z.2))]; exact beq_eq_false_iff_ne.2 q
      · exact evn c (evr (by rw [decide_eq_false (fun z => c z.1)])))
    (by
      intro i j h0 h1 h2 q z hz
      have hh := half (i := i) (j := j) h0 h1 (by omega)
      obtain ⟨v, v1, v2, _⟩ := compare_ev (rd_T26 l ((i + j) / 2)) r
      refine Ev.step (fun k => api_Rate_42_at_37.l0.eq_2 ..) (evp h1 ?_)
      rw [hh]
      exact evp (by omega) (evp (by omega) (evb v1 (evn (fun y => q (v2.1 y)) hz))))
    (by
      intro i j h0 h1 h2 q z hz
      have hh := half (i := i) (j := j) h0 h1 (by omega)
      have hw : wrap64 ((i + j) / 2 + 1) = (i + j) / 2 + 1 := w64 (by omega) (by omega)
      obtain ⟨v, v1, v2, _⟩ := compare_ev (rd_T26 l ((i + j) / 2)) r
      refine Ev.step (fun k => api_Rate_42_at_37.l0.eq_2 ..) (evp h1 ?_)
      rw [hh, hw]
      exact evp (by omega) (evp (by omega) (evb v1 (evp (v2.2 (Decidable.byContradiction q)) hz))))
    (by
      intro a b h0 h1 h2 q y
      by_cases e : a = b
      · exact q (by rw [e]; exact y)
      · exact q (lt_trans26 (srt_lt hs h0 (by omega) h2) y)) (by omega)
  exact ⟨i, h0, h1, fun a a0 a1 => Decidable.byContradiction (h2 a a0 a1), h3, e⟩
theorem set_drop (l : List S26) (r : S26) (n : Nat) (h : n < l.length) : l.set n r = l.take n ++ r :: l.drop (n + 1) := List.set_eq_take_append_cons_drop .. ▸ if_pos h
theorem insert_ev (R : Int) (l : List S26) (r : S26) (hl : (l.length : Int) ≤ 65) : ∃ z : Int × List S26 × Int, Ev (fun k => tariff_Insert.f k R l r.f0 r.f1 r.f2) z ∧
    (¬ OKT R l → z = (0, [], 1)) ∧ (OKT R l → ¬ Rng r → z = (0, [], 2)) ∧ (OKT R l → Rng r → z = if ((ins r l).length : Int) > 64 then (0, [], 8) else (R, ins r l, 0)) := by
  have hb := right_B R l
  by_cases ok : OKT R l
  case neg => exact ⟨(0, [], 1), evb (hb.2 ok) (evn (by simp) (Ev.now _)), fun _ => rfl, fun q => absurd q ok, fun q => absurd q ok⟩
  have re := ranged_eq r.f0 r.f1 r.f2
  have e26 : (⟨r.f0, r.f1, r.f2⟩ : S26) = r := rfl
  rw [e26] at re
  by_cases rg : Rng r
  case neg =>
    rw [decide_eq_false rg] at re
    exact ⟨(0, [], 2), evb (hb.1 ok) (evp rfl (evb (evc (fun _ => rfl) re) (evn (by simp) (Ev.now _)))), fun q => absurd ok q, fun _ _ => rfl, fun _ q => absurd q rg⟩
  rw [decide_eq_true rg] at re
  have hn := ok.2.1
  obtain ⟨i, i0, i1, i2, i3, i4⟩ := place_ev l r hl ok.2.2.2
  have hin := ins_at r l i.toNat (by omega) (fun x hx => by
      obtain ⟨j, hj, rfl⟩ := List.mem_iff_getElem.1 hx
      rw [List.length_take] at hj
      have := i2 (j : Int) (by omega) (by omega)
      rw [rd26_get (by omega)] at this
      simpa using this) (fun x hx => by
      obtain ⟨j, hj, rfl⟩ := List.mem_iff_getElem.1 hx
      rw [List.length_drop] at hj
      have := i3 ((i.toNat + j : Nat) : Int) (by omega) (by omega)
      rw [rd26_get (by omega)] at this
      simpa using this)
  refine ⟨if ((ins r l).length : Int) > 64 then (0, [], 8) else (R, ins r l, 0), ?_, fun q => absurd ok q, fun _ q => absurd rg q, fun _ _ => rfl⟩
  refine evb (hb.1 ok) (evp rfl (evb (evc (fun _ => rfl) re) (evp rfl (evb (evc (fun _ => rfl) (clone_eq hl)) (evb i4 ?_)))))
  by_cases c : i < (l.length : Int) ∧ Key26 (rd_T26 l i) r
  · rw [decide_eq_true c]
    have e : ins r l = l.set i.toNat r := by
      rw [hin, set_drop l r i.toNat (by omega), drop26 i0 c.1]
      simp only
      rw [if_pos c.2, show (i + 1).toNat = i.toNat + 1 from by omega]
    have eR : (if ((ins r l).length : Int) > 64 then ((0, [], 8) : Int × List S26 × Int) else (R, ins r l, 0)) = (R, l.set i.toNat r, 0) := by
      rw [if_neg (by rw [e, List.length_set]; omega), e]
    rw [eR]
    exact evp rfl (evp i0 (evp c.1 (Ev.now _)))
  · rw [decide_eq_false c]
    have e : ins r l = l.take i.toNat ++ [r] ++ l.drop i.toNat := by
      rw [hin]
      by_cases d : i < (l.length : Int)
      · rw [drop26 i0 d]
        simp only
        rw [if_neg (fun q => c ⟨d, q⟩)]
        simp
      · rw [List.drop_eq_nil_of_le (by omega)]
        simp
    have ei : slices_Insert26.f l i [r] = some (ins r l) := by
      unfold slices_Insert26.f
      rw [if_pos ⟨i0, i1, rfl, by omega⟩, e]
    refine evn (by simp) (evb (evc (fun _ => rfl) ei) ?_)
    by_cases q : ((ins r l).length : Int) > 64
    · exact evp q (evr (if_pos q).symm)
    · exact evn q (evr (if_neg q).symm)
end Go.Proofs.YtholbmidciapdaaGreatDoor.PL
namespace Go.Proofs.YtholbmidciapdaaGreatDoor.PL
/-- Whether a quotient is rounded up. -/
def Up (rule q r : Int) : Prop := (rule = 2 ∧ r > 0) ∨ (rule = 3 ∧ 2 * r ≥ 10000000) ∨ (rule = 4 ∧ (2 * r > 10000000 ∨ (2 * r = 10000000 ∧ q % 2 = 1)))
instance (rule q r : Int) : Decidable (Up rule q r) := by unfold Up; infer_instance
def rnd (rule n : Int) : Int := if Up rule (n / 10000000) (n % 10000000) then n / 10000000 + 1 else n / 10000000
end Go.Proofs.YtholbmidciapdaaGreatDoor.PL
