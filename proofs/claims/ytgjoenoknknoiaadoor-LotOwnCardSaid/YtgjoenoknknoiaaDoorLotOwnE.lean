/-
The law LotOwn returns true for every input that can be read as data, and leaves its arguments as they were: the row, and the card that ties the listed variables to the program's text.
No condition of its own beyond those that the given row prints.
-/
import Derived.Test.YtgjoenoknknoiaaDoorCards
import Derived.Test.YtgjoenoknknoiaaDoorTie
import Derived.ProofKit
import Derived.OpenShut
import Derived.ShutString
import Derived.ChangeOld
import Derived.SizedLaws
import Derived.LaidMore
import Derived.Handed
import Derived.SevenTiedAt
import Derived.LaidSub
import Derived.LaidOnce
import Derived.Stop.Joined
import Derived.Stop.LaidErr
import Derived.Test.YtgjoenoknknoiaaDoorLotOwnD
set_option linter.unusedVariables false
set_option linter.unusedSimpArgs false
namespace Go.Proofs.YtgjoenoknknoiaaDoor.Pr
open Go.RowKit Go.Proofs.YtgjoenoknknoiaaDoorW.PrintWords Go.Proofs.YtgjoenoknknoiaaDoorW.PrintLast Go.Proofs.YtgjoenoknknoiaaDoorW.PrintMore Go.Proofs.YtgjoenoknknoiaaDoor.X
attribute [local go_sem] max2_int min2_int max_two min_two max_three min_three max_four min_four   -- for this text's walks alone
set_option linter.unusedVariables false
set_option linter.unusedSimpArgs false
mutual
def spilelaw22_LotOwn.j0 : Nat → List (S33) → Bool → Int → Int → Int → List (S35) → Option (Bool)
 | 0, _, _, _, _, _, _ => none
 | k + 1, x0, x24, x329000, x329001, x329002, x329003 => if x24 = true then (some true) else ((spileref22_CopyAll.f k x0).bind fun tb332 => ((spileref22_Copy.f x329000 x329001 x329002 x329003).bind fun bc335 => ((spileref22_Same.f k x0 tb332).bind fun b1 => ((spileref22_SameLot.f k x329000 x329001 x329002 x329003 bc335.1 bc335.2.1 bc335.2.2.1 bc335.2.2.2).bind fun b2 => (if b1 = true then (if b2 = true then ((lot_Put.f k x0 x329000 x329001 x329002 x329003).bind fun bt332 => (if bt332.2 = 0 then (spilelaw22_LotOwn.l0 k x0 bt332.1 (bt332.1.length : Int) 0 x329000 x329001 x329002 x329003) else (some ((bt332.1.length : Int) == 0)))) else (some false)) else (some false))))))
def spilelaw22_LotOwn.l0 : Nat → List (S33) → List (S33) → Int → Int → Int → Int → Int → List (S35) → Option (Bool)
 | 0, _, _, _, _, _, _, _, _ => none
 | k + 1, x0, x7, x41, x42, x329000, x329001, x329002, x329003 => if x42 < x41 then (if 0 ≤ x42 then (if x42 < (x7.length : Int) then (spilelaw22_LotOwn.l1 k x0 x7 x42 x41 x42 (((rd_T33 x7 x42).f2).length : Int) 0 x329000 x329001 x329002 x329003) else (none)) else (none)) else ((lot_Find.f k x0 x329000).bind fun bt342 => (if bt342.2.2.2.2 = true then (spilelaw22_LotOwn.l2 k (bt342.2.2.2.1.length : Int) 0 bt342.1 bt342.2.1 bt342.2.2.1 bt342.2.2.2.1) else (some true)))
def spilelaw22_LotOwn.l1 : Nat → List (S33) → List (S33) → Int → Int → Int → Int → Int → Int → Int → Int → List (S35) → Option (Bool)
 | 0, _, _, _, _, _, _, _, _, _, _, _ => none
 | k + 1, x0, x7, x9, x41, x42, x50, x51, x329000, x329001, x329002, x329003 => if x51 < x50 then (if 0 ≤ x9 then (if x9 < (x7.length : Int) then (if 0 ≤ x51 then (if x51 < (((rd_T33 x7 x9).f2).length : Int) then (spilelaw22_LotOwn.l1 k x0 (x7.set (x9 : Int).toNat (⟨(rd_T33 x7 x9).f0, (⟨(rd_T33 x7 x9).f1.f0, (rd_T33 x7 x9).f1.f1⟩ : S26), (((rd_T33 x7 x9).f2).set (x51 : Int).toNat (⟨(rd_T35 ((rd_T33 x7 x9).f2) x51).f0, wrap64 (((rd_T35 ((rd_T33 x7 x9).f2) x51).f1) + 1)⟩ : S35))⟩ : S33)) x9 x41 x42 x50 (wrap64 (x51 + 1)) x329000 x329001 x329002 x329003) else (none)) else (none)) else (none)) else (none)) else (spilelaw22_LotOwn.l0 k x0 x7 x41 (wrap64 (x42 + 1)) x329000 x329001 x329002 x329003)
def spilelaw22_LotOwn.l2 : Nat → Int → Int → Int → Int → Int → List (S35) → Option (Bool)
 | 0, _, _, _, _, _, _ => none
 | k + 1, x78, x79, x350000, x350001, x350002, x350003 => if x79 < x78 then (if 0 ≤ x79 then (if x79 < (x350003.length : Int) then (spilelaw22_LotOwn.l2 k x78 (wrap64 (x79 + 1)) x350000 x350001 x350002 (x350003.set (x79 : Int).toNat (⟨wrap64 (((rd_T35 x350003 x79).f0) + 1), (rd_T35 x350003 x79).f1⟩ : S35))) else (none)) else (none)) else (some true)
end
def spilelaw22_LotOwn.f (k : Nat) (l0 : List (S33)) (a1_0 : Int) (a1_1 : Int) (a1_2 : Int) (l1_3 : List (S35)) : Option (Bool) := (spilelaw22_awake.f).bind fun t329 => (if t329 = true then ((spileref22_Few.f k l0).bind fun t330 => (if t330 = true then ((spileref22_FewShares.f l1_3).bind fun t331 => (spilelaw22_LotOwn.j0 k l0 (!t331) a1_0 a1_1 a1_2 l1_3)) else (spilelaw22_LotOwn.j0 k l0 true a1_0 a1_1 a1_2 l1_3))) else (some false))
set_option maxHeartbeats 8000000 in
set_option maxRecDepth 100000 in
theorem spilelaw22_LotOwn.calls (k : Nat) (A0 : Option Addr) (c0 : Nat) (l0 : List (S33)) (a1_0 : Int) (a1_1 : Int) (a1_2 : Int) (A1_3 : Option Addr) (c1_3 : Nat) (l1_3 : List (S35)) (r : Bool) (w : World) (hr0 : Kd.C k33 w A0 l0.length l0) (hc0 : l0.length ≤ c0) (hr1_3 : Kd.C k35 w A1_3 l1_3.length l1_3) (hc1_3 : l1_3.length ≤ c1_3) (hG : GI w) (hr_ : r = true) (h : spilelaw22_LotOwn.f k l0 a1_0 a1_1 a1_2 l1_3 = some r) :
  Calls Tryd.prog 7 #[.slice A0 l0.length c0, .agg #[.int .i64 a1_0, .int .i64 a1_1, .int .i64 a1_2, .slice A1_3 l1_3.length c1_3]] w fun e w' => e = .returned (.bool r) ∧ Below w.heap.size w w' := by
 have hu33 := Tryd.underlying33; have HR0 := Aside0.mk hr0; have HC0 := Aside0.mk hc0; clear hr0 hc0; have HR1_3 := Aside0.mk hr1_3; have HC1_3 := Aside0.mk hc1_3; clear hr1_3 hc1_3; have HG := Aside0.mk hG; clear hG; have HB := Aside0.mk (Below.refl w.heap.size w); have H : ((spilelaw22_awake.f).bind fun t329 => (if t329 = true then ((spileref22_Few.f k l0).bind fun t330 => (if t330 = true then ((spileref22_FewShares.f l1_3).bind fun t331 => (spilelaw22_LotOwn.j0 k l0 (!t331) a1_0 a1_1 a1_2 l1_3)) else (spilelaw22_LotOwn.j0 k l0 true a1_0 a1_1 a1_2 l1_3))) else (some false))) = some r := h; clear h; replace H := Option.bind_eq_some_iff.mp H; obtain ⟨t329, A30, H⟩ := H; replace H : (if t329 = true then ((spileref22_Few.f k l0).bind fun t330 => (if t330 = true then ((spileref22_FewShares.f l1_3).bind fun t331 => (spilelaw22_LotOwn.j0 k l0 (!t331) a1_0 a1_1 a1_2 l1_3)) else (spilelaw22_LotOwn.j0 k l0 true a1_0 a1_1 a1_2 l1_3))) else (some false)) = some r := H; have A3 := Aside0.mk A30; clear A30; by_cases c4 : t329 = true
 ·
  subst c4; replace H : ((spileref22_Few.f k l0).bind fun t330 => (if t330 = true then ((spileref22_FewShares.f l1_3).bind fun t331 => (spilelaw22_LotOwn.j0 k l0 (!t331) a1_0 a1_1 a1_2 l1_3)) else (spilelaw22_LotOwn.j0 k l0 true a1_0 a1_1 a1_2 l1_3))) = some r := by rw [if_pos rfl] at H; exact H
  have HC5 := Aside0.mk H; clear H; go_enter Tryd.func7, Tryd.ntmps7
  go_upto_region 3 with (first | ((with_reducible refine gate_dst (N := 3) rfl ?_); refine box_event ?hg (N := 3) ?hd (cs := #[.int .i64 a1_0, .int .i64 a1_1, .int .i64 a1_2, .slice A1_3 l1_3.length c1_3]) (t := 33) ?hr ?_; (case hd => rfl); (case hg => rfl); (case hr => first | (go_simp; done) | (go_simp; rfl)); intro gb328 hg w6 hbox hb; have n0_ := Aside0.mk (below_step (eG HB.out) hb); have n1_ := Aside0.mk (hbox); have n2_ := Aside0.mk ((by rw [hg]; exact (below_size (eG HB.out)) : w.heap.size ≤ gb328)); have n3_ := Aside0.mk ((by rw [hg]; exact (below_size (eG HB.out)) : w.heap.size ≤ gb328)); clear HB; have HB := n0_; have BK328 := n1_; have GW328 := n2_; have GE328 := n3_; have ig328_ := geI GE328; clear n0_ n1_ n2_ n3_; clear hb hbox hg) | ((with_reducible refine gate_callee (f := 10) rfl ?_); refine goesL_ (some 14) rfl rfl Tryd.func10 (by kernel_rfl) rfl #[] rfl (by (try simp only [List.map_toArray, List.map_cons, List.map_nil]); first | done | rfl | (simp only [List.length_drop, List.length_take]; rfl)) ?_; (with_reducible refine (spilelaw22_awake.calls  true _ ?side1 A3.out).mono ?_); (case side1 => exact GI.below HG.out (eG HB.out)); rintro e w7 ⟨rfl, hb⟩; refine ⟨_, rfl, ?_⟩; have n0_ := Aside0.mk (blk_below (bG BK328.out) hb); have n1_ := Aside0.mk (below_step (eG HB.out) hb); clear BK328; clear HB; have BK328 := n0_; have HB := n1_; clear n0_ n1_; (try clear hb); (try clear hb2); (try clear hk); (try clear hi)))
  (try simp only [Act.put, sIA, sC0, sCS])
  go_cut [24] (fun v24 wc => ∃ (kq : Nat) (x24_4 : Bool), v24 = .bool x24_4 ∧ Aside0 (spilelaw22_LotOwn.j0 kq l0 x24_4 a1_0 a1_1 a1_2 l1_3 = some r) ∧ Aside0 (kq ≤ k) ∧ Aside0 (wc.heap[gb328]? = some (.cells #[.int .i64 a1_0, .int .i64 a1_1, .int .i64 a1_2, (.slice A1_3 l1_3.length c1_3)] 33 (0, 0))) ∧ Aside0 (Below w.heap.size w wc))
  case first =>
   have H := HC5.out; clear HC5; replace H := Option.bind_eq_some_iff.mp H; obtain ⟨t330, A80, H⟩ := H; replace H : (if t330 = true then ((spileref22_FewShares.f l1_3).bind fun t331 => (spilelaw22_LotOwn.j0 k l0 (!t331) a1_0 a1_1 a1_2 l1_3)) else (spilelaw22_LotOwn.j0 k l0 true a1_0 a1_1 a1_2 l1_3)) = some r := H; have A8 := Aside0.mk A80; clear A80; by_cases c9 : t330 = true
   ·
    subst c9; replace H : ((spileref22_FewShares.f l1_3).bind fun t331 => (spilelaw22_LotOwn.j0 k l0 (!t331) a1_0 a1_1 a1_2 l1_3)) = some r := by rw [if_pos rfl] at H; exact H
    replace H := Option.bind_eq_some_iff.mp H; obtain ⟨t331, A100, H⟩ := H; replace H : (spilelaw22_LotOwn.j0 k l0 (!t331) a1_0 a1_1 a1_2 l1_3) = some r := H; have A10 := Aside0.mk A100; clear A100; have H' := Aside0.mk H; clear H; go_wp2_with (first | ((with_reducible refine gate_callee (f := 11) rfl ?_); refine goesL_ (some 17) rfl rfl Tryd.func11 (by kernel_rfl) rfl #[.slice A0 l0.length c0] rfl (by (try simp only [List.map_toArray, List.map_cons, List.map_nil]); first | done | rfl | (simp only [List.length_drop, List.length_take]; rfl)) ?_; (with_reducible refine (spileref22_Few.calls k _ _ l0 true _ ?side1 ?side2 A8.out).mono ?_); (case side1 => repeat (first | exact (Kd.C_below HR0.out HB.out) | (with_reducible refine Kd.C_alloc ?_ _) | (with_reducible refine Kd.C_drewN ?_ _) | (with_reducible refine Kd.C_drew ?_))); (case side2 => exact HC0.out); rintro e w' ⟨rfl, ⟨nd, rfl⟩⟩; refine ⟨_, rfl, ?_⟩; have hcz11_0 : w7.cell? ⟨gb328, 0, none⟩ = some (.int .i64 a1_0) := (blk_cell BK328.out 0).trans rfl; have hcz11_1 : w7.cell? ⟨gb328, 1, none⟩ = some (.int .i64 a1_1) := (blk_cell BK328.out 1).trans rfl; have hcz11_2 : w7.cell? ⟨gb328, 2, none⟩ = some (.int .i64 a1_2) := (blk_cell BK328.out 2).trans rfl; have hcz11_3 : w7.cell? ⟨gb328, 3, none⟩ = some (.slice A1_3 l1_3.length c1_3) := (blk_cell BK328.out 3).trans rfl; have hfz11_0 := blk_frozen BK328.out 0; have hfz11_1 := blk_frozen BK328.out 1; have hfz11_2 := blk_frozen BK328.out 2; have hfz11_3 := blk_frozen BK328.out 3) | (go_at_call 21; (with_reducible refine (spileref22_FewShares.calls _ _ l1_3 t331 _ ?side1 ?side2 A10.out).mono ?_); (case side1 => repeat (first | exact (Kd.C_below HR1_3.out (eG HB.out)) | (with_reducible refine Kd.C_alloc ?_ _) | (with_reducible refine Kd.C_drewN ?_ _) | (with_reducible refine Kd.C_drew ?_))); (case side2 => exact HC1_3.out); rintro e w' ⟨rfl, ⟨nd, rfl⟩⟩))
    go_meet
    case rel => exact ⟨_, (!t331), (by first | rfl | (simp; done) | (simp [*]; done)), H', ⟨by first | omega | exact Nat.le_refl _⟩, ⟨by (with_reducible repeat first | apply bN | apply bD | apply bA); exact BK328.out⟩, ⟨eG HB.out⟩⟩
   ·
    replace c9 := Bool.eq_false_iff.mpr c9; subst c9; replace H : (spilelaw22_LotOwn.j0 k l0 true a1_0 a1_1 a1_2 l1_3) = some r := by rw [if_neg (show ¬ (false = true) by decide)] at H; exact H
    have H' := Aside0.mk H; clear H; go_wp2_with (first | ((with_reducible refine gate_callee (f := 11) rfl ?_); refine goesL_ (some 17) rfl rfl Tryd.func11 (by kernel_rfl) rfl #[.slice A0 l0.length c0] rfl (by (try simp only [List.map_toArray, List.map_cons, List.map_nil]); first | done | rfl | (simp only [List.length_drop, List.length_take]; rfl)) ?_; (with_reducible refine (spileref22_Few.calls k _ _ l0 false _ ?side1 ?side2 A8.out).mono ?_); (case side1 => repeat (first | exact (Kd.C_below HR0.out HB.out) | (with_reducible refine Kd.C_alloc ?_ _) | (with_reducible refine Kd.C_drewN ?_ _) | (with_reducible refine Kd.C_drew ?_))); (case side2 => exact HC0.out); rintro e w' ⟨rfl, ⟨nd, rfl⟩⟩; refine ⟨_, rfl, ?_⟩))
    go_meet
    case rel => exact ⟨_, (true), (by first | rfl | (simp; done) | (simp [*]; done)), H', ⟨by first | omega | exact Nat.le_refl _⟩, ⟨by (with_reducible repeat first | apply bN | apply bD | apply bA); exact BK328.out⟩, ⟨eG HB.out⟩⟩
  case rest =>
   clear HC5; repeat first | clear c1 | clear p2 | clear c4 | clear c7 | clear c9 | clear c10 | clear c11 | clear hcz11_0 | clear hcz11_1 | clear hcz11_2 | clear hcz11_3 | clear hfz11_0 | clear hfz11_1 | clear hfz11_2 | clear hfz11_3
   obtain ⟨kq, x24_4, rfl, HA, HJ4, BK328, HB⟩ := hcut
   cases kq with
   | zero => exact absurd HA.out (by simp [spilelaw22_LotOwn.j0])
   | succ kj4 =>
    have H := HA.out; clear HA; simp only [spilelaw22_LotOwn.j0] at H; by_cases c12 : x24_4 = true
    ·
     subst c12; replace H : (some true) = some r := by rw [if_pos rfl] at H; exact H
     obtain rfl := Option.some.inj H; go_wp2; go_ret
     exact ⟨by first | rfl | (simp [errW_none, errW_some] <;> rfl) | (simp [*, errW_none, errW_some] <;> rfl), eG HB.out⟩
    ·
     replace c12 := Bool.eq_false_iff.mpr c12; subst c12; replace H : ((spileref22_CopyAll.f kj4 l0).bind fun tb332 => ((spileref22_Copy.f a1_0 a1_1 a1_2 l1_3).bind fun bc335 => ((spileref22_Same.f kj4 l0 tb332).bind fun b1 => ((spileref22_SameLot.f kj4 a1_0 a1_1 a1_2 l1_3 bc335.1 bc335.2.1 bc335.2.2.1 bc335.2.2.2).bind fun b2 => (if b1 = true then (if b2 = true then ((lot_Put.f kj4 l0 a1_0 a1_1 a1_2 l1_3).bind fun bt332 => (if bt332.2 = 0 then (spilelaw22_LotOwn.l0 kj4 l0 bt332.1 (bt332.1.length : Int) 0 a1_0 a1_1 a1_2 l1_3) else (some ((bt332.1.length : Int) == 0)))) else (some false)) else (some false)))))) = some r := by rw [if_neg (show ¬ (false = true) by decide)] at H; exact H
     replace H := Option.bind_eq_some_iff.mp H; obtain ⟨tb332, Ab130, H⟩ := H; replace H : ((spileref22_Copy.f a1_0 a1_1 a1_2 l1_3).bind fun bc335 => ((spileref22_Same.f kj4 l0 tb332).bind fun b1 => ((spileref22_SameLot.f kj4 a1_0 a1_1 a1_2 l1_3 bc335.1 bc335.2.1 bc335.2.2.1 bc335.2.2.2).bind fun b2 => (if b1 = true then (if b2 = true then ((lot_Put.f kj4 l0 a1_0 a1_1 a1_2 l1_3).bind fun bt332 => (if bt332.2 = 0 then (spilelaw22_LotOwn.l0 kj4 l0 bt332.1 (bt332.1.length : Int) 0 a1_0 a1_1 a1_2 l1_3) else (some ((bt332.1.length : Int) == 0)))) else (some false)) else (some false))))) = some r := H; have Ab13 := Aside0.mk Ab130; clear Ab130; replace H := Option.bind_eq_some_iff.mp H; obtain ⟨⟨tb335, tb336, tb337, tb338⟩, Ab140, H⟩ := H; replace H : ((spileref22_Same.f kj4 l0 tb332).bind fun b1 => ((spileref22_SameLot.f kj4 a1_0 a1_1 a1_2 l1_3 tb335 tb336 tb337 tb338).bind fun b2 => (if b1 = true then (if b2 = true then ((lot_Put.f kj4 l0 a1_0 a1_1 a1_2 l1_3).bind fun bt332 => (if bt332.2 = 0 then (spilelaw22_LotOwn.l0 kj4 l0 bt332.1 (bt332.1.length : Int) 0 a1_0 a1_1 a1_2 l1_3) else (some ((bt332.1.length : Int) == 0)))) else (some false)) else (some false)))) = some r := H; have Ab14 := Aside0.mk Ab140; clear Ab140; replace H := Option.bind_eq_some_iff.mp H; obtain ⟨b1, AS10, H⟩ := H; replace H := Option.bind_eq_some_iff.mp H; obtain ⟨b2, AS20, H⟩ := H; cases b1
     · subst hr_; exact absurd H (by simp)
     cases b2
     · subst hr_; exact absurd H (by simp)
     replace H : ((lot_Put.f kj4 l0 a1_0 a1_1 a1_2 l1_3).bind fun bt332 => (if bt332.2 = 0 then (spilelaw22_LotOwn.l0 kj4 l0 bt332.1 (bt332.1.length : Int) 0 a1_0 a1_1 a1_2 l1_3) else (some ((bt332.1.length : Int) == 0)))) = some r := H; have AS1 := Aside0.mk AS10; have AS2 := Aside0.mk AS20; clear AS10 AS20; have HPUT := Aside0.mk H; clear H; try go_wp2
     have n0_ := Aside0.mk (blk_drew BK328.out); have n1_ := Aside0.mk (below_drew1 HB.out); clear BK328; clear HB; have BK328 := n0_; have HB := n1_; clear n0_ n1_; refine start_ (n := 7) (S := fun w' => w'.cell? ⟨gb328, 0, none⟩ = some (.int .i64 a1_0) ∧ w'.cell? ⟨gb328, 1, none⟩ = some (.int .i64 a1_1) ∧ w'.cell? ⟨gb328, 2, none⟩ = some (.int .i64 a1_2) ∧ w'.cell? ⟨gb328, 3, none⟩ = some (.slice A1_3 l1_3.length c1_3)) (ds := []) #[false, false, false, false, false, false, false] (by kernel_rfl) rfl rfl ⟨(blk_cell BK328.out 0).trans rfl, (blk_cell BK328.out 1).trans rfl, (blk_cell BK328.out 2).trans rfl, (blk_cell BK328.out 3).trans rfl⟩ (fun hHeld => ?_); generalize wc.drew = wb15 at BK328 HB hHeld ⊢; refine pure_ (i := 0) (N := some 25) (v := ?_) (a' := ?_) #[true, false, false, false, false, false, false] rfl rfl (by kernel_rfl) (fun _ _ _ h => h) (Or.inl ⟨by rfl, ?_⟩) ?_ ?_; rotate_left
     · intro w'; go_simp; with_reducible rfl
     rotate_left
     · simp only [Act.put, sIA, sC0, sCS, i64_w, i32_w]; rfl
     refine take_ (i := 2) (N := some 27) (v := ?_) (a' := ?_) #[true, false, true, false, false, false, false] rfl rfl (by kernel_rfl) (fun _ _ _ h => h) (Or.inl ⟨by rfl, ?_⟩) hHeld ?_ ?_; rotate_left
     · rintro w' ⟨s0, s1, s2, s3⟩; go_simp; with_reducible rfl
     rotate_left
     · simp only [Act.put, sIA, sC0, sCS, i64_w, i32_w]; rfl
     refine join_ (σ := Value × Value × Nat) 2 #[true, true, true, true, true, false, false] (fun s_ => [(26, s_.1), (28, .agg #[.int .i64 tb335, .int .i64 tb336, .int .i64 tb337, s_.2.1]), (6, .pointer (some ⟨s_.2.2, 0, none⟩))]) (fun s_ w' => (w'.cell? ⟨gb328, 0, none⟩ = some (.int .i64 a1_0) ∧ w'.cell? ⟨gb328, 1, none⟩ = some (.int .i64 a1_1) ∧ w'.cell? ⟨gb328, 2, none⟩ = some (.int .i64 a1_2) ∧ w'.cell? ⟨gb328, 3, none⟩ = some (.slice A1_3 l1_3.length c1_3)) ∧ (Kd.S k33 33 w' w.heap.size (fun k_ => some k_ ≠ (s_.2.1 : Value).ownBlock ∧ k_ ≠ gb328 ∧ k_ ≠ s_.2.2) s_.1 tb332) ∧ (Kd.R k35 35 w' w.heap.size (fun _ => True) s_.2.1 tb338) ∧ (w'.heap[gb328]? = some (.cells #[.int .i64 a1_0, .int .i64 a1_1, .int .i64 a1_2, .slice A1_3 l1_3.length c1_3] 33 (0, 0))) ∧ (w'.heap[s_.2.2]? = some (.cells #[.int .i64 0, .int .i64 0, .int .i64 0, .slice none 0 0] 33 (0, 0))) ∧ (w.heap.size ≤ s_.2.2) ∧ (w.heap.size ≤ s_.2.2) ∧ (gb328 ≠ s_.2.2) ∧ (s_.2.2 ≠ gb328) ∧ (Below w.heap.size w w')) ?_ ?_; rotate_left
     ·
      intro hCont; refine two_ (i := 1) (j := 4) (Ni := some 26) (Nj := some 6) #[true, true, true, false, false, false, false] #[true, false, true, false, true, false, false] rfl rfl rfl rfl (by kernel_rfl) (by decide) (by decide) (fun K hK => ?_) (fun K hK => ?_)
      ·
       skip
       refine goes_ Tryd.func28 (by kernel_rfl) rfl #[.slice A0 l0.length c0] (by rfl) rfl rfl (by (try simp only [List.map_toArray, List.map_cons, List.map_nil]); first | done | rfl | (simp only [List.length_drop, List.length_take]; rfl)) ?_; with_reducible refine (spileref22_CopyAll.calls kj4 _ _ l0 tb332 _ ?side1 ?side2 Ab13.out).mono ?_
       (case side1 => repeat (first | exact (Kd.C_below HR0.out HB.out) | (with_reducible refine Kd.C_alloc ?_ _) | (with_reducible refine Kd.C_drewN ?_ _) | (with_reducible refine Kd.C_drew ?_)))
       (case side2 => exact HC0.out)
       rintro e wb16 ⟨vb333, rfl, ho0, hb⟩; refine ⟨_, rfl, ?_⟩; have n0_ := Aside0.mk (Kd.S_lower (Kd.S_newB ho0 (bG BK328.out)) (below_size (eG HB.out))); have n1_ := Aside0.mk (blk_below (bG BK328.out) hb); have n2_ := Aside0.mk (below_step (eG HB.out) hb); clear BK328; clear HB; have HOb334 := n0_; have BK328 := n1_; have HB := n2_; clear n0_ n1_ n2_; (try clear hb)
       (try clear hb2)
       (try clear hk)
       (try clear hi)
       (try clear ho0)
       refine hK.out _ _ ⟨(blk_cell BK328.out 0).trans rfl, (blk_cell BK328.out 1).trans rfl, (blk_cell BK328.out 2).trans rfl, (blk_cell BK328.out 3).trans rfl⟩ (fun hHeld => ?_); clear hK K; refine norm_ (a' := ?_) ?_ ?_; rotate_left
       ·
        show Act.put _ (some 26) _ = _
        simp only [Act.put, sIA, sC0, sCS, i64_w, i32_w]; rfl
       refine two_ (i := 3) (j := 4) (Ni := some 28) (Nj := some 6) #[true, true, true, true, false, false, false] #[true, true, true, false, true, false, false] rfl rfl rfl rfl (by kernel_rfl) (by decide) (by decide) (fun K hK => ?_) (fun K hK => ?_)
       ·
        skip
        refine goes_ Tryd.func29 (by kernel_rfl) rfl #[.agg #[.int .i64 a1_0, .int .i64 a1_1, .int .i64 a1_2, .slice A1_3 l1_3.length c1_3]] (by rfl) rfl rfl (by (try simp only [List.map_toArray, List.map_cons, List.map_nil]); first | done | rfl | (simp only [List.length_drop, List.length_take]; rfl)) ?_; with_reducible refine (spileref22_Copy.calls a1_0 a1_1 a1_2 _ _ l1_3 tb335 tb336 tb337 tb338 _ ?side1 ?side2 Ab14.out).mono ?_
        (case side1 => repeat (first | exact (Kd.C_below HR1_3.out HB.out) | (with_reducible refine Kd.C_alloc ?_ _) | (with_reducible refine Kd.C_drewN ?_ _) | (with_reducible refine Kd.C_drew ?_)))
        (case side2 => exact HC1_3.out)
        rintro e wb17 ⟨vb339, rfl, ho0, hb⟩; refine ⟨_, rfl, ?_⟩; have n0_ := Aside0.mk (Kd.S_elder' (by (with_reducible repeat (first | apply Kd.S_alloc | apply Kd.S_drewN | apply Kd.S_drew)); exact HOb334.out) (Kd.R_base ho0) hb); have n1_ := Aside0.mk (Kd.R_lower ho0 (below_size (eG HB.out))); have n2_ := Aside0.mk (blk_below (bG BK328.out) hb); have n3_ := Aside0.mk (below_step (eG HB.out) hb); clear HOb334; clear BK328; clear HB; have HOb334 := n0_; have HOb340 := n1_; have BK328 := n2_; have HB := n3_; clear n0_ n1_ n2_ n3_; (try clear hb)
        (try clear hb2)
        (try clear hk)
        (try clear hi)
        (try clear ho0)
        refine hK.out _ _ ⟨(blk_cell BK328.out 0).trans rfl, (blk_cell BK328.out 1).trans rfl, (blk_cell BK328.out 2).trans rfl, (blk_cell BK328.out 3).trans rfl⟩ (fun hHeld => ?_); clear hK K; refine norm_ (a' := ?_) ?_ ?_; rotate_left
        ·
         show Act.put _ (some 28) _ = _
         simp only [Act.put, sIA, sC0, sCS, i64_w, i32_w]; rfl
        refine one_ (i := 4) (N := some 6) #[true, true, true, true, true, false, false] rfl rfl (by kernel_rfl) (by decide) (fun K hK => ?_); refine box_step ?hg (N := 6) ?hd (cs := #[.int .i64 0, .int .i64 0, .int .i64 0, .slice none 0 0]) (t := 33) ?hr ?_; (case hd => rfl); (case hg => rfl); (case hr => first | (go_simp; done) | (go_simp; rfl))
        intro gb341 hg wb18 hbox hb; have n0_ := Aside0.mk (Kd.S_below (Kd.S_elderB (by (with_reducible repeat (first | apply Kd.S_alloc | apply Kd.S_drewN | apply Kd.S_drew)); exact HOb334.out) gb341 (Nat.le_of_eq hg.symm)) hb); have n1_ := Aside0.mk (Kd.R_below (by (with_reducible repeat (first | apply Kd.R_alloc | apply Kd.R_drewN | apply Kd.R_drew)); exact HOb340.out) hb); have n2_ := Aside0.mk (blk_below (bG BK328.out) hb); have n3_ := Aside0.mk (below_step (eG HB.out) hb); have n4_ := Aside0.mk (hbox); have n5_ := Aside0.mk ((by rw [hg]; exact (below_size (eG HB.out)) : w.heap.size ≤ gb341)); have n6_ := Aside0.mk ((by rw [hg]; exact (below_size (eG HB.out)) : w.heap.size ≤ gb341)); have n7_ := Aside0.mk ((by rw [hg]; exact Nat.ne_of_lt (blk_lt (bG BK328.out)) : gb328 ≠ gb341)); have n8_ := Aside0.mk ((by rw [hg]; exact Nat.ne_of_gt (blk_lt (bG BK328.out)) : gb341 ≠ gb328)); clear HOb334; clear HOb340; clear BK328; clear HB; have HOb334 := n0_; have HOb340 := n1_; have BK328 := n2_; have HB := n3_; have BK341 := n4_; have GW341 := n5_; have GE341 := n6_; have ig341_ := geI GE341
        have NB328_341 := n7_; have NB341_328 := n8_; clear n0_ n1_ n2_ n3_ n4_ n5_ n6_ n7_ n8_; clear hb hbox hg; refine hK.out _ _ ⟨(blk_cell BK328.out 0).trans rfl, (blk_cell BK328.out 1).trans rfl, (blk_cell BK328.out 2).trans rfl, (blk_cell BK328.out 3).trans rfl⟩ (fun hHeld => ?_); clear hK K; refine norm_ (a' := ?_) ?_ ?_; rotate_left
        ·
         show Act.put _ (some 6) _ = _
         simp only [Act.put, sIA, sC0, sCS, i64_w, i32_w]; rfl
        exact norm_ (by simp only [putAll, Act.put, sIA, sC0, sCS]) (hCont (vb333, vb339, gb341) _ ⟨hHeld, (by (with_reducible repeat (first | apply Kd.S_alloc | apply Kd.S_drewN | apply Kd.S_drew)); exact Kd.S_mono HOb334.out (fun _ hk => ⟨hk.1.2, ⟨hk.1.1.2, hk.2⟩⟩)), (by (with_reducible repeat (first | apply Kd.R_alloc | apply Kd.R_drewN | apply Kd.R_drew)); exact HOb340.out), (bG BK328.out), (bG BK341.out), GW341.out, GE341.out, NB328_341.out, NB341_328.out, (eG HB.out)⟩)
       ·
        skip
        refine box_step ?hg (N := 6) ?hd (cs := #[.int .i64 0, .int .i64 0, .int .i64 0, .slice none 0 0]) (t := 33) ?hr ?_; (case hd => rfl); (case hg => rfl); (case hr => first | (go_simp; done) | (go_simp; rfl))
        intro gb341 hg wb17 hbox hb; have n0_ := Aside0.mk (Kd.S_below (Kd.S_elderB (by (with_reducible repeat (first | apply Kd.S_alloc | apply Kd.S_drewN | apply Kd.S_drew)); exact HOb334.out) gb341 (Nat.le_of_eq hg.symm)) hb); have n1_ := Aside0.mk (blk_below (bG BK328.out) hb); have n2_ := Aside0.mk (below_step (eG HB.out) hb); have n3_ := Aside0.mk (hbox); have n4_ := Aside0.mk ((by rw [hg]; exact (below_size (eG HB.out)) : w.heap.size ≤ gb341)); have n5_ := Aside0.mk ((by rw [hg]; exact (below_size (eG HB.out)) : w.heap.size ≤ gb341)); have n6_ := Aside0.mk ((by rw [hg]; exact Nat.ne_of_lt (blk_lt (bG BK328.out)) : gb328 ≠ gb341)); have n7_ := Aside0.mk ((by rw [hg]; exact Nat.ne_of_gt (blk_lt (bG BK328.out)) : gb341 ≠ gb328)); clear HOb334; clear BK328; clear HB; have HOb334 := n0_; have BK328 := n1_; have HB := n2_; have BK341 := n3_; have GW341 := n4_; have GE341 := n5_; have ig341_ := geI GE341
        have NB328_341 := n6_; have NB341_328 := n7_; clear n0_ n1_ n2_ n3_ n4_ n5_ n6_ n7_; clear hb hbox hg; refine hK.out _ _ ⟨(blk_cell BK328.out 0).trans rfl, (blk_cell BK328.out 1).trans rfl, (blk_cell BK328.out 2).trans rfl, (blk_cell BK328.out 3).trans rfl⟩ (fun hHeld => ?_); clear hK K; refine norm_ (a' := ?_) ?_ ?_; rotate_left
        ·
         show Act.put _ (some 6) _ = _
         simp only [Act.put, sIA, sC0, sCS, i64_w, i32_w]; rfl
        refine one_ (i := 3) (N := some 28) #[true, true, true, true, true, false, false] rfl rfl (by kernel_rfl) (by decide) (fun K hK => ?_); refine goes_ Tryd.func29 (by kernel_rfl) rfl #[.agg #[.int .i64 a1_0, .int .i64 a1_1, .int .i64 a1_2, .slice A1_3 l1_3.length c1_3]] (by rfl) rfl rfl (by (try simp only [List.map_toArray, List.map_cons, List.map_nil]); first | done | rfl | (simp only [List.length_drop, List.length_take]; rfl)) ?_; with_reducible refine (spileref22_Copy.calls a1_0 a1_1 a1_2 _ _ l1_3 tb335 tb336 tb337 tb338 _ ?side1 ?side2 Ab14.out).mono ?_
        (case side1 => repeat (first | exact (Kd.C_below HR1_3.out HB.out) | (with_reducible refine Kd.C_alloc ?_ _) | (with_reducible refine Kd.C_drewN ?_ _) | (with_reducible refine Kd.C_drew ?_)))
        (case side2 => exact HC1_3.out)
        rintro e wb18 ⟨vb339, rfl, ho0, hb⟩; refine ⟨_, rfl, ?_⟩; have n0_ := Aside0.mk (Kd.S_elder' (by (with_reducible repeat (first | apply Kd.S_alloc | apply Kd.S_drewN | apply Kd.S_drew)); exact HOb334.out) (Kd.R_base ho0) hb); have n1_ := Aside0.mk (Kd.R_lower ho0 (below_size (eG HB.out))); have n2_ := Aside0.mk (blk_below (bG BK328.out) hb); have n3_ := Aside0.mk (blk_below (bG BK341.out) hb); have n4_ := Aside0.mk (below_step (eG HB.out) hb); clear HOb334; clear BK328; clear BK341; clear HB; have HOb334 := n0_; have HOb340 := n1_; have BK328 := n2_; have BK341 := n3_; have HB := n4_; clear n0_ n1_ n2_ n3_ n4_; (try clear hb)
        (try clear hb2)
        (try clear hk)
        (try clear hi)
        (try clear ho0)
        refine hK.out _ _ ⟨(blk_cell BK328.out 0).trans rfl, (blk_cell BK328.out 1).trans rfl, (blk_cell BK328.out 2).trans rfl, (blk_cell BK328.out 3).trans rfl⟩ (fun hHeld => ?_); clear hK K; refine norm_ (a' := ?_) ?_ ?_; rotate_left
        ·
         show Act.put _ (some 28) _ = _
         simp only [Act.put, sIA, sC0, sCS, i64_w, i32_w]; rfl
        exact norm_ (by simp only [putAll, Act.put, sIA, sC0, sCS]) (hCont (vb333, vb339, gb341) _ ⟨hHeld, (by (with_reducible repeat (first | apply Kd.S_alloc | apply Kd.S_drewN | apply Kd.S_drew)); exact Kd.S_mono HOb334.out (fun _ hk => ⟨hk.2, ⟨hk.1.1.2, hk.1.2⟩⟩)), (by (with_reducible repeat (first | apply Kd.R_alloc | apply Kd.R_drewN | apply Kd.R_drew)); exact HOb340.out), (bG BK328.out), (bG BK341.out), GW341.out, GE341.out, NB328_341.out, NB341_328.out, (eG HB.out)⟩)
      ·
       skip
       refine box_step ?hg (N := 6) ?hd (cs := #[.int .i64 0, .int .i64 0, .int .i64 0, .slice none 0 0]) (t := 33) ?hr ?_; (case hd => rfl); (case hg => rfl); (case hr => first | (go_simp; done) | (go_simp; rfl))
       intro gb341 hg wb16 hbox hb; have n0_ := Aside0.mk (blk_below (bG BK328.out) hb); have n1_ := Aside0.mk (below_step (eG HB.out) hb); have n2_ := Aside0.mk (hbox); have n3_ := Aside0.mk ((by rw [hg]; exact (below_size (eG HB.out)) : w.heap.size ≤ gb341)); have n4_ := Aside0.mk ((by rw [hg]; exact (below_size (eG HB.out)) : w.heap.size ≤ gb341)); have n5_ := Aside0.mk ((by rw [hg]; exact Nat.ne_of_lt (blk_lt (bG BK328.out)) : gb328 ≠ gb341)); have n6_ := Aside0.mk ((by rw [hg]; exact Nat.ne_of_gt (blk_lt (bG BK328.out)) : gb341 ≠ gb328)); clear BK328; clear HB; have BK328 := n0_; have HB := n1_; have BK341 := n2_; have GW341 := n3_; have GE341 := n4_; have ig341_ := geI GE341
       have NB328_341 := n5_; have NB341_328 := n6_; clear n0_ n1_ n2_ n3_ n4_ n5_ n6_; clear hb hbox hg; refine hK.out _ _ ⟨(blk_cell BK328.out 0).trans rfl, (blk_cell BK328.out 1).trans rfl, (blk_cell BK328.out 2).trans rfl, (blk_cell BK328.out 3).trans rfl⟩ (fun hHeld => ?_); clear hK K; refine norm_ (a' := ?_) ?_ ?_; rotate_left
       ·
        show Act.put _ (some 6) _ = _
        simp only [Act.put, sIA, sC0, sCS, i64_w, i32_w]; rfl
       refine one_ (i := 1) (N := some 26) #[true, true, true, false, true, false, false] rfl rfl (by kernel_rfl) (by decide) (fun K hK => ?_); refine goes_ Tryd.func28 (by kernel_rfl) rfl #[.slice A0 l0.length c0] (by rfl) rfl rfl (by (try simp only [List.map_toArray, List.map_cons, List.map_nil]); first | done | rfl | (simp only [List.length_drop, List.length_take]; rfl)) ?_; with_reducible refine (spileref22_CopyAll.calls kj4 _ _ l0 tb332 _ ?side1 ?side2 Ab13.out).mono ?_
       (case side1 => repeat (first | exact (Kd.C_below HR0.out HB.out) | (with_reducible refine Kd.C_alloc ?_ _) | (with_reducible refine Kd.C_drewN ?_ _) | (with_reducible refine Kd.C_drew ?_)))
       (case side2 => exact HC0.out)
       rintro e wb17 ⟨vb333, rfl, ho0, hb⟩; refine ⟨_, rfl, ?_⟩; have n0_ := Aside0.mk (Kd.S_lower (Kd.S_newB (Kd.S_newB ho0 (bG BK328.out)) (bG BK341.out)) (below_size (eG HB.out))); have n1_ := Aside0.mk (blk_below (bG BK328.out) hb); have n2_ := Aside0.mk (blk_below (bG BK341.out) hb); have n3_ := Aside0.mk (below_step (eG HB.out) hb); clear BK328; clear BK341; clear HB; have HOb334 := n0_; have BK328 := n1_; have BK341 := n2_; have HB := n3_; clear n0_ n1_ n2_ n3_; (try clear hb)
       (try clear hb2)
       (try clear hk)
       (try clear hi)
       (try clear ho0)
       refine hK.out _ _ ⟨(blk_cell BK328.out 0).trans rfl, (blk_cell BK328.out 1).trans rfl, (blk_cell BK328.out 2).trans rfl, (blk_cell BK328.out 3).trans rfl⟩ (fun hHeld => ?_); clear hK K; refine norm_ (a' := ?_) ?_ ?_; rotate_left
       ·
        show Act.put _ (some 26) _ = _
        simp only [Act.put, sIA, sC0, sCS, i64_w, i32_w]; rfl
       refine one_ (i := 3) (N := some 28) #[true, true, true, true, true, false, false] rfl rfl (by kernel_rfl) (by decide) (fun K hK => ?_); refine goes_ Tryd.func29 (by kernel_rfl) rfl #[.agg #[.int .i64 a1_0, .int .i64 a1_1, .int .i64 a1_2, .slice A1_3 l1_3.length c1_3]] (by rfl) rfl rfl (by (try simp only [List.map_toArray, List.map_cons, List.map_nil]); first | done | rfl | (simp only [List.length_drop, List.length_take]; rfl)) ?_; with_reducible refine (spileref22_Copy.calls a1_0 a1_1 a1_2 _ _ l1_3 tb335 tb336 tb337 tb338 _ ?side1 ?side2 Ab14.out).mono ?_
       (case side1 => repeat (first | exact (Kd.C_below HR1_3.out HB.out) | (with_reducible refine Kd.C_alloc ?_ _) | (with_reducible refine Kd.C_drewN ?_ _) | (with_reducible refine Kd.C_drew ?_)))
       (case side2 => exact HC1_3.out)
       rintro e wb18 ⟨vb339, rfl, ho0, hb⟩; refine ⟨_, rfl, ?_⟩; have n0_ := Aside0.mk (Kd.S_elder' (by (with_reducible repeat (first | apply Kd.S_alloc | apply Kd.S_drewN | apply Kd.S_drew)); exact HOb334.out) (Kd.R_base ho0) hb); have n1_ := Aside0.mk (Kd.R_lower ho0 (below_size (eG HB.out))); have n2_ := Aside0.mk (blk_below (bG BK328.out) hb); have n3_ := Aside0.mk (blk_below (bG BK341.out) hb); have n4_ := Aside0.mk (below_step (eG HB.out) hb); clear HOb334; clear BK328; clear BK341; clear HB; have HOb334 := n0_; have HOb340 := n1_; have BK328 := n2_; have BK341 := n3_; have HB := n4_; clear n0_ n1_ n2_ n3_ n4_; (try clear hb)
       (try clear hb2)
       (try clear hk)
       (try clear hi)
       (try clear ho0)
       refine hK.out _ _ ⟨(blk_cell BK328.out 0).trans rfl, (blk_cell BK328.out 1).trans rfl, (blk_cell BK328.out 2).trans rfl, (blk_cell BK328.out 3).trans rfl⟩ (fun hHeld => ?_); clear hK K; refine norm_ (a' := ?_) ?_ ?_; rotate_left
       ·
        show Act.put _ (some 28) _ = _
        simp only [Act.put, sIA, sC0, sCS, i64_w, i32_w]; rfl
       exact norm_ (by simp only [putAll, Act.put, sIA, sC0, sCS]) (hCont (vb333, vb339, gb341) _ ⟨hHeld, (by (with_reducible repeat (first | apply Kd.S_alloc | apply Kd.S_drewN | apply Kd.S_drew)); exact Kd.S_mono HOb334.out (fun _ hk => ⟨hk.2, ⟨hk.1.1.2, hk.1.2⟩⟩)), (by (with_reducible repeat (first | apply Kd.R_alloc | apply Kd.R_drewN | apply Kd.R_drew)); exact HOb340.out), (bG BK328.out), (bG BK341.out), GW341.out, GE341.out, NB328_341.out, NB341_328.out, (eG HB.out)⟩)
     rintro ⟨vb333, vb339, gb341⟩ wb19 ⟨hS_, h0_, h1_, h2_, h3_, h4_, h5_, h6_, h7_, h8_⟩; have n0_ : Aside0 (Kd.S k33 33 wb19 w.heap.size (fun k_ => some k_ ≠ (vb339 : Value).ownBlock ∧ k_ ≠ gb328 ∧ k_ ≠ gb341) vb333 tb332) := ⟨h0_⟩; have n1_ : Aside0 (Kd.R k35 35 wb19 w.heap.size (fun _ => True) vb339 tb338) := ⟨h1_⟩; have n2_ : Aside0 (wb19.heap[gb328]? = some (.cells #[.int .i64 a1_0, .int .i64 a1_1, .int .i64 a1_2, .slice A1_3 l1_3.length c1_3] 33 (0, 0))) := ⟨h2_⟩; have n3_ : Aside0 (wb19.heap[gb341]? = some (.cells #[.int .i64 0, .int .i64 0, .int .i64 0, .slice none 0 0] 33 (0, 0))) := ⟨h3_⟩; have n4_ : Aside0 (w.heap.size ≤ gb341) := ⟨h4_⟩; have n5_ : Aside0 (w.heap.size ≤ gb341) := ⟨h5_⟩; have n6_ : Aside0 (gb328 ≠ gb341) := ⟨h6_⟩; have n7_ : Aside0 (gb341 ≠ gb328) := ⟨h7_⟩; have n8_ : Aside0 (Below w.heap.size w wb19) := ⟨h8_⟩; clear BK328; clear HB; clear h0_ h1_ h2_ h3_ h4_ h5_ h6_ h7_ h8_; have HOb334 := n0_; have HOb340 := n1_; have BK328 := n2_; have BK341 := n3_; have GW341 := n4_; have GE341 := n5_; have ig341_ := geI GE341
     have NB328_341 := n6_; have NB341_328 := n7_; have HB := n8_; clear n0_ n1_ n2_ n3_ n4_ n5_ n6_ n7_ n8_; have hHeld : wb19.cell? ⟨gb328, 0, none⟩ = some (.int .i64 a1_0) ∧ wb19.cell? ⟨gb328, 1, none⟩ = some (.int .i64 a1_1) ∧ wb19.cell? ⟨gb328, 2, none⟩ = some (.int .i64 a1_2) ∧ wb19.cell? ⟨gb328, 3, none⟩ = some (.slice A1_3 l1_3.length c1_3) := hS_; obtain ⟨Aob23, cob23, eob23⟩ := Kd.R_slice HOb340.out; (first | subst eob23 | (injection eob23 with f1_ f2_ f3_; have f4_ := f1_.symm; have f5_ := f3_.symm; clear f1_ f2_ f3_; subst f4_; subst f5_))
     refine norm_ (a' := ?_) ?_ ?_; rotate_left
     · simp only [putAll, Act.put, sIA, sC0, sCS]; rfl
     refine pure_ (i := 5) (N := some 5) (v := ?_) (a' := ?_) #[true, true, true, true, true, true, false] rfl rfl (by kernel_rfl) (fun _ _ _ h => h) (Or.inl ⟨by rfl, ?_⟩) ?_ ?_; rotate_left
     · intro w'; go_simp; with_reducible rfl
     rotate_left
     · simp only [Act.put, sIA, sC0, sCS, i64_w, i32_w]; rfl
     refine one_ (i := 6) (N := none) #[true, true, true, true, true, true, true] rfl rfl (by kernel_rfl) (by decide) (fun K hK => ?_); have hs20 : wb19.cell? ⟨gb341, 0, none⟩ = some (.int .i64 0) := (blk_cell BK341.out 0).trans rfl; have hfs20 := blk_frozen BK341.out 0; have hns20_0 := NB328_341.out; have hms20_0 := NB341_328.out; have hs21 : wb19.cell? ⟨gb341, 1, none⟩ = some (.int .i64 0) := (blk_cell BK341.out 1).trans rfl; have hfs21 := blk_frozen BK341.out 1; have hns21_0 := NB328_341.out; have hms21_0 := NB341_328.out; have hs22 : wb19.cell? ⟨gb341, 2, none⟩ = some (.int .i64 0) := (blk_cell BK341.out 2).trans rfl; have hfs22 := blk_frozen BK341.out 2; have hns22_0 := NB328_341.out; have hms22_0 := NB341_328.out; have hs24 : wb19.cell? ⟨gb341, 3, none⟩ = some (.slice none 0 0) := (blk_cell BK341.out 3).trans rfl; have hfs24 := blk_frozen BK341.out 3; have hns24_0 := NB328_341.out; have hms24_0 := NB341_328.out; refine skip_ (w1 := ?_) (by rfl) rfl ?_ ?_; rotate_left
     · go_simp; rfl
     refine hK.out _ _ ⟨((cell_far (p := ⟨gb341, _, none⟩) NB328_341.out _).trans (((cell_far (p := ⟨gb341, _, none⟩) NB328_341.out _).trans (((cell_far (p := ⟨gb341, _, none⟩) NB328_341.out _).trans (((cell_far (p := ⟨gb341, _, none⟩) NB328_341.out _).trans (hHeld.1)))))))), ((cell_far (p := ⟨gb341, _, none⟩) NB328_341.out _).trans (((cell_far (p := ⟨gb341, _, none⟩) NB328_341.out _).trans (((cell_far (p := ⟨gb341, _, none⟩) NB328_341.out _).trans (((cell_far (p := ⟨gb341, _, none⟩) NB328_341.out _).trans (hHeld.2.1)))))))), ((cell_far (p := ⟨gb341, _, none⟩) NB328_341.out _).trans (((cell_far (p := ⟨gb341, _, none⟩) NB328_341.out _).trans (((cell_far (p := ⟨gb341, _, none⟩) NB328_341.out _).trans (((cell_far (p := ⟨gb341, _, none⟩) NB328_341.out _).trans (hHeld.2.2.1)))))))), ((cell_far (p := ⟨gb341, _, none⟩) NB328_341.out _).trans (((cell_far (p := ⟨gb341, _, none⟩) NB328_341.out _).trans (((cell_far (p := ⟨gb341, _, none⟩) NB328_341.out _).trans (((cell_far (p := ⟨gb341, _, none⟩) NB328_341.out _).trans (hHeld.2.2.2))))))))⟩ (fun hHeld => ?_); clear hK K; refine done_ (by kernel_rfl) ?_; obtain ⟨Aoz, coz, eoz⟩ := Kd.S_slice HOb334.out; subst eoz; clear hHeld hs20 hs21 hs22 hs24 hfs20 hfs21 hfs22 hfs24 hns20_0 hns21_0 hns22_0 hns24_0 hms20_0 hms21_0 hms22_0 hms24_0; generalize hwN : (((wb19.setCell ⟨gb341, 0, none⟩ (.int .i64 tb335)).setCell ⟨gb341, 1, none⟩ (.int .i64 tb336)).setCell ⟨gb341, 2, none⟩ (.int .i64 tb337)).setCell ⟨gb341, 3, none⟩ (.slice Aob23 tb338.length cob23) = wN; have HBW := Aside0.mk (show Below w.heap.size w wN from by rw [← hwN]; exact below_set (below_set (below_set (below_set HB.out GE341.out) GE341.out) GE341.out) GE341.out)
     have nS : Kd.S k33 33 wN w.heap.size (fun k_ => some k_ ≠ (Value.slice Aob23 tb338.length cob23).ownBlock ∧ k_ ≠ gb328 ∧ k_ ≠ gb341) (.slice Aoz tb332.length coz) tb332 := by
      rw [← hwN]; exact Kd.S_far (p := ⟨gb341, 3, none⟩) (Kd.S_far (p := ⟨gb341, 2, none⟩) (Kd.S_far (p := ⟨gb341, 1, none⟩) (Kd.S_far (p := ⟨gb341, 0, none⟩) HOb334.out (fun _ hk => hk.2.2) _) (fun _ hk => hk.2.2) _) (fun _ hk => hk.2.2) _) (fun _ hk => hk.2.2) _
     have nR : Kd.R k35 35 wN w.heap.size (fun k_ => True ∧ k_ ≠ gb341) (.slice Aob23 tb338.length cob23) tb338 := by
      rw [← hwN]; exact Kd.R_far (p := ⟨gb341, 3, none⟩) (Kd.R_far (p := ⟨gb341, 2, none⟩) (Kd.R_far (p := ⟨gb341, 1, none⟩) (Kd.R_far (p := ⟨gb341, 0, none⟩) (Kd.R_types HOb340.out BK341.out (by decide)) (fun _ hk => hk.2) _) (fun _ hk => hk.2) _) (fun _ hk => hk.2) _) (fun _ hk => hk.2) _
     have HRb := Aside0.mk (Kd.S_reads' nS).2.2; have HCb := Aside0.mk (Kd.S_reads' nS).2.1; have HRo := Aside0.mk (Kd.R_reads' nR).2.2; have HCo := Aside0.mk (Kd.R_reads' nR).2.1; have BKN341 : Aside0 (wN.heap[gb341]? = some (.cells #[.int .i64 tb335, .int .i64 tb336, .int .i64 tb337, .slice Aob23 tb338.length cob23] 33 (0, 0))) := ⟨by rw [← hwN]; exact blk_put (blk_put (blk_put (blk_put BK341.out 0 _ rfl) 1 _ rfl) 2 _ rfl) 3 _ rfl⟩; have n2_ : Aside0 (wN.heap[gb328]? = some (.cells #[.int .i64 a1_0, .int .i64 a1_1, .int .i64 a1_2, .slice A1_3 l1_3.length c1_3] 33 (0, 0))) := ⟨by rw [← hwN]; exact blk_far (blk_far (blk_far (blk_far BK328.out (p := ⟨gb341, 0, none⟩) NB328_341.out _) (p := ⟨gb341, 1, none⟩) NB328_341.out _) (p := ⟨gb341, 2, none⟩) NB328_341.out _) (p := ⟨gb341, 3, none⟩) NB328_341.out _⟩; have n0_ := Aside0.mk (Kd.C_below HR0.out HBW.out); have n1_ := Aside0.mk (Kd.C_below HR1_3.out HBW.out); clear HR0 HR1_3 BK328 BK341 HB HOb334 HOb340 GW341 GE341 NB328_341 NB341_328 nS nR hwN; have HR0 := n0_; have HR1_3 := n1_; have BK328 := n2_; clear n0_ n1_ n2_; have HB := Aside0.mk (Below.refl wN.heap.size wN); have H := HPUT.out; clear HPUT; replace H := Option.bind_eq_some_iff.mp H; obtain ⟨⟨t332, t335⟩, A130, H⟩ := H; replace H : (if t335 = 0 then (spilelaw22_LotOwn.l0 kj4 l0 t332 (t332.length : Int) 0 a1_0 a1_1 a1_2 l1_3) else (some ((t332.length : Int) == 0))) = some r := H; have A13 := Aside0.mk A130; clear A130; by_cases c14 : t335 = 0
     ·
      rw [if_pos c14] at H; have c14b0 : (t335 == 0) = true := beq_iff_eq.mpr c14; have c14b1 : (t335 != 0) = false := bne_eq_false_iff_eq.mpr c14; clear c14; have H' := Aside0.mk H; clear H; have hcz15_0 : wN.cell? ⟨gb328, 0, none⟩ = some (.int .i64 a1_0) := (blk_cell BK328.out 0).trans rfl; have hcz15_1 : wN.cell? ⟨gb328, 1, none⟩ = some (.int .i64 a1_1) := (blk_cell BK328.out 1).trans rfl; have hcz15_2 : wN.cell? ⟨gb328, 2, none⟩ = some (.int .i64 a1_2) := (blk_cell BK328.out 2).trans rfl; have hcz15_3 : wN.cell? ⟨gb328, 3, none⟩ = some (.slice A1_3 l1_3.length c1_3) := (blk_cell BK328.out 3).trans rfl; have hfz15_0 := blk_frozen BK328.out 0; have hfz15_1 := blk_frozen BK328.out 1; have hfz15_2 := blk_frozen BK328.out 2; have hfz15_3 := blk_frozen BK328.out 3; go_wp2_with (first | ((with_reducible refine gate_callee (f := 22) rfl ?_); refine goesL_ (some 32) rfl rfl Tryd.func22 (by kernel_rfl) rfl #[.slice A0 l0.length c0, .agg #[.int .i64 a1_0, .int .i64 a1_1, .int .i64 a1_2, .slice A1_3 l1_3.length c1_3]] rfl (by (try simp only [List.map_toArray, List.map_cons, List.map_nil]); first | done | rfl | (simp only [List.length_drop, List.length_take]; rfl)) ?_; (with_reducible refine (lot_Put.calls kj4 (fun k_ => k_ < wN.heap.size) _ _ l0 a1_0 a1_1 a1_2 _ _ l1_3 t332 t335 _ ?side1 ?side2 ?side3 A13.out).mono ?_); (case side1 => exact Kd.V_mk HC0.out (Kd.F_below (Kd.C_F k33_heap HR0.out) (eG HB.out))); (case side2 => repeat (first | exact (Kd.C_below HR1_3.out HB.out) | (with_reducible refine Kd.C_alloc ?_ _) | (with_reducible refine Kd.C_drewN ?_ _) | (with_reducible refine Kd.C_drew ?_))); (case side3 => exact HC1_3.out); rintro e w16 ⟨v333, rfl, ho0, hb⟩; refine ⟨_, rfl, ?_⟩; have n0_ := Aside0.mk (Kd.S_lower (Kd.S_newB (Kd.S_mono (ok' := fun k_ => True) ho0 (fun _ hk_ => trivial)) (bG BK328.out)) (below_size (eG HB.out))); have n1_ := Aside0.mk (blk_below (bG BK328.out) hb); have n2_ := Aside0.mk (below_step (eG HB.out) hb); clear BK328; clear HB; have HO334 := n0_; have BK328 := n1_; have HB := n2_; clear n0_ n1_ n2_; (try clear hb); (try clear hb2); (try clear hk); (try clear hi); (try clear ho0); obtain ⟨Ao17, co17, eo17⟩ := Kd.S_slice HO334.out; subst eo17))
      go_loopg [42] kj4 (fun kq v42 w' => ∃ (x7_2 : List (S33)) (x42_2 : Int), v42 = .int .i64 x42_2 ∧ Aside0 (spilelaw22_LotOwn.l0 kq l0 x7_2 (t332.length : Int) x42_2 a1_0 a1_1 a1_2 l1_3 = some r) ∧ Aside0 (kq ≤ kj4) ∧ Aside0 (Kd.S k33 33 w' wN.heap.size (fun k_ => k_ ≠ gb328) (.slice Ao17 t332.length co17) x7_2) ∧ Aside0 (w'.heap[gb328]? = some (.cells #[.int .i64 a1_0, .int .i64 a1_1, .int .i64 a1_2, (.slice A1_3 l1_3.length c1_3)] 33 (0, 0))) ∧ Aside0 (Below wN.heap.size wN w'))
      case atStart => exact ⟨(t332), (0), (by first | rfl | (simp; done) | (simp [*]; done)), H', ⟨Nat.le_refl _⟩, ⟨by (with_reducible repeat (first | apply Kd.S_alloc | apply Kd.S_drewN | apply Kd.S_drew)); exact Kd.S_mono HO334.out (fun _ hk => hk.2)⟩, ⟨by (with_reducible repeat first | apply bN | apply bD | apply bA); exact BK328.out⟩, ⟨eG HB.out⟩⟩
      case round =>
       clear H'; repeat first | clear c1 | clear c2 | clear p2 | clear c4 | clear c7 | clear c9 | clear c10 | clear c11 | clear c12 | clear c14 | clear c14b0 | clear c14b1 | clear hcz11_0 | clear hcz11_1 | clear hcz11_2 | clear hcz11_3 | clear hcz15_0 | clear hcz15_1 | clear hcz15_2 | clear hcz15_3 | clear hfz11_0 | clear hfz11_1 | clear hfz11_2 | clear hfz11_3 | clear hfz15_0 | clear hfz15_1 | clear hfz15_2 | clear hfz15_3 | clear p2
       obtain ⟨x7_2, x42_2, rfl, HA, HK2, HO_7, BK328, HB⟩ := hrel; have hl7_2 := (Kd.S_reads' HO_7.out).1; rw [hl7_2] at HO_7; (try simp only [hl7_2])
       (try simp only [hl7_2] at BK328)
       cases gk with
       | zero => exact absurd HA.out (by simp [spilelaw22_LotOwn.l0])
       | succ k2 =>
        have H := HA.out; clear HA; simp only [spilelaw22_LotOwn.l0] at H; by_cases c18 : x42_2 < (t332.length : Int)
        ·
         rw [if_pos c18] at H; have c18b0 : decide (x42_2 < (t332.length : Int)) = true := decide_eq_true c18; clear c18; by_cases c19 : 0 ≤ x42_2
         ·
          rw [if_pos c19] at H; have c19b0 : decide (0 ≤ x42_2) = true := decide_eq_true c19; clear c19; by_cases c20 : x42_2 < (x7_2.length : Int)
          ·
           rw [if_pos c20] at H; have c20b0 : decide (x42_2 < (x7_2.length : Int)) = true := decide_eq_true c20; clear c20; have H' := Aside0.mk H; clear H; have p336 : 0 ≤ (x42_2 : Int) := of_decide_eq_true (by first | (with_reducible assumption) | assumption); have q336 : x42_2 < (x7_2.length : Int) := of_decide_eq_true (by first | (with_reducible assumption) | assumption); obtain ⟨ad336, A336_3, c336_3, e336, hx336_0, hx336_1, hx336_2, hx336_3, hl336_3, hi336_3⟩ := at_T33 (Kd.S_reads' HO_7.out).2.2 x42_2 p336 q336; cases e336; obtain ⟨ce336, hce336, hMe336, hcc336⟩ := Kd.S_get HO_7.out z33 x42_2 p336 (by first | exact q336 | exact of_decide_eq_true (by first | (with_reducible assumption) | assumption) | (have e_ := (Kd.S_reads' HO_7.out).1; omega)); obtain ⟨ve336_3, rfl, ge336_3⟩ := k33_openM hMe336; have hv336_3 := hcc336 3 _ rfl; rw [add_field _ _ 3 (by omega)] at hv336_3; replace hv336_3 := Option.some.inj (hv336_3.symm.trans hx336_3); rw [hv336_3] at ge336_3; have HL336_3 := Aside0.mk (show Kd.R k35 35 _ _ _ _ ((rd_T33 x7_2 x42_2).f2) from ge336_3); clear hv336_3 ge336_3; have HX336_3 := Aside0.mk hx336_3; clear hcc336 hce336; have HR336_3 := Aside0.mk hi336_3; have HC336_3 := Aside0.mk hl336_3; clear hi336_3 hl336_3; replace p336 := eq_true p336; replace q336 := eq_true q336; go_wp2; go_loopg [51] k2 (fun kq v51 w' => ∃ (x7_3 : List (S33)) (x51_3 : Int), v51 = .int .i64 x51_3 ∧ Aside0 (spilelaw22_LotOwn.l1 kq l0 x7_3 x42_2 (t332.length : Int) x42_2 (((rd_T33 x7_2 x42_2).f2).length : Int) x51_3 a1_0 a1_1 a1_2 l1_3 = some r) ∧ Aside0 (kq ≤ k2) ∧ Aside0 (Kd.S k33 33 w' wN.heap.size (fun k_ => k_ ≠ gb328) (.slice (some ad336) x7_2.length co17) x7_3) ∧ Aside0 (w'.heap[gb328]? = some (.cells #[.int .i64 a1_0, .int .i64 a1_1, .int .i64 a1_2, (.slice A1_3 l1_3.length c1_3)] 33 (0, 0))) ∧ Aside0 (Below wN.heap.size wN w'))
           case atStart => exact ⟨(x7_2), (0), (by first | rfl | (simp; done) | (simp [*]; done)), H', ⟨Nat.le_refl _⟩, ⟨by (try simp only [hl7_2]); (with_reducible repeat (first | apply Kd.S_alloc | apply Kd.S_drewN | apply Kd.S_drew)); exact HO_7.out⟩, ⟨by (try simp only [hl7_2]); (with_reducible repeat first | apply bN | apply bD | apply bA); exact BK328.out⟩, ⟨eG HB.out⟩⟩
           case round =>
            clear H'; repeat first | clear c1 | clear c2 | clear p2 | clear c3 | clear p3 | clear q3 | clear hx3 | clear c4 | clear c7 | clear c9 | clear c10 | clear c11 | clear c12 | clear c14 | clear c14b0 | clear c14b1 | clear c18 | clear c18b0 | clear c19 | clear c19b0 | clear c20 | clear c20b0 | clear hcz11_0 | clear hcz11_1 | clear hcz11_2 | clear hcz11_3 | clear hcz15_0 | clear hcz15_1 | clear hcz15_2 | clear hcz15_3 | clear hfz11_0 | clear hfz11_1 | clear hfz11_2 | clear hfz11_3 | clear hfz15_0 | clear hfz15_1 | clear hfz15_2 | clear hfz15_3 | clear hx336_0 | clear hx336_1 | clear hx336_2 | clear hx336_3 | clear p2 | clear p336 | clear q336
            obtain ⟨x7_3, x51_3, rfl, HA, HK3, HO_7, BK328, HB⟩ := hrel; have hl7_3 := (Kd.S_reads' HO_7.out).1; rw [hl7_3] at HO_7; (try simp only [hl7_3])
            (try simp only [hl7_3] at BK328)
            cases gk with
            | zero => exact absurd HA.out (by simp [spilelaw22_LotOwn.l1])
            | succ k3 =>
             have H := HA.out; clear HA; simp only [spilelaw22_LotOwn.l1] at H; by_cases c21 : x51_3 < (((rd_T33 x7_2 x42_2).f2).length : Int)
             ·
              rw [if_pos c21] at H; have c21b0 : decide (x51_3 < (((rd_T33 x7_2 x42_2).f2).length : Int)) = true := decide_eq_true c21; clear c21; by_cases c22 : 0 ≤ x42_2
              ·
               rw [if_pos c22] at H; have c22b0 : decide (0 ≤ x42_2) = true := decide_eq_true c22; clear c22; by_cases c23 : x42_2 < (x7_3.length : Int)
               ·
                rw [if_pos c23] at H; have c23b0 : decide (x42_2 < (x7_3.length : Int)) = true := decide_eq_true c23; clear c23; by_cases c24 : 0 ≤ x51_3
                ·
                 rw [if_pos c24] at H; have c24b0 : decide (0 ≤ x51_3) = true := decide_eq_true c24; clear c24; by_cases c25 : x51_3 < (((rd_T33 x7_3 x42_2).f2).length : Int)
                 ·
                  rw [if_pos c25] at H; have c25b0 : decide (x51_3 < (((rd_T33 x7_3 x42_2).f2).length : Int)) = true := decide_eq_true c25; clear c25; obtain ⟨y339, hy339⟩ : ∃ y_ : List (S35), y_ = (((rd_T33 x7_3 x42_2).f2).set (x51_3 : Int).toNat (⟨(rd_T35 ((rd_T33 x7_3 x42_2).f2) x51_3).f0, wrap64 (((rd_T35 ((rd_T33 x7_3 x42_2).f2) x51_3).f1) + 1)⟩ : S35)) := ⟨_, rfl⟩; replace H : (spilelaw22_LotOwn.l1 k3 l0 (x7_3.set (x42_2 : Int).toNat (⟨(rd_T33 x7_3 x42_2).f0, (⟨(rd_T33 x7_3 x42_2).f1.f0, (rd_T33 x7_3 x42_2).f1.f1⟩ : S26), y339⟩ : S33)) x42_2 (t332.length : Int) x42_2 (((rd_T33 x7_2 x42_2).f2).length : Int) (wrap64 (x51_3 + 1)) a1_0 a1_1 a1_2 l1_3) = some r := by first | (rw [hy339]; with_reducible exact H) | (have H2_ := (Option.bind_some _ _).symm.trans H; rw [hy339]; with_reducible exact H2_) | (have H2_ := (Option.bind_some _ _).symm.trans H; with_reducible exact H2_) | with_reducible exact H | (rw [hy339]; exact H) | exact H
                  have Ny339 := Aside0.mk hy339; clear hy339; obtain ⟨y341, hy341⟩ : ∃ y_ : List (S33), y_ = (x7_3.set (x42_2 : Int).toNat (⟨(rd_T33 x7_3 x42_2).f0, (⟨(rd_T33 x7_3 x42_2).f1.f0, (rd_T33 x7_3 x42_2).f1.f1⟩ : S26), y339⟩ : S33)) := ⟨_, rfl⟩; replace H : (spilelaw22_LotOwn.l1 k3 l0 y341 x42_2 (t332.length : Int) x42_2 (((rd_T33 x7_2 x42_2).f2).length : Int) (wrap64 (x51_3 + 1)) a1_0 a1_1 a1_2 l1_3) = some r := by first | (rw [hy341]; with_reducible exact H) | (have H2_ := (Option.bind_some _ _).symm.trans H; rw [hy341]; with_reducible exact H2_) | (have H2_ := (Option.bind_some _ _).symm.trans H; with_reducible exact H2_) | with_reducible exact H | (rw [hy341]; exact H) | exact H
                  have Ny341 := Aside0.mk hy341; clear hy341; have H' := Aside0.mk H; clear H; have p337 : 0 ≤ (x42_2 : Int) := of_decide_eq_true (by first | (with_reducible assumption) | assumption); have q337 : x42_2 < (x7_3.length : Int) := of_decide_eq_true (by first | (with_reducible assumption) | assumption); obtain ⟨ad337, A337_3, c337_3, e337, hx337_0, hx337_1, hx337_2, hx337_3, hl337_3, hi337_3⟩ := at_T33 (Kd.S_reads' HO_7.out).2.2 x42_2 p337 q337; obtain rfl : ad336 = ad337 := (by injection e337); obtain ⟨ce337, hce337, hMe337, hcc337⟩ := Kd.S_get HO_7.out z33 x42_2 p337 (by first | exact q337 | exact of_decide_eq_true (by first | (with_reducible assumption) | assumption) | (have e_ := (Kd.S_reads' HO_7.out).1; omega)); obtain ⟨ve337_3, rfl, ge337_3⟩ := k33_openM hMe337; have hv337_3 := hcc337 3 _ rfl; rw [add_field _ _ 3 (by omega)] at hv337_3; replace hv337_3 := Option.some.inj (hv337_3.symm.trans hx337_3); rw [hv337_3] at ge337_3; have HL337_3 := Aside0.mk (show Kd.R k35 35 _ _ _ _ ((rd_T33 x7_3 x42_2).f2) from ge337_3); clear hv337_3 ge337_3; have HX337_3 := Aside0.mk hx337_3; clear hcc337 hce337; have HR337_3 := Aside0.mk hi337_3; have HC337_3 := Aside0.mk hl337_3; clear hi337_3 hl337_3; replace p337 := eq_true p337; replace q337 := eq_true q337; have p338 : 0 ≤ (x51_3 : Int) := of_decide_eq_true (by first | (with_reducible assumption) | assumption); have q338 : x51_3 < (((rd_T33 x7_3 x42_2).f2).length : Int) := of_decide_eq_true (by first | (with_reducible assumption) | assumption); obtain ⟨ad338, e338, hx338_0, hx338_1⟩ := at_T35 (by repeat (first | (with_reducible exact HR337_3.out) | (with_reducible refine Kd.C_alloc ?_ _) | (with_reducible refine Kd.C_drewN ?_ _) | (with_reducible refine Kd.C_drew ?_) | exact HR337_3.out)) x51_3 p338 q338; cases e338; replace p338 := eq_true p338; replace q338 := eq_true q338; have p26 : 0 ≤ (x51_3 : Int) := of_decide_eq_true (by first | (with_reducible assumption) | assumption); have q26 : (x51_3 : Int) < ((((rd_T33 x7_3 x42_2).f2).length : Int) : Int) := of_decide_eq_true (by first | (with_reducible assumption) | assumption); obtain ⟨go26, co26, eo26, gb26, gl26, cl26, HG26⟩ := Kd.R_form HL337_3.out (by omega); (first | cases eo26 | (injection eo26 with ea_ en_ ec_; (first | subst ea_ | (injection ea_ with ea_; subst ea_)); subst ec_; clear en_))
                  have GB26 := Aside0.mk gb26; have GG26 := Aside0.mk HG26; clear gb26 gl26 HG26; (first | simp only [add_plain] at hx338_0 | skip)
                  (first | simp only [add_plain] at hx338_1 | skip)
                  obtain ⟨ce26, hcl26, hM26, hcc26, hfr26⟩ := Kd.R_elem HL337_3.out z35 (x51_3 : Int) p26 q26; obtain rfl := k35_openM hM26; have hx26_0 : wr.cell? ⟨go26, (x51_3 : Int).toNat * 2, none⟩ = some (.int .i64 ((rd_T35 ((rd_T33 x7_3 x42_2).f2) x51_3).f0)) := hcc26 0 _ rfl; have hx26_1 : wr.cell? ⟨go26, (x51_3 : Int).toNat * 2 + 1, none⟩ = some (.int .i64 ((rd_T35 ((rd_T33 x7_3 x42_2).f2) x51_3).f1)) := hcc26 1 _ rfl; have hf26_0 : wr.frozen? ⟨go26, (x51_3 : Int).toNat * 2, none⟩ = false := hfr26 0; have hf26_1 : wr.frozen? ⟨go26, (x51_3 : Int).toNat * 2 + 1, none⟩ = false := hfr26 1; clear hcl26 hcc26 hfr26 hM26; replace p26 := eq_true p26; replace q26 := eq_true q26; have hq27 : (x42_2 : Int) < (x7_3.length : Int) := (by have h_ : (x42_2 : Int) < ((x7_3.length : Int) : Int) := of_decide_eq_true (by first | (with_reducible assumption) | assumption); first | exact h_ | (have e_ := (Kd.S_reads' HO_7.out).1; omega) | simpa only [List.length_set, List.length_set] using h_); obtain ⟨oki27, ce27, hcl27, hM27, hcc27, hok27, hbk27⟩ := Kd.S_borrow HO_7.out z33 (x42_2 : Int) (of_decide_eq_true (by first | (with_reducible assumption) | assumption)) hq27; obtain ⟨ve27_3, rfl, ge27_3⟩ := k33_openM hM27; have hv27 := hcc27 3 _ rfl; rw [add_field _ _ 3 (by omega)] at hv27; replace hv27 := Option.some.inj (hv27.symm.trans HX337_3.out); subst hv27; clear hcc27 hcl27; replace ge27_3 := (show Kd.R k35 35 _ _ _ _ ((rd_T33 x7_3 x42_2).f2) from ge27_3); obtain ⟨cf27, hcl27, hN27, hcc27, hfr27⟩ := Kd.R_elem ge27_3 z35 (x51_3 : Int) (of_decide_eq_true (by first | (with_reducible assumption) | assumption)) (by have h_ : (x51_3 : Int) < ((((rd_T33 x7_3 x42_2).f2).length : Int) : Int) := of_decide_eq_true (by first | (with_reducible assumption) | assumption); first | exact h_ | (have e_ := (Kd.R_reads' HR337_3.out).1; omega) | simpa using h_); obtain rfl := k35_openM hN27; have HP27 := Kd.R_seg ge27_3 (x51_3 : Int) (of_decide_eq_true (by first | (with_reducible assumption) | assumption)) (by have h_ : (x51_3 : Int) < ((((rd_T33 x7_3 x42_2).f2).length : Int) : Int) := of_decide_eq_true (by first | (with_reducible assumption) | assumption); first | exact h_ | (have e_ := (Kd.R_reads' HR337_3.out).1; omega) | simpa using h_) (seg := [.int .i64 (wrap64 (((rd_T35 ((rd_T33 x7_3 x42_2).f2) x51_3).f1) + 1))]) (j := 1) hcl27 hcc27 (show 2 ≤ 2 from by decide) (x' := (⟨(rd_T35 ((rd_T33 x7_3 x42_2).f2) x51_3).f0, wrap64 (((rd_T35 ((rd_T33 x7_3 x42_2).f2) x51_3).f1) + 1)⟩ : S35)) (k35_mkM _ _ _ (⟨(rd_T35 ((rd_T33 x7_3 x42_2).f2) x51_3).f0, wrap64 (((rd_T35 ((rd_T33 x7_3 x42_2).f2) x51_3).f1) + 1)⟩ : S35)) (fun _ hk => hk); clear hcl27 hcc27 hfr27 hN27; go_wp2_with (first | ((with_reducible refine gate_store (t := 3) (p := 65) rfl ?_); refine store_event (t := 3) (p := 65) (v := ?vo_w28) (w1 := (wr.setCell ⟨go26, (x51_3 : Int).toNat * 2 + 1, none⟩ (.int .i64 (wrap64 (((rd_T35 ((rd_T33 x7_3 x42_2).f2) x51_3).f1) + 1))))) ?hg ?ho ?hn ?hr ?_; (case ho => rfl); (case hg => rfl); (case hn => rfl); (case hr => first | (go_simp; done) | (go_simp; rfl)); intro w28 hw; have hg : wr.grownBy w28 (some go26) := (by rw [hw]; exact HP27.2); have hz_ : Kd.R k35 35 w28 wN.heap.size oki27 (.slice (some ⟨go26, 0, none⟩) ((rd_T33 x7_3 x42_2).f2).length c337_3) y339 := (by rw [hw, Ny339.out]; exact HP27.1); have hp_ : Kd.S k33 33 w28 wN.heap.size (fun k_ => k_ ≠ gb328) (.slice (some ad336) x7_3.length co17) y341 := (by rw [Ny341.out]; exact hbk27 hg (fun k_ e_ => by injection e_ with e_; subst e_; exact ge27_3.1 _ rfl) (k33_mkM _ _ _ (⟨(rd_T33 x7_3 x42_2).f0, (⟨(rd_T33 x7_3 x42_2).f1.f0, (rd_T33 x7_3 x42_2).f1.f1⟩ : S26), y339⟩ : S33) hz_)); have hm_ := Kd.R_mono hz_ hok27; clear HP27 hbk27; have n0_ := Aside0.mk (hp_); have n1_ := Aside0.mk (blk_grown (bG BK328.out) hg (Kd.R_ne HL337_3.out BK328.out (by decide))); have n2_ := Aside0.mk ((by rw [hw]; exact below_set (HB.out) GB26.out : Below wN.heap.size wN w28)); have n3_ := Aside0.mk (hm_); have n4_ := Aside0.mk ((Kd.R_reads' hm_).2.1); clear HO_7; clear BK328; clear HB; clear HL337_3; have HO_7 := n0_; have BK328 := n1_; have HB := n2_; have HL352 := n3_; have HC340 := n4_; clear n0_ n1_ n2_ n3_ n4_; clear hg hw hp_ hz_ hm_ hok27))
                  (try simp only [← hl7_3])
                  go_roundg k3
                  case measure => have := HJ4.out; have := HK2.out; have := HK3.out; omega
                  case rel => exact ⟨(y341), (wrap64 (x51_3 + 1)), (by first | rfl | (simp; done) | (simp [*]; done)), H', ⟨by have := HJ4.out; have := HK2.out; have := HK3.out; omega⟩, ⟨by (try simp only [hl7_2]); (try simp only [hl7_3]); (with_reducible repeat (first | apply Kd.S_alloc | apply Kd.S_drewN | apply Kd.S_drew)); exact HO_7.out⟩, ⟨by (try simp only [hl7_2]); (try simp only [hl7_3]); (with_reducible repeat first | apply bN | apply bD | apply bA); exact BK328.out⟩, ⟨eG HB.out⟩⟩
                 · rw [if_neg c25] at H; exact absurd H (by simp)
                · rw [if_neg c24] at H; exact absurd H (by simp)
               · rw [if_neg c23] at H; exact absurd H (by simp)
              · rw [if_neg c22] at H; exact absurd H (by simp)
             ·
              rw [if_neg c21] at H; have c21b0 : decide (x51_3 < (((rd_T33 x7_2 x42_2).f2).length : Int)) = false := decide_eq_false c21; clear c21; have H' := Aside0.mk H; clear H; go_wp2; (try simp only [← hl7_2, ← hl7_3])
              go_roundg k3
              case measure => have := HJ4.out; have := HK2.out; have := HK3.out; omega
              case rel => exact ⟨(x7_3), (wrap64 (x42_2 + 1)), (by first | rfl | (simp; done) | (simp [*]; done)), H', ⟨by have := HJ4.out; have := HK2.out; have := HK3.out; omega⟩, ⟨by (try simp only [hl7_2]); (try simp only [hl7_3]); (with_reducible repeat (first | apply Kd.S_alloc | apply Kd.S_drewN | apply Kd.S_drew)); exact HO_7.out⟩, ⟨by (try simp only [hl7_2]); (try simp only [hl7_3]); (with_reducible repeat first | apply bN | apply bD | apply bA); exact BK328.out⟩, ⟨eG HB.out⟩⟩
          · rw [if_neg c20] at H; exact absurd H (by simp)
         · rw [if_neg c19] at H; exact absurd H (by simp)
        ·
         rw [if_neg c18] at H; have c18b0 : decide (x42_2 < (t332.length : Int)) = false := decide_eq_false c18; (try rw [hl7_2] at c18b0)
         clear c18; replace H := Option.bind_eq_some_iff.mp H; obtain ⟨⟨t342, t343, t344, t345, t348⟩, A290, H⟩ := H; replace H : (if t348 = true then (spilelaw22_LotOwn.l2 k2 (t345.length : Int) 0 t342 t343 t344 t345) else (some true)) = some r := H; have A29 := Aside0.mk A290; clear A290; by_cases c30 : t348 = true
         ·
          subst c30; replace H : (spilelaw22_LotOwn.l2 k2 (t345.length : Int) 0 t342 t343 t344 t345) = some r := by rw [if_pos rfl] at H; exact H
          have H' := Aside0.mk H; clear H; have hcz31_0 : wr.cell? ⟨gb328, 0, none⟩ = some (.int .i64 a1_0) := (blk_cell BK328.out 0).trans rfl; have hcz31_1 : wr.cell? ⟨gb328, 1, none⟩ = some (.int .i64 a1_1) := (blk_cell BK328.out 1).trans rfl; have hcz31_2 : wr.cell? ⟨gb328, 2, none⟩ = some (.int .i64 a1_2) := (blk_cell BK328.out 2).trans rfl; have hcz31_3 : wr.cell? ⟨gb328, 3, none⟩ = some (.slice A1_3 l1_3.length c1_3) := (blk_cell BK328.out 3).trans rfl; have hfz31_0 := blk_frozen BK328.out 0; have hfz31_1 := blk_frozen BK328.out 1; have hfz31_2 := blk_frozen BK328.out 2; have hfz31_3 := blk_frozen BK328.out 3; go_wp2_with (first | ((with_reducible refine gate_callee (f := 16) rfl ?_); refine goesL_ (some 72) rfl rfl Tryd.func16 (by kernel_rfl) rfl #[.slice A0 l0.length c0, .int .i64 a1_0] rfl (by (try simp only [List.map_toArray, List.map_cons, List.map_nil]); first | done | rfl | (simp only [List.length_drop, List.length_take]; rfl)) ?_; (with_reducible refine (lot_Find.calls k2 _ _ l0 a1_0 t342 t343 t344 t345 true _ ?side1 ?side2 A29.out).mono ?_); (case side1 => repeat (first | exact (Kd.C_below HR0.out HB.out) | (with_reducible refine Kd.C_alloc ?_ _) | (with_reducible refine Kd.C_drewN ?_ _) | (with_reducible refine Kd.C_drew ?_))); (case side2 => exact HC0.out); rintro e w32 ⟨v346, rfl, ho0, hb⟩; refine ⟨_, rfl, ?_⟩; have n0_ := Aside0.mk (Kd.S_elder' (by (with_reducible repeat (first | apply Kd.S_alloc | apply Kd.S_drewN | apply Kd.S_drew)); exact HO_7.out) (Kd.R_base ho0) hb); have n1_ := Aside0.mk (Kd.R_lower ho0 (below_size (eG HB.out))); have n2_ := Aside0.mk (blk_below (bG BK328.out) hb); have n3_ := Aside0.mk (below_step (eG HB.out) hb); clear HO_7; clear BK328; clear HB; have HO_7 := n0_; have HO347 := n1_; have BK328 := n2_; have HB := n3_; clear n0_ n1_ n2_ n3_; (try clear hb); (try clear hb2); (try clear hk); (try clear hi); (try clear ho0)) | ((with_reducible refine gate_dst (N := 11) rfl ?_); refine box_event ?hg (N := 11) ?hd (cs := #[.int .i64 0, .int .i64 0, .int .i64 0, .slice none 0 0]) (t := 33) ?hr ?_; (case hd => rfl); (case hg => rfl); (case hr => first | (go_simp; done) | (go_simp; rfl)); intro gb349 hg w33 hbox hb; have n0_ := Aside0.mk (Kd.S_below (Kd.S_elderB (by (with_reducible repeat (first | apply Kd.S_alloc | apply Kd.S_drewN | apply Kd.S_drew)); exact HO_7.out) gb349 (Nat.le_of_eq hg.symm)) hb); have n1_ := Aside0.mk (Kd.R_below (rG HO347.out) hb); have n2_ := Aside0.mk (blk_below (bG BK328.out) hb); have n3_ := Aside0.mk (below_step (eG HB.out) hb); have n4_ := Aside0.mk (hbox); have n5_ := Aside0.mk ((by rw [hg]; exact (below_size (eG HB.out)) : wN.heap.size ≤ gb349)); have n6_ := Aside0.mk ((by rw [hg]; exact (below_size (eG HB.out)) : wN.heap.size ≤ gb349)); have n7_ := Aside0.mk ((by rw [hg]; exact Nat.ne_of_lt (blk_lt (bG BK328.out)) : gb328 ≠ gb349)); have n8_ := Aside0.mk ((by rw [hg]; exact Nat.ne_of_gt (blk_lt (bG BK328.out)) : gb349 ≠ gb328)); clear HO_7; clear HO347; clear BK328; clear HB; have HO_7 := n0_; have HO347 := n1_; have BK328 := n2_; have HB := n3_; have BK349 := n4_; have GW349 := n5_; have GE349 := n6_; have ig349_ := geI GE349; have NB328_349 := n7_; have NB349_328 := n8_; clear n0_ n1_ n2_ n3_ n4_ n5_ n6_ n7_ n8_; clear hb hbox hg; have hnb34 := NB349_328.out; have hnc34 := NB328_349.out; have hcz35_0 : w33.cell? ⟨gb349, 0, none⟩ = some (.int .i64 0) := (blk_cell BK349.out 0).trans rfl; have hcz35_1 : w33.cell? ⟨gb349, 1, none⟩ = some (.int .i64 0) := (blk_cell BK349.out 1).trans rfl; have hcz35_2 : w33.cell? ⟨gb349, 2, none⟩ = some (.int .i64 0) := (blk_cell BK349.out 2).trans rfl; have hcz35_3 : w33.cell? ⟨gb349, 3, none⟩ = some (.slice none 0 0) := (blk_cell BK349.out 3).trans rfl; have hfz35_0 := blk_frozen BK349.out 0; have hfz35_1 := blk_frozen BK349.out 1; have hfz35_2 := blk_frozen BK349.out 2; have hfz35_3 := blk_frozen BK349.out 3; obtain ⟨Ao36, co36, eo36⟩ := Kd.R_slice HO347.out; subst eo36))
          go_loopg [79] k2 (fun kq v79 w' => ∃ (x79_3 : Int) (x350003_3 : List (S35)) (u350003 : Value), v79 = .int .i64 x79_3 ∧ Aside0 (spilelaw22_LotOwn.l2 kq (t345.length : Int) x79_3 t342 t343 t344 x350003_3 = some r) ∧ Aside0 (kq ≤ k2) ∧ Aside0 (Kd.R k35 35 w' wN.heap.size (fun _ => True) u350003 x350003_3) ∧ Aside0 (w'.heap[gb328]? = some (.cells #[.int .i64 a1_0, .int .i64 a1_1, .int .i64 a1_2, (.slice A1_3 l1_3.length c1_3)] 33 (0, 0))) ∧ Aside0 (w'.heap[gb349]? = some (.cells #[.int .i64 t342, .int .i64 t343, .int .i64 t344, u350003] 33 (0, 0))) ∧ Aside0 (Below wN.heap.size wN w'))
          case atStart => exact ⟨(0), (t345), (.slice Ao36 t345.length co36), (by first | rfl | (simp; done) | (simp [*]; done)), H', ⟨Nat.le_refl _⟩, ⟨by (try simp only [hl7_2]); (with_reducible repeat (first | apply Kd.R_alloc | apply Kd.R_drewN | apply Kd.R_drew)); exact Kd.R_mono (Kd.R_far (p := ⟨gb349, 3, none⟩) (Kd.R_far (p := ⟨gb349, 2, none⟩) (Kd.R_far (p := ⟨gb349, 1, none⟩) (Kd.R_far (p := ⟨gb349, 0, none⟩) (Kd.R_types HO347.out BK349.out (by decide)) (fun _ hk => hk.2) (.int .i64 t342)) (fun _ hk => hk.2) (.int .i64 t343)) (fun _ hk => hk.2) (.int .i64 t344)) (fun _ hk => hk.2) (.slice Ao36 t345.length co36)) (fun _ hk => trivial)⟩, ⟨by (try simp only [hl7_2]); (with_reducible repeat first | apply bN | apply bD | apply bA); refine blk_far ?_ NB328_349.out _; (with_reducible repeat first | apply bN | apply bD | apply bA); refine blk_far ?_ NB328_349.out _; (with_reducible repeat first | apply bN | apply bD | apply bA); refine blk_far ?_ NB328_349.out _; (with_reducible repeat first | apply bN | apply bD | apply bA); refine blk_far ?_ NB328_349.out _; (with_reducible repeat first | apply bN | apply bD | apply bA); exact BK328.out⟩, ⟨by (try simp only [hl7_2]); (with_reducible repeat first | apply bN | apply bD | apply bA); refine blk_put (cs := #[.int .i64 t342, .int .i64 t343, .int .i64 t344, .slice none 0 0]) ?_ 3 _ rfl; (with_reducible repeat first | apply bN | apply bD | apply bA); refine blk_put (cs := #[.int .i64 t342, .int .i64 t343, .int .i64 0, .slice none 0 0]) ?_ 2 _ rfl; (with_reducible repeat first | apply bN | apply bD | apply bA); refine blk_put (cs := #[.int .i64 t342, .int .i64 0, .int .i64 0, .slice none 0 0]) ?_ 1 _ rfl; (with_reducible repeat first | apply bN | apply bD | apply bA); refine blk_put (cs := #[.int .i64 0, .int .i64 0, .int .i64 0, .slice none 0 0]) ?_ 0 _ rfl; (with_reducible repeat first | apply bN | apply bD | apply bA); exact BK349.out⟩, ⟨eG HB.out⟩⟩
          case round =>
           clear H'; repeat first | clear c1 | clear c2 | clear p2 | clear q2 | clear hx2 | clear hf2 | clear c3 | clear p3 | clear q3 | clear hx3 | clear c4 | clear p6 | clear c7 | clear c9 | clear c10 | clear c11 | clear c12 | clear c14 | clear c14b0 | clear c14b1 | clear c16 | clear c18 | clear c18b0 | clear c19 | clear c19b0 | clear c20 | clear c20b0 | clear c21 | clear c21b0 | clear c22 | clear c22b0 | clear c23 | clear c23b0 | clear c24 | clear c24b0 | clear c25 | clear c25b0 | clear c26 | clear p26 | clear q26 | clear hx26 | clear hf26 | clear c27 | clear q27 | clear c30 | clear c33 | clear p33 | clear q33 | clear hx33 | clear c34 | clear hcz11_0 | clear hcz11_1 | clear hcz11_2 | clear hcz11_3 | clear hcz15_0 | clear hcz15_1 | clear hcz15_2 | clear hcz15_3 | clear hcz31_0 | clear hcz31_1 | clear hcz31_2 | clear hcz31_3 | clear hcz35_0 | clear hcz35_1 | clear hcz35_2 | clear hcz35_3 | clear hfz11_0 | clear hfz11_1 | clear hfz11_2 | clear hfz11_3 | clear hfz15_0 | clear hfz15_1 | clear hfz15_2 | clear hfz15_3 | clear hfz31_0 | clear hfz31_1 | clear hfz31_2 | clear hfz31_3 | clear hfz35_0 | clear hfz35_1 | clear hfz35_2 | clear hfz35_3 | clear hx26_0 | clear hx26_1 | clear hx336_0 | clear hx336_1 | clear hx336_2 | clear hx336_3 | clear hx337_0 | clear hx337_1 | clear hx337_2 | clear hx337_3 | clear hx338_0 | clear hx338_1 | clear p2 | clear p26 | clear p3 | clear p336 | clear p337 | clear p338 | clear q26 | clear q3 | clear q336 | clear q337 | clear q338
           obtain ⟨x79_3, x350003_3, u350003, rfl, HA, HK3, HO_350003, BK328, BK349, HB⟩ := hrel
           cases gk with
           | zero => exact absurd HA.out (by simp [spilelaw22_LotOwn.l2])
           | succ k3 =>
            have H := HA.out; clear HA; simp only [spilelaw22_LotOwn.l2] at H; by_cases c37 : x79_3 < (t345.length : Int)
            ·
             rw [if_pos c37] at H; have c37b0 : decide (x79_3 < (t345.length : Int)) = true := decide_eq_true c37; clear c37; by_cases c38 : 0 ≤ x79_3
             ·
              rw [if_pos c38] at H; have c38b0 : decide (0 ≤ x79_3) = true := decide_eq_true c38; clear c38; by_cases c39 : x79_3 < (x350003_3.length : Int)
              ·
               rw [if_pos c39] at H; have c39b0 : decide (x79_3 < (x350003_3.length : Int)) = true := decide_eq_true c39; clear c39; obtain ⟨y351, hy351⟩ : ∃ y_ : List (S35), y_ = (x350003_3.set (x79_3 : Int).toNat (⟨wrap64 (((rd_T35 x350003_3 x79_3).f0) + 1), (rd_T35 x350003_3 x79_3).f1⟩ : S35)) := ⟨_, rfl⟩; replace H : (spilelaw22_LotOwn.l2 k3 (t345.length : Int) (wrap64 (x79_3 + 1)) t342 t343 t344 y351) = some r := by first | (rw [hy351]; with_reducible exact H) | (have H2_ := (Option.bind_some _ _).symm.trans H; rw [hy351]; with_reducible exact H2_) | (have H2_ := (Option.bind_some _ _).symm.trans H; with_reducible exact H2_) | with_reducible exact H | (rw [hy351]; exact H) | exact H
               have Ny351 := Aside0.mk hy351; clear hy351; have H' := Aside0.mk H; clear H; have hnb41 := NB349_328.out; have hnc41 := NB328_349.out; have hcz42_0 : wr.cell? ⟨gb349, 0, none⟩ = some (.int .i64 t342) := (blk_cell BK349.out 0).trans rfl; have hcz42_1 : wr.cell? ⟨gb349, 1, none⟩ = some (.int .i64 t343) := (blk_cell BK349.out 1).trans rfl; have hcz42_2 : wr.cell? ⟨gb349, 2, none⟩ = some (.int .i64 t344) := (blk_cell BK349.out 2).trans rfl; have hcz42_3 : wr.cell? ⟨gb349, 3, none⟩ = some (u350003) := (blk_cell BK349.out 3).trans rfl; have hfz42_0 := blk_frozen BK349.out 0; have hfz42_1 := blk_frozen BK349.out 1; have hfz42_2 := blk_frozen BK349.out 2; have hfz42_3 := blk_frozen BK349.out 3; obtain ⟨Ao43, co43, eo43⟩ := Kd.R_slice HO_350003.out; subst eo43; have p350 : 0 ≤ (x79_3 : Int) := of_decide_eq_true (by first | (with_reducible assumption) | assumption); have q350 : x79_3 < (x350003_3.length : Int) := of_decide_eq_true (by first | (with_reducible assumption) | assumption); obtain ⟨ad350, e350, hx350_0, hx350_1⟩ := at_T35 (Kd.R_reads' HO_350003.out).2.2 x79_3 p350 q350; cases e350; replace p350 := eq_true p350; replace q350 := eq_true q350; have p40 : 0 ≤ (x79_3 : Int) := of_decide_eq_true (by first | (with_reducible assumption) | assumption); have q40 : (x79_3 : Int) < ((x350003_3.length : Int) : Int) := of_decide_eq_true (by first | (with_reducible assumption) | assumption); obtain ⟨go40, co40, eo40, gb40, gl40, cl40, HG40⟩ := Kd.R_form HO_350003.out (by omega); (first | cases eo40 | (injection eo40 with ea_ en_ ec_; (first | subst ea_ | (injection ea_ with ea_; subst ea_)); subst ec_; clear en_))
               have GB40 := Aside0.mk gb40; have GG40 := Aside0.mk HG40; clear gb40 gl40 HG40; (first | simp only [add_plain] at hx350_0 | skip)
               (first | simp only [add_plain] at hx350_1 | skip)
               obtain ⟨ce40, hcl40, hM40, hcc40, hfr40⟩ := Kd.R_elem HO_350003.out z35 (x79_3 : Int) p40 q40; obtain rfl := k35_openM hM40; have hx40_0 : wr.cell? ⟨go40, (x79_3 : Int).toNat * 2, none⟩ = some (.int .i64 ((rd_T35 x350003_3 x79_3).f0)) := hcc40 0 _ rfl; have hx40_1 : wr.cell? ⟨go40, (x79_3 : Int).toNat * 2 + 1, none⟩ = some (.int .i64 ((rd_T35 x350003_3 x79_3).f1)) := hcc40 1 _ rfl; have hf40_0 : wr.frozen? ⟨go40, (x79_3 : Int).toNat * 2, none⟩ = false := hfr40 0; have hf40_1 : wr.frozen? ⟨go40, (x79_3 : Int).toNat * 2 + 1, none⟩ = false := hfr40 1; clear hcl40 hcc40 hfr40 hM40; replace p40 := eq_true p40; replace q40 := eq_true q40; have HX44 := Aside0.mk (show Kd.R k35 35 wr wN.heap.size (fun _ => True) (.slice (some ⟨go40, 0, none⟩) x350003_3.length co43) x350003_3 from (by (with_reducible repeat (first | apply Kd.R_alloc | apply Kd.R_drewN | apply Kd.R_drew)); exact HO_350003.out)); obtain ⟨ce44, hcl44, hM44, hcc44, hfr44⟩ := Kd.R_elem HX44.out z35 (x79_3 : Int) (of_decide_eq_true (by first | (with_reducible assumption) | assumption)) (by have h_ : (x79_3 : Int) < ((x350003_3.length : Int) : Int) := of_decide_eq_true (by first | (with_reducible assumption) | assumption); first | exact h_ | (have e_ := (Kd.R_reads' HO_350003.out).1; omega) | simpa using h_); obtain rfl := k35_openM hM44; have HP44 := Kd.R_seg HX44.out (x79_3 : Int) (of_decide_eq_true (by first | (with_reducible assumption) | assumption)) (by have h_ : (x79_3 : Int) < ((x350003_3.length : Int) : Int) := of_decide_eq_true (by first | (with_reducible assumption) | assumption); first | exact h_ | (have e_ := (Kd.R_reads' HO_350003.out).1; omega) | simpa using h_) (seg := [.int .i64 (wrap64 (((rd_T35 x350003_3 x79_3).f0) + 1))]) (j := 0) hcl44 hcc44 (show 1 ≤ 2 from by decide) (x' := (⟨wrap64 (((rd_T35 x350003_3 x79_3).f0) + 1), (rd_T35 x350003_3 x79_3).f1⟩ : S35)) (k35_mkM _ _ _ (⟨wrap64 (((rd_T35 x350003_3 x79_3).f0) + 1), (rd_T35 x350003_3 x79_3).f1⟩ : S35) ) (fun _ hk => hk); have hx44_0 := hcc44 0 _ rfl; (try simp only [show (k35).sz = 2 from rfl, Nat.mul_one, Nat.add_zero] at hx44_0)
               have hf44_0 := hfr44 0; (try simp only [show (k35).sz = 2 from rfl, Nat.mul_one, Nat.add_zero] at hf44_0)
               clear hcl44 hcc44 hfr44 hM44; go_wp2_with (first | ((with_reducible refine gate_store (t := 3) (p := 90) rfl ?_); refine store_event (t := 3) (p := 90) (v := ?vo_w45) (w1 := (wr.setCell ⟨go40, (x79_3 : Int).toNat * 2, none⟩ (.int .i64 (wrap64 (((rd_T35 x350003_3 x79_3).f0) + 1))))) ?hg ?ho ?hn ?hr ?_; (case ho => rfl); (case hg => rfl); (case hn => rfl); (case hr => first | (go_simp; done) | (go_simp; rfl)); intro w45 hw; have hg : wr.grownBy w45 (some go40) := (by rw [hw]; exact HP44.2); have hp_ : Kd.R k35 35 w45 wN.heap.size (fun _ => True) (.slice (some ⟨go40, 0, none⟩) x350003_3.length co43) y351 := (by rw [hw, Ny351.out]; exact HP44.1); clear HP44; have n0_ := Aside0.mk (hp_); have n1_ := Aside0.mk (blk_grown (bG BK328.out) hg (Kd.R_ne HO_350003.out BK328.out (by decide))); have n2_ := Aside0.mk (blk_grown (bG BK349.out) hg (Kd.R_ne HO_350003.out BK349.out (by decide))); have n3_ := Aside0.mk ((by rw [hw]; exact below_set (HB.out) GB40.out : Below wN.heap.size wN w45)); clear HO_350003; clear BK328; clear BK349; clear HB; have HO_350003 := n0_; have BK328 := n1_; have BK349 := n2_; have HB := n3_; clear n0_ n1_ n2_ n3_; clear hg hw hp_))
               go_roundg k3
               case measure => have := HJ4.out; have := HK2.out; have := HK3.out; omega
               case rel => exact ⟨(wrap64 (x79_3 + 1)), (y351), (.slice (some ⟨go40, 0, none⟩) x350003_3.length co43), (by first | rfl | (simp; done) | (simp [*]; done)), H', ⟨by have := HJ4.out; have := HK2.out; have := HK3.out; omega⟩, ⟨by (try simp only [hl7_2]); (with_reducible repeat (first | apply Kd.R_alloc | apply Kd.R_drewN | apply Kd.R_drew)); exact HO_350003.out⟩, ⟨by (try simp only [hl7_2]); (with_reducible repeat first | apply bN | apply bD | apply bA); exact BK328.out⟩, ⟨by (try simp only [hl7_2]); (with_reducible repeat first | apply bN | apply bD | apply bA); exact BK349.out⟩, ⟨eG HB.out⟩⟩
              · rw [if_neg c39] at H; exact absurd H (by simp)
             · rw [if_neg c38] at H; exact absurd H (by simp)
            ·
             rw [if_neg c37] at H; have c37b0 : decide (x79_3 < (t345.length : Int)) = false := decide_eq_false c37; clear c37; obtain rfl := Option.some.inj H; go_wp2_with (first | (go_at_call 24; (with_reducible refine (spileref22_Same.calls kj4 _ _ l0 _ _ tb332 true _ ?side1 ?side2 ?side3 ?side4 AS1.out).mono ?_); (case side1 => exact Kd.C_below HR0.out (eG HB.out)); (case side2 => exact HC0.out); (case side3 => exact Kd.C_below HRb.out (eG HB.out)); (case side4 => exact HCb.out); rintro e wS ⟨rfl, hb⟩; have n1_ := Aside0.mk (blk_below (g := gb328) (o := .cells #[.int .i64 a1_0, .int .i64 a1_1, .int .i64 a1_2, .slice A1_3 l1_3.length c1_3] 33 (0, 0)) (by (with_reducible repeat (first | refine blk_far ?_ NB328_349.out _ | refine blk_drewN ?_ _ | refine blk_drew ?_ | refine blk_alloc ?_ _)); exact BK328.out) hb); have n2_ := Aside0.mk (below_step (eG HB.out) hb); clear BK328; clear HB; have BK328 := n1_; have HB := n2_; clear n1_ n2_; (try clear hb); have hcx_0 : wS.cell? ⟨gb328, 0, none⟩ = some (.int .i64 a1_0) := (blk_cell BK328.out 0).trans rfl; have hfx_0 := blk_frozen BK328.out 0; have hcx_1 : wS.cell? ⟨gb328, 1, none⟩ = some (.int .i64 a1_1) := (blk_cell BK328.out 1).trans rfl; have hfx_1 := blk_frozen BK328.out 1; have hcx_2 : wS.cell? ⟨gb328, 2, none⟩ = some (.int .i64 a1_2) := (blk_cell BK328.out 2).trans rfl; have hfx_2 := blk_frozen BK328.out 2; have hcx_3 : wS.cell? ⟨gb328, 3, none⟩ = some (.slice A1_3 l1_3.length c1_3) := (blk_cell BK328.out 3).trans rfl; have hfx_3 := blk_frozen BK328.out 3; have BKo := Aside0.mk (blk_below BKN341.out HB.out); have hcy_0 : wS.cell? ⟨gb341, 0, none⟩ = some (.int .i64 tb335) := (blk_cell BKo.out 0).trans rfl; have hfy_0 := blk_frozen BKo.out 0; have hcy_1 : wS.cell? ⟨gb341, 1, none⟩ = some (.int .i64 tb336) := (blk_cell BKo.out 1).trans rfl; have hfy_1 := blk_frozen BKo.out 1; have hcy_2 : wS.cell? ⟨gb341, 2, none⟩ = some (.int .i64 tb337) := (blk_cell BKo.out 2).trans rfl; have hfy_2 := blk_frozen BKo.out 2; have hcy_3 : wS.cell? ⟨gb341, 3, none⟩ = some (.slice Aob23 tb338.length cob23) := (blk_cell BKo.out 3).trans rfl; have hfy_3 := blk_frozen BKo.out 3) | (go_at_call 20; (with_reducible refine (spileref22_SameLot.calls kj4 a1_0 a1_1 a1_2 _ _ l1_3 tb335 tb336 tb337 _ _ tb338 true _ ?side1 ?side2 ?side3 ?side4 AS2.out).mono ?_); (case side1 => exact Kd.C_below HR1_3.out (eG HB.out)); (case side2 => exact HC1_3.out); (case side3 => exact Kd.C_below HRo.out (eG HB.out)); (case side4 => exact HCo.out); rintro e wT ⟨rfl, hb⟩; have n2_ := Aside0.mk (below_step (eG HB.out) hb); clear HB; have HB := n2_; clear n2_; (try clear hb)))
             go_ret
             exact ⟨by first | rfl | (simp [errW_none, errW_some] <;> rfl) | (simp [*, errW_none, errW_some] <;> rfl), below_step HBW.out (eG HB.out)⟩
         ·
          replace c30 := Bool.eq_false_iff.mpr c30; subst c30; replace H : (some true) = some r := by rw [if_neg (show ¬ (false = true) by decide)] at H; exact H
          obtain rfl := Option.some.inj H; have hcz46_0 : wr.cell? ⟨gb328, 0, none⟩ = some (.int .i64 a1_0) := (blk_cell BK328.out 0).trans rfl; have hcz46_1 : wr.cell? ⟨gb328, 1, none⟩ = some (.int .i64 a1_1) := (blk_cell BK328.out 1).trans rfl; have hcz46_2 : wr.cell? ⟨gb328, 2, none⟩ = some (.int .i64 a1_2) := (blk_cell BK328.out 2).trans rfl; have hcz46_3 : wr.cell? ⟨gb328, 3, none⟩ = some (.slice A1_3 l1_3.length c1_3) := (blk_cell BK328.out 3).trans rfl; have hfz46_0 := blk_frozen BK328.out 0; have hfz46_1 := blk_frozen BK328.out 1; have hfz46_2 := blk_frozen BK328.out 2; have hfz46_3 := blk_frozen BK328.out 3; go_wp2_with (first | ((with_reducible refine gate_callee (f := 16) rfl ?_); refine goesL_ (some 72) rfl rfl Tryd.func16 (by kernel_rfl) rfl #[.slice A0 l0.length c0, .int .i64 a1_0] rfl (by (try simp only [List.map_toArray, List.map_cons, List.map_nil]); first | done | rfl | (simp only [List.length_drop, List.length_take]; rfl)) ?_; (with_reducible refine (lot_Find.calls k2 _ _ l0 a1_0 t342 t343 t344 t345 false _ ?side1 ?side2 A29.out).mono ?_); (case side1 => repeat (first | exact (Kd.C_below HR0.out HB.out) | (with_reducible refine Kd.C_alloc ?_ _) | (with_reducible refine Kd.C_drewN ?_ _) | (with_reducible refine Kd.C_drew ?_))); (case side2 => exact HC0.out); rintro e w47 ⟨v346, rfl, ho0, hb⟩; refine ⟨_, rfl, ?_⟩; have n0_ := Aside0.mk (Kd.S_elder' (by (with_reducible repeat (first | apply Kd.S_alloc | apply Kd.S_drewN | apply Kd.S_drew)); exact HO_7.out) (Kd.R_base ho0) hb); have n1_ := Aside0.mk (Kd.R_lower ho0 (below_size (eG HB.out))); have n2_ := Aside0.mk (blk_below (bG BK328.out) hb); have n3_ := Aside0.mk (below_step (eG HB.out) hb); clear HO_7; clear BK328; clear HB; have HO_7 := n0_; have HO347 := n1_; have BK328 := n2_; have HB := n3_; clear n0_ n1_ n2_ n3_; (try clear hb); (try clear hb2); (try clear hk); (try clear hi); (try clear ho0)) | ((with_reducible refine gate_dst (N := 11) rfl ?_); refine box_event ?hg (N := 11) ?hd (cs := #[.int .i64 0, .int .i64 0, .int .i64 0, .slice none 0 0]) (t := 33) ?hr ?_; (case hd => rfl); (case hg => rfl); (case hr => first | (go_simp; done) | (go_simp; rfl)); intro gb349 hg w48 hbox hb; have n0_ := Aside0.mk (Kd.S_below (Kd.S_elderB (by (with_reducible repeat (first | apply Kd.S_alloc | apply Kd.S_drewN | apply Kd.S_drew)); exact HO_7.out) gb349 (Nat.le_of_eq hg.symm)) hb); have n1_ := Aside0.mk (Kd.R_below (rG HO347.out) hb); have n2_ := Aside0.mk (blk_below (bG BK328.out) hb); have n3_ := Aside0.mk (below_step (eG HB.out) hb); have n4_ := Aside0.mk (hbox); have n5_ := Aside0.mk ((by rw [hg]; exact (below_size (eG HB.out)) : wN.heap.size ≤ gb349)); have n6_ := Aside0.mk ((by rw [hg]; exact (below_size (eG HB.out)) : wN.heap.size ≤ gb349)); have n7_ := Aside0.mk ((by rw [hg]; exact Nat.ne_of_lt (blk_lt (bG BK328.out)) : gb328 ≠ gb349)); have n8_ := Aside0.mk ((by rw [hg]; exact Nat.ne_of_gt (blk_lt (bG BK328.out)) : gb349 ≠ gb328)); clear HO_7; clear HO347; clear BK328; clear HB; have HO_7 := n0_; have HO347 := n1_; have BK328 := n2_; have HB := n3_; have BK349 := n4_; have GW349 := n5_; have GE349 := n6_; have ig349_ := geI GE349; have NB328_349 := n7_; have NB349_328 := n8_; clear n0_ n1_ n2_ n3_ n4_ n5_ n6_ n7_ n8_; clear hb hbox hg; have hnb49 := NB349_328.out; have hnc49 := NB328_349.out; have hcz50_0 : w48.cell? ⟨gb349, 0, none⟩ = some (.int .i64 0) := (blk_cell BK349.out 0).trans rfl; have hcz50_1 : w48.cell? ⟨gb349, 1, none⟩ = some (.int .i64 0) := (blk_cell BK349.out 1).trans rfl; have hcz50_2 : w48.cell? ⟨gb349, 2, none⟩ = some (.int .i64 0) := (blk_cell BK349.out 2).trans rfl; have hcz50_3 : w48.cell? ⟨gb349, 3, none⟩ = some (.slice none 0 0) := (blk_cell BK349.out 3).trans rfl; have hfz50_0 := blk_frozen BK349.out 0; have hfz50_1 := blk_frozen BK349.out 1; have hfz50_2 := blk_frozen BK349.out 2; have hfz50_3 := blk_frozen BK349.out 3; obtain ⟨Ao51, co51, eo51⟩ := Kd.R_slice HO347.out; subst eo51) | (go_at_call 24; (with_reducible refine (spileref22_Same.calls kj4 _ _ l0 _ _ tb332 true _ ?side1 ?side2 ?side3 ?side4 AS1.out).mono ?_); (case side1 => exact Kd.C_below HR0.out (eG HB.out)); (case side2 => exact HC0.out); (case side3 => exact Kd.C_below HRb.out (eG HB.out)); (case side4 => exact HCb.out); rintro e wS ⟨rfl, hb⟩; have n1_ := Aside0.mk (blk_below (g := gb328) (o := .cells #[.int .i64 a1_0, .int .i64 a1_1, .int .i64 a1_2, .slice A1_3 l1_3.length c1_3] 33 (0, 0)) (by (with_reducible repeat (first | refine blk_far ?_ NB328_349.out _ | refine blk_drewN ?_ _ | refine blk_drew ?_ | refine blk_alloc ?_ _)); exact BK328.out) hb); have n2_ := Aside0.mk (below_step (eG HB.out) hb); clear BK328; clear HB; have BK328 := n1_; have HB := n2_; clear n1_ n2_; (try clear hb); have hcx_0 : wS.cell? ⟨gb328, 0, none⟩ = some (.int .i64 a1_0) := (blk_cell BK328.out 0).trans rfl; have hfx_0 := blk_frozen BK328.out 0; have hcx_1 : wS.cell? ⟨gb328, 1, none⟩ = some (.int .i64 a1_1) := (blk_cell BK328.out 1).trans rfl; have hfx_1 := blk_frozen BK328.out 1; have hcx_2 : wS.cell? ⟨gb328, 2, none⟩ = some (.int .i64 a1_2) := (blk_cell BK328.out 2).trans rfl; have hfx_2 := blk_frozen BK328.out 2; have hcx_3 : wS.cell? ⟨gb328, 3, none⟩ = some (.slice A1_3 l1_3.length c1_3) := (blk_cell BK328.out 3).trans rfl; have hfx_3 := blk_frozen BK328.out 3; have BKo := Aside0.mk (blk_below BKN341.out HB.out); have hcy_0 : wS.cell? ⟨gb341, 0, none⟩ = some (.int .i64 tb335) := (blk_cell BKo.out 0).trans rfl; have hfy_0 := blk_frozen BKo.out 0; have hcy_1 : wS.cell? ⟨gb341, 1, none⟩ = some (.int .i64 tb336) := (blk_cell BKo.out 1).trans rfl; have hfy_1 := blk_frozen BKo.out 1; have hcy_2 : wS.cell? ⟨gb341, 2, none⟩ = some (.int .i64 tb337) := (blk_cell BKo.out 2).trans rfl; have hfy_2 := blk_frozen BKo.out 2; have hcy_3 : wS.cell? ⟨gb341, 3, none⟩ = some (.slice Aob23 tb338.length cob23) := (blk_cell BKo.out 3).trans rfl; have hfy_3 := blk_frozen BKo.out 3) | (go_at_call 20; (with_reducible refine (spileref22_SameLot.calls kj4 a1_0 a1_1 a1_2 _ _ l1_3 tb335 tb336 tb337 _ _ tb338 true _ ?side1 ?side2 ?side3 ?side4 AS2.out).mono ?_); (case side1 => exact Kd.C_below HR1_3.out (eG HB.out)); (case side2 => exact HC1_3.out); (case side3 => exact Kd.C_below HRo.out (eG HB.out)); (case side4 => exact HCo.out); rintro e wT ⟨rfl, hb⟩; have n2_ := Aside0.mk (below_step (eG HB.out) hb); clear HB; have HB := n2_; clear n2_; (try clear hb)))
          go_ret
          exact ⟨by first | rfl | (simp [errW_none, errW_some] <;> rfl) | (simp [*, errW_none, errW_some] <;> rfl), below_step HBW.out (eG HB.out)⟩
     ·
      rw [if_neg c14] at H; have c14b0 : (t335 == 0) = false := beq_eq_false_iff_ne.mpr c14; have c14b1 : (t335 != 0) = true := bne_iff_ne.mpr c14; obtain rfl := Option.some.inj H; have hcz52_0 : wN.cell? ⟨gb328, 0, none⟩ = some (.int .i64 a1_0) := (blk_cell BK328.out 0).trans rfl; have hcz52_1 : wN.cell? ⟨gb328, 1, none⟩ = some (.int .i64 a1_1) := (blk_cell BK328.out 1).trans rfl; have hcz52_2 : wN.cell? ⟨gb328, 2, none⟩ = some (.int .i64 a1_2) := (blk_cell BK328.out 2).trans rfl; have hcz52_3 : wN.cell? ⟨gb328, 3, none⟩ = some (.slice A1_3 l1_3.length c1_3) := (blk_cell BK328.out 3).trans rfl; have hfz52_0 := blk_frozen BK328.out 0; have hfz52_1 := blk_frozen BK328.out 1; have hfz52_2 := blk_frozen BK328.out 2; have hfz52_3 := blk_frozen BK328.out 3; go_wp2_with (first | ((with_reducible refine gate_callee (f := 22) rfl ?_); refine goesL_ (some 32) rfl rfl Tryd.func22 (by kernel_rfl) rfl #[.slice A0 l0.length c0, .agg #[.int .i64 a1_0, .int .i64 a1_1, .int .i64 a1_2, .slice A1_3 l1_3.length c1_3]] rfl (by (try simp only [List.map_toArray, List.map_cons, List.map_nil]); first | done | rfl | (simp only [List.length_drop, List.length_take]; rfl)) ?_; (with_reducible refine (lot_Put.calls kj4 (fun k_ => k_ < wN.heap.size) _ _ l0 a1_0 a1_1 a1_2 _ _ l1_3 t332 t335 _ ?side1 ?side2 ?side3 A13.out).mono ?_); (case side1 => exact Kd.V_mk HC0.out (Kd.F_below (Kd.C_F k33_heap HR0.out) (eG HB.out))); (case side2 => repeat (first | exact (Kd.C_below HR1_3.out HB.out) | (with_reducible refine Kd.C_alloc ?_ _) | (with_reducible refine Kd.C_drewN ?_ _) | (with_reducible refine Kd.C_drew ?_))); (case side3 => exact HC1_3.out); rintro e w53 ⟨v333, rfl, ho0, hb⟩; refine ⟨_, rfl, ?_⟩; have n0_ := Aside0.mk (Kd.S_lower (Kd.S_newB (Kd.S_mono (ok' := fun k_ => True) ho0 (fun _ hk_ => trivial)) (bG BK328.out)) (below_size (eG HB.out))); have n1_ := Aside0.mk (blk_below (bG BK328.out) hb); have n2_ := Aside0.mk (below_step (eG HB.out) hb); clear BK328; clear HB; have HO334 := n0_; have BK328 := n1_; have HB := n2_; clear n0_ n1_ n2_; (try clear hb); (try clear hb2); (try clear hk); (try clear hi); (try clear ho0); obtain ⟨Ao54, co54, eo54⟩ := Kd.S_slice HO334.out; subst eo54))
      go_ret
      exact ⟨by first | rfl | (simp [errW_none, errW_some] <;> rfl) | (simp [*, errW_none, errW_some] <;> rfl), below_step HBW.out (eG HB.out)⟩
 ·
  replace c4 := Bool.eq_false_iff.mpr c4; subst c4; replace H : (some false) = some r := by rw [if_neg (show ¬ (false = true) by decide)] at H; exact H
  subst hr_; exact absurd H (by simp)
end Go.Proofs.YtgjoenoknknoiaaDoor.Pr
namespace Go.Proofs.YtgjoenoknknoiaaDoor.Opn
open Go Go.RowKit Go.Proofs.YtgjoenoknknoiaaDoorW.PrintWords Go.Proofs.YtgjoenoknknoiaaDoor.O Go.Proofs.YtgjoenoknknoiaaDoor.Pr
theorem opens3 : Opens Tryd.prog 3 (Kd.int .i64) (fun x => (Lit.int .i64 x).wf = true) := opens_int Tryd.underlying3 (by kernel_rfl)
def ok26 (x : S26) : Prop := (Lit.int .i64 x.f0).wf = true ∧ (Lit.int .i64 x.f1).wf = true
theorem opens26 : Opens Tryd.prog 26 k26 ok26 :=
  ⟨by kernel_rfl, fun H enc w base sp held fuel cs x h => by
    obtain ⟨xs, n, _, _, hl, hx, hf⟩ := DataW.trod_struct Tryd.underlying26 h
    have hc_ : Tryd.prog.cellsOf 26 = 2 := by kernel_rfl
    rw [hc_] at hl
    obtain ⟨c0, c1, rfl⟩ : ∃ c0 c1, cs = [c0, c1] := by
      clear h hf hx
      rcases cs with _ | ⟨c0, _ | ⟨c1, _ | ⟨_, _⟩⟩⟩
      all_goals first | exact ⟨_, _, rfl⟩ | (simp at hl)
    obtain ⟨y0, hy0⟩ : ∃ y, xs[0]? = some y := ⟨xs[0]'(by rw [hx]; decide), List.getElem?_eq_getElem _⟩
    have e0 : DataW.trod enc Tryd.prog w base sp held n 3 ((List.drop 0 [c0, c1]).take (Tryd.prog.cellsOf 3)) = xs[0]? := hf 0 _ rfl
    rw [hy0, show Tryd.prog.cellsOf 3 = 1 from by kernel_rfl] at e0
    obtain ⟨v0, K0, o0⟩ := opens3.2 H enc w base sp held n _ _ e0
    replace K0 : (Kd.int .i64).K w v0 [c0] := K0
    obtain ⟨y1, hy1⟩ : ∃ y, xs[1]? = some y := ⟨xs[1]'(by rw [hx]; decide), List.getElem?_eq_getElem _⟩
    have e1 : DataW.trod enc Tryd.prog w base sp held n 3 ((List.drop 1 [c0, c1]).take (Tryd.prog.cellsOf 3)) = xs[1]? := hf 1 _ rfl
    rw [hy1, show Tryd.prog.cellsOf 3 = 1 from by kernel_rfl] at e1
    obtain ⟨v1, K1, o1⟩ := opens3.2 H enc w base sp held n _ _ e1
    replace K1 : (Kd.int .i64).K w v1 [c1] := K1
    obtain rfl : c0 = _ := List.singleton_inj.1 K0
    obtain rfl : c1 = _ := List.singleton_inj.1 K1
    refine ⟨⟨v0, v1⟩, ?_, o0, o1⟩
    exact k26_mk w ⟨v0, v1⟩ ⟩
def ok35 (x : S35) : Prop := (Lit.int .i64 x.f0).wf = true ∧ (Lit.int .i64 x.f1).wf = true
theorem opens35 : Opens Tryd.prog 35 k35 ok35 :=
  ⟨by kernel_rfl, fun H enc w base sp held fuel cs x h => by
    obtain ⟨xs, n, _, _, hl, hx, hf⟩ := DataW.trod_struct Tryd.underlying35 h
    have hc_ : Tryd.prog.cellsOf 35 = 2 := by kernel_rfl
    rw [hc_] at hl
    obtain ⟨c0, c1, rfl⟩ : ∃ c0 c1, cs = [c0, c1] := by
      clear h hf hx
      rcases cs with _ | ⟨c0, _ | ⟨c1, _ | ⟨_, _⟩⟩⟩
      all_goals first | exact ⟨_, _, rfl⟩ | (simp at hl)
    obtain ⟨y0, hy0⟩ : ∃ y, xs[0]? = some y := ⟨xs[0]'(by rw [hx]; decide), List.getElem?_eq_getElem _⟩
    have e0 : DataW.trod enc Tryd.prog w base sp held n 3 ((List.drop 0 [c0, c1]).take (Tryd.prog.cellsOf 3)) = xs[0]? := hf 0 _ rfl
    rw [hy0, show Tryd.prog.cellsOf 3 = 1 from by kernel_rfl] at e0
    obtain ⟨v0, K0, o0⟩ := opens3.2 H enc w base sp held n _ _ e0
    replace K0 : (Kd.int .i64).K w v0 [c0] := K0
    obtain ⟨y1, hy1⟩ : ∃ y, xs[1]? = some y := ⟨xs[1]'(by rw [hx]; decide), List.getElem?_eq_getElem _⟩
    have e1 : DataW.trod enc Tryd.prog w base sp held n 3 ((List.drop 1 [c0, c1]).take (Tryd.prog.cellsOf 3)) = xs[1]? := hf 1 _ rfl
    rw [hy1, show Tryd.prog.cellsOf 3 = 1 from by kernel_rfl] at e1
    obtain ⟨v1, K1, o1⟩ := opens3.2 H enc w base sp held n _ _ e1
    replace K1 : (Kd.int .i64).K w v1 [c1] := K1
    obtain rfl : c0 = _ := List.singleton_inj.1 K0
    obtain rfl : c1 = _ := List.singleton_inj.1 K1
    refine ⟨⟨v0, v1⟩, ?_, o0, o1⟩
    exact k35_mk w ⟨v0, v1⟩ ⟩
theorem opens31 : Opens Tryd.prog 31 (Kd.slice 35 k35) (fun x => (x.length ≤ maxLen ∧ ∀ x0_, x0_ ∈ x → ok35 x0_)) := opens_slice (P := Tryd.prog) (t := 31) (e := 35) Tryd.underlying31 (by kernel_rfl) opens35
def ok33 (x : S33) : Prop := (Lit.int .i64 x.f0).wf = true ∧ ok26 x.f1 ∧ (x.f2.length ≤ maxLen ∧ ∀ x0_, x0_ ∈ x.f2 → ok35 x0_)
theorem opens33 : Opens Tryd.prog 33 k33 ok33 :=
  ⟨by kernel_rfl, fun H enc w base sp held fuel cs x h => by
    obtain ⟨xs, n, _, _, hl, hx, hf⟩ := DataW.trod_struct Tryd.underlying33 h
    have hc_ : Tryd.prog.cellsOf 33 = 4 := by kernel_rfl
    rw [hc_] at hl
    obtain ⟨c0, c1, c2, c3, rfl⟩ : ∃ c0 c1 c2 c3, cs = [c0, c1, c2, c3] := by
      clear h hf hx
      rcases cs with _ | ⟨c0, _ | ⟨c1, _ | ⟨c2, _ | ⟨c3, _ | ⟨_, _⟩⟩⟩⟩⟩
      all_goals first | exact ⟨_, _, _, _, rfl⟩ | (simp at hl)
    obtain ⟨y0, hy0⟩ : ∃ y, xs[0]? = some y := ⟨xs[0]'(by rw [hx]; decide), List.getElem?_eq_getElem _⟩
    have e0 : DataW.trod enc Tryd.prog w base sp held n 3 ((List.drop 0 [c0, c1, c2, c3]).take (Tryd.prog.cellsOf 3)) = xs[0]? := hf 0 _ rfl
    rw [hy0, show Tryd.prog.cellsOf 3 = 1 from by kernel_rfl] at e0
    obtain ⟨v0, K0, o0⟩ := opens3.2 H enc w base sp held n _ _ e0
    replace K0 : (Kd.int .i64).K w v0 [c0] := K0
    obtain ⟨y1, hy1⟩ : ∃ y, xs[1]? = some y := ⟨xs[1]'(by rw [hx]; decide), List.getElem?_eq_getElem _⟩
    have e1 : DataW.trod enc Tryd.prog w base sp held n 26 ((List.drop 1 [c0, c1, c2, c3]).take (Tryd.prog.cellsOf 26)) = xs[1]? := hf 1 _ rfl
    rw [hy1, show Tryd.prog.cellsOf 26 = 2 from by kernel_rfl] at e1
    obtain ⟨v1, K1, o1⟩ := opens26.2 H enc w base sp held n _ _ e1
    replace K1 : k26.K w v1 [c1, c2] := K1
    obtain ⟨y2, hy2⟩ : ∃ y, xs[2]? = some y := ⟨xs[2]'(by rw [hx]; decide), List.getElem?_eq_getElem _⟩
    have e2 : DataW.trod enc Tryd.prog w base sp held n 31 ((List.drop 3 [c0, c1, c2, c3]).take (Tryd.prog.cellsOf 31)) = xs[2]? := hf 2 _ rfl
    rw [hy2, show Tryd.prog.cellsOf 31 = 1 from by kernel_rfl] at e2
    obtain ⟨v2, K2, o2⟩ := opens31.2 H enc w base sp held n _ _ e2
    replace K2 : (Kd.slice 35 k35).K w v2 [c3] := K2
    obtain rfl : c0 = _ := List.singleton_inj.1 K0
    have Z1 := k26_open K1
    have w1 := Z1
    simp only [List.cons.injEq, and_true] at w1
    obtain ⟨rfl, rfl⟩ := w1
    obtain ⟨A2, q2, w2, m2, g2⟩ := K2
    obtain rfl : c3 = _ := List.singleton_inj.1 w2
    refine ⟨⟨v0, v1, v2⟩, ?_, o0, o1, o2⟩
    exact k33_mk w ⟨v0, v1, v2⟩ m2 g2⟩
theorem opens22 : Opens Tryd.prog 22 (Kd.slice 33 k33) (fun x => (x.length ≤ maxLen ∧ ∀ x0_, x0_ ∈ x → ok33 x0_)) := opens_slice (P := Tryd.prog) (t := 22) (e := 33) Tryd.underlying22 (by kernel_rfl) opens33
end Go.Proofs.YtgjoenoknknoiaaDoor.Opn
namespace Go.Proofs.YtgjoenoknknoiaaDoor.Pure
open Go Go.RowKit Go.Proofs.YtgjoenoknknoiaaDoor.Pr Go.Proofs.YtgjoenoknknoiaaDoor.Opn
def lotOwnPure : Prop := ∀ (l0 : (List S33)) (a1_0 : Int) (a1_1 : Int) (a1_2 : Int) (l1_3 : (List S35)), (l0.length ≤ maxLen ∧ ∀ x0_, x0_ ∈ l0 → ok33 x0_) → (Lit.int .i64 a1_0).wf = true → (Lit.int .i64 a1_1).wf = true → (Lit.int .i64 a1_2).wf = true → (l1_3.length ≤ maxLen ∧ ∀ x0_, x0_ ∈ l1_3 → ok35 x0_) → ∃ k, spilelaw22_LotOwn.f k l0 a1_0 a1_1 a1_2 l1_3 = some true
end Go.Proofs.YtgjoenoknknoiaaDoor.Pure
namespace Go.Proofs.YtgjoenoknknoiaaDoor.PL
open Go Go.RowKit Go.Proofs.YtgjoenoknknoiaaDoorW.PrintWords Go.Proofs.YtgjoenoknknoiaaDoorW.PrintLast Go.Proofs.YtgjoenoknknoiaaDoorW.PrintMore
theorem evp {α : Type} {c : Prop} [Decidable c] {g h : Nat → Option α} {r : α} (hc : c) (k : Ev g r) : Ev (fun n => if c then g n else h n) r :=
  Ev.congr (fun n => if_pos hc) k
theorem evn {α : Type} {c : Prop} [Decidable c] {g h : Nat → Option α} {r : α} (hc : ¬ c) (k : Ev h r) : Ev (fun n => if c then g n else h n) r :=
  Ev.congr (fun n => if_neg hc) k
theorem evb {α β : Type} {g : Nat → Option α} {f : Nat → α → Option β} {a : α} {r : β} (h : Ev g a) (k : Ev (fun n => f n a) r) : Ev (fun n => (g n).bind (f n)) r := Ev.bind h k
theorem evr {α : Type} {a r : α} (h : a = r) : Ev (fun _ => some a) r := by subst h; exact Ev.now _
theorem evc {α : Type} {g : Nat → Option α} {r : α} {o : Option α} (hg : ∀ n, g n = o) (h : o = some r) : Ev g r := by
  subst h
  exact Ev.congr hg (Ev.now _)
theorem ev_unique {α : Type} {g : Nat → Option α} {a b : α} (h : Ev g a) (h2 : Ev g b) : a = b := by
  obtain ⟨K, h⟩ := h
  obtain ⟨K2, h2⟩ := h2
  have e1 := h (K + K2) (by omega)
  have e2 := h2 (K + K2) (by omega)
  rw [e1] at e2
  exact Option.some.inj e2
/-- A loop that counts upwards to n. -/
theorem count_up (a n : Int) (P : Int → Prop) (hend : P n) (hround : ∀ i, a ≤ i → i < n → P (i + 1) → P i) : ∀ i, a ≤ i → i ≤ n → P i := by
  intro i h0 h1
  obtain ⟨d, hd⟩ : ∃ d : Nat, n - i = d := ⟨(n - i).toNat, by omega⟩
  induction d generalizing i with
  | zero =>
    obtain rfl : i = n := by omega
    exact hend
  | succ d ih => exact hround i h0 (by omega) (ih (i + 1) (by omega) (by omega) (by omega))
theorem w64 {x : Int} (h0 : -9223372036854775808 ≤ x) (h1 : x ≤ 9223372036854775807) : wrap64 x = x := by
  unfold wrap64
  omega
theorem w64_succ {i n : Int} (h0 : 0 ≤ i) (h : i < n) (hn : n ≤ 9223372036854775807) : wrap64 (i + 1) = i + 1 := w64 (by omega) (by omega)
theorem w64_pred {i n : Int} (h0 : 0 ≤ i) (h : i ≤ n) (hn : n ≤ 9223372036854775807) : wrap64 (i - 1) = i - 1 := w64 (by omega) (by omega)
theorem len_le {α : Type} {l : List α} (h : l.length ≤ maxLen) : (l.length : Int) ≤ 9223372036854775807 := by
  have : l.length ≤ 9223372036854775807 := by simpa [maxLen] using h
  omega
/-- A test that comes to true where P holds, and else to false. -/
def EvB (g : Nat → Option Bool) (P : Prop) : Prop := (P → Ev g true) ∧ (¬ P → Ev g false)
theorem EvB.map {g : Nat → Option Bool} {f : Nat → Bool → Option Bool} {P Q : Prop} (h : EvB g P) (ht : P → EvB (fun n => f n true) Q) (hf : ¬ P → EvB (fun n => f n false) Q) : EvB (fun n => (g n).bind (f n)) Q := by
  by_cases hp : P
  · exact ⟨fun q => Ev.bind (h.1 hp) ((ht hp).1 q), fun q => Ev.bind (h.1 hp) ((ht hp).2 q)⟩
  · exact ⟨fun q => Ev.bind (h.2 hp) ((hf hp).1 q), fun q => Ev.bind (h.2 hp) ((hf hp).2 q)⟩
theorem u64w {x : Int} (h0 : 0 ≤ x) (h1 : x ≤ 9223372036854775807) : IntKind.u64.wrap x = x := by
  unfold IntKind.wrap
  simp [IntKind.signed, IntKind.bits]
  omega
theorem half {i j : Int} (h0 : 0 ≤ i) (h1 : i < j) (h2 : j ≤ 4611686018427387904) : wrap64 ((IntKind.u64.wrap (wrap64 (i + j))) / 2) = (i + j) / 2 := by
  rw [w64 (x := i + j) (by omega) (by omega), u64w (by omega) (by omega), w64 (by omega) (by omega)]
/-- A search by halves. -/
theorem search_ev (n : Int) (Q : Int → Prop) (L : Int → Int → Nat → Option Int)
    (hend : ∀ i, 0 ≤ i → i ≤ n → Ev (L i i) i) (hyes : ∀ i j, 0 ≤ i → i < j → j ≤ n → Q ((i + j) / 2) → ∀ r, Ev (L i ((i + j) / 2)) r → Ev (L i j) r)
    (hno : ∀ i j, 0 ≤ i → i < j → j ≤ n → ¬ Q ((i + j) / 2) → ∀ r, Ev (L ((i + j) / 2 + 1) j) r → Ev (L i j) r)
    (mono : ∀ a b, 0 ≤ a → a ≤ b → b < n → Q a → Q b) (hn : 0 ≤ n) :
    ∃ r, Ev (L 0 n) r ∧ 0 ≤ r ∧ r ≤ n ∧ (∀ a, 0 ≤ a → a < r → ¬ Q a) ∧ (∀ a, r ≤ a → a < n → Q a) := by
  have go : ∀ (d : Nat) (i j : Int), 0 ≤ i → i ≤ j → j ≤ n → j - i ≤ d → (∀ a, 0 ≤ a → a < i → ¬ Q a) → (∀ a, j ≤ a → a < n → Q a) →
      ∃ r, Ev (L i j) r ∧ 0 ≤ r ∧ r ≤ n ∧ (∀ a, 0 ≤ a → a < r → ¬ Q a) ∧ (∀ a, r ≤ a → a < n → Q a) := by
    intro d
    induction d with
    | zero =>
      intro i j h0 h1 h2 h3 hl hr
      obtain rfl : i = j := by omega
      exact ⟨i, hend i h0 h2, h0, h2, hl, hr⟩
    | succ d ih =>
      intro i j h0 h1 h2 h3 hl hr
      by_cases e : i = j
      · subst e
        exact ⟨i, hend i h0 h2, h0, h2, hl, hr⟩
      · by_cases q : Q ((i + j) / 2)
        · obtain ⟨r, hr2, h⟩ := ih i ((i + j) / 2) h0 (by omega) (by omega) (by omega) hl (fun a ha hb => mono ((i + j) / 2) a (by omega) ha hb q)
          exact ⟨r, hyes i j h0 (by omega) h2 q r hr2, h⟩
        · obtain ⟨r, hr2, h⟩ := ih ((i + j) / 2 + 1) j (by omega) (by omega) h2 (by omega) (fun a ha hb qa => q (mono a ((i + j) / 2) ha (by omega) (by omega) qa)) hr
          exact ⟨r, hno i j h0 (by omega) h2 q r hr2, h⟩
  exact go n.toNat 0 n (by omega) hn (by omega) (by omega) (fun a h0 h1 => absurd h1 (by omega)) (fun a h0 h1 => absurd h1 (by omega))
end Go.Proofs.YtgjoenoknknoiaaDoor.PL
namespace Go.Proofs.YtgjoenoknknoiaaDoor.PL
open Go Go.RowKit Go.Proofs.YtgjoenoknknoiaaDoorW.PrintWords Go.Proofs.YtgjoenoknknoiaaDoorW.PrintLast Go.Proofs.YtgjoenoknknoiaaDoorW.PrintMore Go.Proofs.YtgjoenoknknoiaaDoor.Pr Go.Proofs.YtgjoenoknknoiaaDoor.Opn
def PlainP (a b : Int) : Prop := 0 ≤ a ∧ a ≤ 10737418240000 ∧ 0 ≤ b ∧ b ≤ 128849018880000 ∧ (0 < b ∨ a = 0)
instance (a b : Int) : Decidable (PlainP a b) := by unfold PlainP; infer_instance
theorem mix_plain_eq (a b : Int) : mix_plain.f a b = some (decide (PlainP a b)) := by
  unfold mix_plain.f PlainP
  repeat' split
  all_goals first
    | (refine congrArg some (Eq.symm (decide_eq_true ?_)); omega)
    | (refine congrArg some (Eq.symm (decide_eq_false ?_)); omega)
    | (refine congrArg some ?_
       by_cases h : a = 0
       · rw [show (a == 0) = true from by simpa using h]; exact (decide_eq_true (by omega)).symm
       · rw [show (a == 0) = false from by simpa using h]; exact (decide_eq_false (by omega)).symm)
theorem ref_plain_eq (a b : Int) : spileref21_Plain.f a b = some (decide (PlainP a b)) := mix_plain_eq a b
theorem wf64 {x : Int} (h : (Lit.int .i64 x).wf = true) : -9223372036854775808 ≤ x ∧ x ≤ 9223372036854775807 := by
  have h2 := h
  simp [Lit.wf, IntKind.min, IntKind.max, IntKind.signed, IntKind.bits] at h2
  exact ⟨by omega, by omega⟩
/-- A liquid alone: plain by the mixture of one. -/
theorem lot_plain_ev (a b : Int) (ha : -9223372036854775808 ≤ a ∧ a ≤ 9223372036854775807) (hb : -9223372036854775808 ≤ b ∧ b ≤ 9223372036854775807) : Ev (fun k => lot_plain.f k a b) (decide (PlainP a b)) := by
  have r0 : rd_T26 [(⟨a, b⟩ : S26)] 0 = ⟨a, b⟩ := rfl
  have hc : Ev (fun k => api_Liquid_69_at_70.f k [(⟨a, b⟩ : S26)]) (decide (¬ PlainP a b)) := by
    by_cases hp : PlainP a b
    · have : Ev (fun k => api_Liquid_78_at_70.f k [(⟨a, b⟩ : S26)]) (-1) := by
        refine Ev.step (fun k => api_Liquid_78_at_70.l0.eq_2 ..) (evp (by simp) (evp (by decide) (evp (by simp) (evb (a := false) ?_ (evn (by simp) ?_)))))
        · refine evc (fun _ => rfl) ?_
          rw [r0]
          unfold mix_Sum_1.f
          rw [mix_plain_eq, decide_eq_true hp]
          rfl
        · exact Ev.step (fun k => api_Liquid_78_at_70.l0.eq_2 ..) (evn (by simp [wrap64]) (Ev.now _))
      rw [decide_eq_false (fun h => h hp)]
      exact evb this (evr (by decide))
    · have : Ev (fun k => api_Liquid_78_at_70.f k [(⟨a, b⟩ : S26)]) 0 := by
        refine Ev.step (fun k => api_Liquid_78_at_70.l0.eq_2 ..) (evp (by simp) (evp (by decide) (evp (by simp) (evb (a := true) ?_ (evp rfl (Ev.now _))))))
        refine evc (fun _ => rfl) ?_
        rw [r0]
        unfold mix_Sum_1.f
        rw [mix_plain_eq, decide_eq_false hp]
        rfl
      rw [decide_eq_true hp]
      exact evb this (evr (by decide))
  have ht : Ev (fun k => mix_total.f k [(⟨a, b⟩ : S26)]) (a, b) := by
    refine Ev.step (fun k => mix_total.l0.eq_2 ..) (evp (by simp) (evp (by decide) (evp (by simp) ?_)))
    rw [r0]
    refine Ev.step (fun k => mix_total.l0.eq_2 ..) (evn (by simp [wrap64]) (evr ?_))
    show (wrap64 (0 + a), wrap64 (0 + b)) = (a, b)
    rw [w64 (by omega) (by omega), w64 (by omega) (by omega)]
    simp
  by_cases hp : PlainP a b
  · rw [decide_eq_false (fun h => h hp)] at hc
    rw [decide_eq_true hp]
    refine evb (a := (a, b, 0)) ?_ (evr (by simp))
    refine evn (by simp) (evb hc (evn (by simp) (evb ht (evb (a := true) (evc (fun _ => rfl) ?_) (evp rfl (Ev.now _))))))
    rw [mix_plain_eq, decide_eq_true hp]
  · rw [decide_eq_true hp] at hc
    rw [decide_eq_false hp]
    refine evb (a := (0, 0, 1)) ?_ (evr (by simp))
    exact evn (by simp) (evb hc (evp rfl (Ev.now _)))
/-- The shares of a lot. -/
theorem shares_both (l : List S35) (hl : (l.length : Int) ≤ 9223372036854775807) (a0 a1 a2 : Int) : ∀ i, 0 ≤ i → i ≤ (l.length : Int) → ∀ s,
    ∃ e, Ev (fun k => spileref22_Shares.l0 k l i) e ∧ (e ≠ 0 → Ev (fun k => lot_shares.l0 k s l (l.length : Int) i a0 a1 a2 l) e) ∧
      (e = 0 → ∃ t, Ev (fun k => spileref22_Alcohol.l0 k l s i) t ∧ Ev (fun k => lot_shares.l0 k s l (l.length : Int) i a0 a1 a2 l) (if t = a1 then 0 else 14)) := by
  refine count_up 0 (l.length : Int) _ ?_ ?_
  · intro s
    refine ⟨0, Ev.step (fun k => spileref22_Shares.l0.eq_2 ..) (evn (by omega) (Ev.now _)), fun h => absurd rfl h, fun _ => ⟨s, Ev.step (fun k => spileref22_Alcohol.l0.eq_2 ..) (evn (by omega) (Ev.now _)), ?_⟩⟩
    refine Ev.step (fun k => lot_shares.l0.eq_2 ..) (evn (by omega) ?_)
    by_cases h : s = a1
    · rw [show (if s = a1 then (0 : Int) else 14) = 0 from if_pos h]; exact evp h (Ev.now _)
    · rw [show (if s = a1 then (0 : Int) else 14) = 14 from if_neg h]; exact evn h (Ev.now _)
  · intro i h0 h1 ih s
    have hw := w64_succ h0 h1 hl
    by_cases c1 : (rd_T35 l i).f0 < 1
    · exact ⟨10, Ev.step (fun k => spileref22_Shares.l0.eq_2 ..) (evp h1 (evp h0 (evp c1 (Ev.now _)))), fun _ => Ev.step (fun k => lot_shares.l0.eq_2 ..) (evp h1 (evp h0 (evp h1 (evp c1 (Ev.now _))))), fun h => absurd h (by decide)⟩
    by_cases c2 : (rd_T35 l i).f0 > 1073741824
    · exact ⟨10, Ev.step (fun k => spileref22_Shares.l0.eq_2 ..) (evp h1 (evp h0 (evn c1 (evp c2 (Ev.now _))))), fun _ => Ev.step (fun k => lot_shares.l0.eq_2 ..) (evp h1 (evp h0 (evp h1 (evn c1 (evp c2 (Ev.now _)))))), fun h => absurd h (by decide)⟩
    by_cases c3 : (rd_T35 l i).f1 < 1
    · exact ⟨10, Ev.step (fun k => spileref22_Shares.l0.eq_2 ..) (evp h1 (evp h0 (evn c1 (evn c2 (evp c3 (Ev.now _)))))), fun _ => Ev.step (fun k => lot_shares.l0.eq_2 ..) (evp h1 (evp h0 (evp h1 (evn c1 (evn c2 (evp c3 (Ev.now _))))))), fun h => absurd h (by decide)⟩
    by_cases c4 : (rd_T35 l i).f1 > 10737418240000
    · exact ⟨10, Ev.step (fun k => spileref22_Shares.l0.eq_2 ..) (evp h1 (evp h0 (evn c1 (evn c2 (evn c3 (evp c4 (Ev.now _))))))), fun _ => Ev.step (fun k => lot_shares.l0.eq_2 ..) (evp h1 (evp h0 (evp h1 (evn c1 (evn c2 (evn c3 (evp c4 (Ev.now _)))))))), fun h => absurd h (by decide)⟩
    obtain ⟨e, q1, q2, q3⟩ := ih (wrap64 (s + (rd_T35 l i).f1))
    rw [← hw] at q1 q2 q3
    by_cases c5 : i > 0
    · have hp := w64_pred h0 (Int.le_of_lt h1) hl
      have p0 : 0 ≤ wrap64 (i - 1) := by rw [hp]; omega
      have p1 : wrap64 (i - 1) < (l.length : Int) := by rw [hp]; omega
      by_cases c6 : (rd_T35 l i).f0 ≤ (rd_T35 l (wrap64 (i - 1))).f0
      · exact ⟨10, Ev.step (fun k => spileref22_Shares.l0.eq_2 ..) (evp h1 (evp h0 (evn c1 (evn c2 (evn c3 (evn c4 (evp c5 (evp p0 (evp p1 (evp c6 (Ev.now _)))))))))) ), fun _ => Ev.step (fun k => lot_shares.l0.eq_2 ..) (evp h1 (evp h0 (evp h1 (evn c1 (evn c2 (evn c3 (evn c4 (evp c5 (evp p0 (evp p1 (evp c6 (Ev.now _))))))))))) ), fun h => absurd h (by decide)⟩
      · refine ⟨e, Ev.step (fun k => spileref22_Shares.l0.eq_2 ..) (evp h1 (evp h0 (evn c1 (evn c2 (evn c3 (evn c4 (evp c5 (evp p0 (evp p1 (evn c6 q1)))))))))), fun h => Ev.step (fun k => lot_shares.l0.eq_2 ..) (evp h1 (evp h0 (evp h1 (evn c1 (evn c2 (evn c3 (evn c4 (evp c5 (evp p0 (evp p1 (evn c6 (q2 h)))))))))))), fun h => ?_⟩
        obtain ⟨t, q4, q5⟩ := q3 h
        exact ⟨t, Ev.step (fun k => spileref22_Alcohol.l0.eq_2 ..) (evp h1 (evp h0 q4)), Ev.step (fun k => lot_shares.l0.eq_2 ..) (evp h1 (evp h0 (evp h1 (evn c1 (evn c2 (evn c3 (evn c4 (evp c5 (evp p0 (evp p1 (evn c6 q5)))))))))))⟩
    · refine ⟨e, Ev.step (fun k => spileref22_Shares.l0.eq_2 ..) (evp h1 (evp h0 (evn c1 (evn c2 (evn c3 (evn c4 (evn c5 q1))))))), fun h => Ev.step (fun k => lot_shares.l0.eq_2 ..) (evp h1 (evp h0 (evp h1 (evn c1 (evn c2 (evn c3 (evn c4 (evn c5 (q2 h))))))))), fun h => ?_⟩
      obtain ⟨t, q4, q5⟩ := q3 h
      exact ⟨t, Ev.step (fun k => spileref22_Alcohol.l0.eq_2 ..) (evp h1 (evp h0 q4)), Ev.step (fun k => lot_shares.l0.eq_2 ..) (evp h1 (evp h0 (evp h1 (evn c1 (evn c2 (evn c3 (evn c4 (evn c5 q5))))))))⟩
/-- What is right in a lot's numbers. -/
def Wf33 (x : S33) : Prop := (-9223372036854775808 ≤ x.f1.f0 ∧ x.f1.f0 ≤ 9223372036854775807) ∧ (-9223372036854775808 ≤ x.f1.f1 ∧ x.f1.f1 ≤ 9223372036854775807) ∧ (x.f2.length : Int) ≤ 9223372036854775807
theorem shares_f_both (x : S33) (h : Wf33 x) : ∃ e, Ev (fun k => spileref22_Shares.f k x.f2) e ∧ (e ≠ 0 → Ev (fun k => lot_shares.f k x.f0 x.f1.f0 x.f1.f1 x.f2) e) ∧
    (e = 0 → ∃ t, Ev (fun k => spileref22_Alcohol.f k x.f2) t ∧ Ev (fun k => lot_shares.f k x.f0 x.f1.f0 x.f1.f1 x.f2) (if t = x.f1.f0 then 0 else 14)) := by
  by_cases c : (x.f2.length : Int) > 32
  · exact ⟨12, evp c (Ev.now _), fun _ => evp c (Ev.now _), fun h => absurd h (by decide)⟩
  · obtain ⟨e, q1, q2, q3⟩ := shares_both x.f2 h.2.2 x.f0 x.f1.f0 x.f1.f1 0 (by omega) (by omega) 0
    refine ⟨e, evn c q1, fun h => evn c (q2 h), fun h => ?_⟩
    obtain ⟨t, q4, q5⟩ := q3 h
    exact ⟨t, q4, evn c q5⟩
/-- A lot's fault, but for its number and place: both sides alike. -/
theorem one_both (x : S33) (h : Wf33 x) : ∃ e, Ev (fun k => spileref22_One.f k x.f0 x.f1.f0 x.f1.f1 x.f2) e ∧ Ev (fun k => lot_fault.j1 k false x.f0 x.f1.f0 x.f1.f1 x.f2) e := by
  have hp := lot_plain_ev x.f1.f0 x.f1.f1 h.1 h.2.1
  by_cases c : PlainP x.f1.f0 x.f1.f1
  · rw [decide_eq_true c] at hp
    have hr : Ev (fun _ : Nat => spileref21_Plain.f x.f1.f0 x.f1.f1) true := evc (fun _ => rfl) (by rw [ref_plain_eq, decide_eq_true c])
    by_cases c2 : x.f1.f1 = 0
    · refine ⟨1, evb hr (evp rfl (Ev.step (fun k => spileref22_One.j0.eq_2 ..) (evp (by simpa using c2) (Ev.now _)))), Ev.step (fun k => lot_fault.j1.eq_2 ..) (evn (by simp) (evb hp (evp rfl (evp c2 (Ev.now _)))))⟩
    · have c3 : ¬ (x.f1.f1 == 0) = true := by simpa using c2
      obtain ⟨e, q1, q2, q3⟩ := shares_f_both x h
      by_cases he : e = 0
      · obtain ⟨t, q4, q5⟩ := q3 he
        refine ⟨if t = x.f1.f0 then 0 else 14, evb hr (evp rfl (Ev.step (fun k => spileref22_One.j0.eq_2 ..) (evn c3 (evb q1 (evp he (evb q4 ?_)))))), Ev.step (fun k => lot_fault.j1.eq_2 ..) (evn (by simp) (evb hp (evp rfl (evn c2 (evb q5 (Ev.now _))))))⟩
        by_cases ht : t = x.f1.f0
        · rw [show (if t = x.f1.f0 then (0 : Int) else 14) = 0 from if_pos ht]; exact evp ht (Ev.now _)
        · rw [show (if t = x.f1.f0 then (0 : Int) else 14) = 14 from if_neg ht]; exact evn ht (Ev.now _)
      · exact ⟨e, evb hr (evp rfl (Ev.step (fun k => spileref22_One.j0.eq_2 ..) (evn c3 (evb q1 (evn he (Ev.now _)))))), Ev.step (fun k => lot_fault.j1.eq_2 ..) (evn (by simp) (evb hp (evp rfl (evn c2 (evb (q2 he) (Ev.now _))))))⟩
  · rw [decide_eq_false c] at hp
    have hr : Ev (fun _ : Nat => spileref21_Plain.f x.f1.f0 x.f1.f1) false := evc (fun _ => rfl) (by rw [ref_plain_eq, decide_eq_false c])
    exact ⟨1, evb hr (evn (by simp) (Ev.step (fun k => spileref22_One.j0.eq_2 ..) (evp rfl (Ev.now _)))), Ev.step (fun k => lot_fault.j1.eq_2 ..) (evn (by simp) (evb hp (evn (by simp) (Ev.now _))))⟩
theorem id_eq (x : Int) : spileref22_ID.f x = some (decide (1 ≤ x ∧ x ≤ 1073741824)) := by
  unfold spileref22_ID.f
  by_cases h : x ≥ 1
  · rw [if_pos h]
    by_cases h2 : x ≤ 1073741824
    · rw [decide_eq_true h2, decide_eq_true (⟨h, h2⟩ : 1 ≤ x ∧ x ≤ 1073741824)]
    · rw [decide_eq_false h2, decide_eq_false (fun q => h2 q.2)]
  · rw [if_neg h, decide_eq_false (fun q => h q.1)]
theorem check_loop (l : List S33) (hl : (l.length : Int) ≤ 9223372036854775807) (hw : ∀ i, 0 ≤ i → i < (l.length : Int) → Wf33 (rd_T33 l i)) : ∀ i, 0 ≤ i → i ≤ (l.length : Int) →
    ∃ r, Ev (fun k => lot_Check.l0 k l (l.length : Int) i) r ∧ Ev (fun k => spileref22_Check.l0 k l i) r := by
  refine count_up 0 (l.length : Int) _ ?_ ?_
  · exact ⟨(-1, 0), Ev.step (fun k => lot_Check.l0.eq_2 ..) (evn (by omega) (Ev.now _)), Ev.step (fun k => spileref22_Check.l0.eq_2 ..) (evn (by omega) (Ev.now _))⟩
  · intro i h0 h1 ih
    obtain ⟨r, q1, q2⟩ := ih
    rw [← w64_succ h0 h1 hl] at q1 q2
    by_cases c1 : (rd_T33 l i).f0 < 1
    · refine ⟨(i, 2), Ev.step (fun k => lot_Check.l0.eq_2 ..) (evp h1 (evb (a := 2) (evp h0 (evp h1 (evp c1 (Ev.step (fun k => lot_fault.j0.eq_2 ..) (evp rfl (Ev.now _)))))) (evn (by decide) (Ev.now _)))), Ev.step (fun k => spileref22_Check.l0.eq_2 ..) (evp h1 (evp h0 (evb (a := false) (evc (fun _ => rfl) ?_) (evn (by simp) (Ev.now _)))))⟩
      rw [id_eq, decide_eq_false (by omega)]
    by_cases c2 : (rd_T33 l i).f0 > 1073741824
    · refine ⟨(i, 2), Ev.step (fun k => lot_Check.l0.eq_2 ..) (evp h1 (evb (a := 2) (evp h0 (evp h1 (evn c1 (Ev.step (fun k => lot_fault.j0.eq_2 ..) (evp (decide_eq_true c2) (Ev.now _)))))) (evn (by decide) (Ev.now _)))), Ev.step (fun k => spileref22_Check.l0.eq_2 ..) (evp h1 (evp h0 (evb (a := false) (evc (fun _ => rfl) ?_) (evn (by simp) (Ev.now _)))))⟩
      rw [id_eq, decide_eq_false (by omega)]
    have hid : Ev (fun _ : Nat => spileref22_ID.f (rd_T33 l i).f0) true := evc (fun _ => rfl) (by rw [id_eq, decide_eq_true (by omega)])
    have c2' : ¬ decide ((rd_T33 l i).f0 > 1073741824) = true := by simpa using c2
    obtain ⟨e, o1, o2⟩ := one_both (rd_T33 l i) (hw i h0 h1)
    have fin : ∀ (g : Nat → Option Int), Ev g e → ∀ (g2 : Nat → Option Int), Ev g2 e → ∃ r2, Ev (fun k => (g k).bind fun t => if t = 0 then lot_Check.l0 k l (l.length : Int) (wrap64 (i + 1)) else some (i, t)) r2 ∧ Ev (fun k => (g2 k).bind fun t => if t = 0 then spileref22_Check.l0 k l (wrap64 (i + 1)) else some (i, t)) r2 := by
      intro g hg g2 hg2
      by_cases he : e = 0
      · exact ⟨r, evb hg (evp he q1), evb hg2 (evp he q2)⟩
      · exact ⟨(i, e), evb hg (evn he (Ev.now _)), evb hg2 (evn he (Ev.now _))⟩
    by_cases c3 : i > 0
    · have hp := w64_pred h0 (Int.le_of_lt h1) hl
      have p0 : 0 ≤ wrap64 (i - 1) := by rw [hp]; omega
      have p1 : wrap64 (i - 1) < (l.length : Int) := by rw [hp]; omega
      by_cases c4 : (rd_T33 l i).f0 ≤ (rd_T33 l (wrap64 (i - 1))).f0
      · have F : Ev (fun k => lot_fault.f k l i) 5 := by
          refine evp h0 (evp h1 (evn c1 (Ev.step (fun k => lot_fault.j0.eq_2 ..) ?_)))
          refine evn c2' (evp c3 (evp p0 (evp p1 (Ev.step (fun k => lot_fault.j1.eq_2 ..) ?_))))
          exact evp (decide_eq_true c4) (Ev.now _)
        refine ⟨(i, 5), Ev.step (fun k => lot_Check.l0.eq_2 ..) (evp h1 (evb F (evn (by decide) (Ev.now _)))), Ev.step (fun k => spileref22_Check.l0.eq_2 ..) (evp h1 (evp h0 (evb hid (evp rfl ?_))))⟩
        exact evp c3 (evp p0 (evp p1 (Ev.step (fun k => spileref22_Check.j1.eq_2 ..) (evp (decide_eq_true c4) (Ev.now _)))))
      · have hd : decide ((rd_T33 l (wrap64 (i - 1))).f0 ≥ (rd_T33 l i).f0) = false := decide_eq_false c4
        have hd2 : ¬ decide ((rd_T33 l i).f0 ≤ (rd_T33 l (wrap64 (i - 1))).f0) = true := by simpa using c4
        have F : Ev (fun k => lot_fault.f k l i) e := by
          refine evp h0 (evp h1 (evn c1 (Ev.step (fun k => lot_fault.j0.eq_2 ..) ?_)))
          refine evn c2' (evp c3 (evp p0 (evp p1 ?_)))
          rw [hd]
          exact o2
        obtain ⟨r2, f1, f2⟩ := fin _ F _ o1
        refine ⟨r2, Ev.step (fun k => lot_Check.l0.eq_2 ..) (evp h1 f1), Ev.step (fun k => spileref22_Check.l0.eq_2 ..) (evp h1 (evp h0 (evb hid (evp rfl ?_))))⟩
        exact evp c3 (evp p0 (evp p1 (Ev.step (fun k => spileref22_Check.j1.eq_2 ..) (evn hd2 (evp h0 (evp h1 f2))))))
    · have F : Ev (fun k => lot_fault.f k l i) e := by
        refine evp h0 (evp h1 (evn c1 (Ev.step (fun k => lot_fault.j0.eq_2 ..) ?_)))
        exact evn c2' (evn c3 o2)
      obtain ⟨r2, f1, f2⟩ := fin _ F _ o1
      refine ⟨r2, Ev.step (fun k => lot_Check.l0.eq_2 ..) (evp h1 f1), Ev.step (fun k => spileref22_Check.l0.eq_2 ..) (evp h1 (evp h0 (evb hid (evp rfl ?_))))⟩
      exact evn c3 (Ev.step (fun k => spileref22_Check.j1.eq_2 ..) (evn (by simp) (evp h0 (evp h1 f2))))
theorem check_both (l : List S33) (hl : (l.length : Int) ≤ 9223372036854775807) (hw : ∀ i, 0 ≤ i → i < (l.length : Int) → Wf33 (rd_T33 l i)) :
    ∃ r, Ev (fun k => lot_Check.f k l) r ∧ Ev (fun k => spileref22_Check.f k l) r := by
  by_cases c : (l.length : Int) > 32
  · exact ⟨(-1, 8), evp c (Ev.now _), evp c (Ev.now _)⟩
  · obtain ⟨r, q1, q2⟩ := check_loop l hl hw 0 (by omega) (by omega)
    exact ⟨r, evn c q1, evn c q2⟩
def Few12 (l : List S35) : Prop := (l.length : Int) ≤ 12 ∨ (32 < (l.length : Int) ∧ (l.length : Int) ≤ 37)
instance (l : List S35) : Decidable (Few12 l) := by unfold Few12; infer_instance
theorem fewShares_eq (l : List S35) : spileref22_FewShares.f l = some (decide (Few12 l)) := by
  unfold spileref22_FewShares.f
  by_cases c : (l.length : Int) ≤ 12
  · rw [if_pos c, decide_eq_true (show Few12 l from Or.inl c)]
  · rw [if_neg c]
    by_cases c2 : (l.length : Int) > 32
    · rw [if_pos c2]
      by_cases c3 : (l.length : Int) ≤ 37
      · rw [decide_eq_true c3, decide_eq_true (show Few12 l from Or.inr ⟨c2, c3⟩)]
      · rw [decide_eq_false c3, decide_eq_false (show ¬ Few12 l from by unfold Few12; omega)]
    · rw [if_neg c2, decide_eq_false (show ¬ Few12 l from by unfold Few12; omega)]
theorem few_ev (l : List S33) (hl : (l.length : Int) ≤ 9223372036854775807) : ∃ b, Ev (fun k => spileref22_Few.f k l) b ∧ (b = true → (l.length : Int) ≤ 37 ∧ ∀ i, 0 ≤ i → i < (l.length : Int) → Few12 (rd_T33 l i).f2) := by
  have loop : ∀ i, 0 ≤ i → i ≤ (l.length : Int) → ∃ b, Ev (fun k => spileref22_Few.l0 k l i) b ∧ (b = true → ∀ j, i ≤ j → j < (l.length : Int) → Few12 (rd_T33 l j).f2) := by
    refine count_up 0 (l.length : Int) _ ?_ ?_
    · exact ⟨true, Ev.step (fun k => spileref22_Few.l0.eq_2 ..) (evn (by omega) (Ev.now _)), fun _ j g0 g1 => by omega⟩
    · intro i h0 h1 ih
      obtain ⟨b, q1, q2⟩ := ih
      rw [← w64_succ h0 h1 hl] at q1
      by_cases c : Few12 (rd_T33 l i).f2
      · refine ⟨b, Ev.step (fun k => spileref22_Few.l0.eq_2 ..) (evp h1 (evp h0 (evb (a := true) (evc (fun _ => rfl) (by rw [fewShares_eq, decide_eq_true c])) (evp rfl q1)))), fun hb j g0 g1 => ?_⟩
        by_cases e : j = i
        · rw [e]; exact c
        · exact q2 hb j (by omega) g1
      · exact ⟨false, Ev.step (fun k => spileref22_Few.l0.eq_2 ..) (evp h1 (evp h0 (evb (a := false) (evc (fun _ => rfl) (by rw [fewShares_eq, decide_eq_false c])) (evn (by simp) (Ev.now _))))), fun h => by cases h⟩
  obtain ⟨b, q1, q2⟩ := loop 0 (by omega) (by omega)
  have tail : ∃ b, Ev (fun k => spileref22_Few.j0 k l (decide ((l.length : Int) > 37))) b ∧ (b = true → (l.length : Int) ≤ 37 ∧ ∀ i, 0 ≤ i → i < (l.length : Int) → Few12 (rd_T33 l i).f2) := by
    by_cases c : (l.length : Int) > 37
    · exact ⟨false, Ev.step (fun k => spileref22_Few.j0.eq_2 ..) (evp (decide_eq_true c) (Ev.now _)), fun h => by cases h⟩
    · exact ⟨b, Ev.step (fun k => spileref22_Few.j0.eq_2 ..) (evn (by simpa using c) q1), fun hb => ⟨by omega, q2 hb⟩⟩
  obtain ⟨b2, t1, t2⟩ := tail
  by_cases c : (l.length : Int) > 8
  · by_cases c2 : (l.length : Int) ≤ 32
    · exact ⟨false, evp c (evp c2 (Ev.step (fun k => spileref22_Few.j0.eq_2 ..) (evp rfl (Ev.now _)))), fun h => by cases h⟩
    · exact ⟨b2, evp c (evn c2 t1), t2⟩
  · exact ⟨b2, evn c t1, t2⟩
theorem sameShares_ev (l : List S35) (hl : (l.length : Int) ≤ 9223372036854775807) : Ev (fun k => spileref22_SameShares.f k l l) true := by
  refine evp rfl (count_up 0 (l.length : Int) (fun i => Ev (fun k => spileref22_SameShares.l0 k l l i) true) ?_ ?_ 0 (by omega) (by omega))
  · exact Ev.step (fun k => spileref22_SameShares.l0.eq_2 ..) (evn (by omega) (Ev.now _))
  · intro i h0 h1 ih
    rw [← w64_succ h0 h1 hl] at ih
    exact Ev.step (fun k => spileref22_SameShares.l0.eq_2 ..) (evp h1 (evp h0 (evp h1 (evn (by simp) ih))))
theorem sameLot_ev (a b c : Int) (l : List S35) (hl : (l.length : Int) ≤ 9223372036854775807) : Ev (fun k => spileref22_SameLot.f k a b c l a b c l) true :=
  evp rfl (evp (by simp) (evb (sameShares_ev l hl) (Ev.now _)))
theorem copied_eq (l : List S35) (h : l.length < 8796093022208) : api_Share.f l = some l := by
  unfold api_Share.f
  simp [h]
theorem find_both (l : List S33) (hl : (l.length : Int) ≤ 9223372036854775807) (hf : ∀ i, 0 ≤ i → i < (l.length : Int) → Few12 (rd_T33 l i).f2) (id : Int) : ∀ i, 0 ≤ i → i ≤ (l.length : Int) →
    ∃ r, Ev (fun k => lot_Find.l0 k id l (l.length : Int) i) r ∧ Ev (fun k => spileref22_Find.l0 k l id i) r ∧ (r.2.2.2.1.length : Int) ≤ 37 := by
  refine count_up 0 (l.length : Int) _ ?_ ?_
  · exact ⟨(0, 0, 0, [], false), Ev.step (fun k => lot_Find.l0.eq_2 ..) (evn (by omega) (Ev.now _)), Ev.step (fun k => spileref22_Find.l0.eq_2 ..) (evn (by omega) (Ev.now _)), by simp⟩
  · intro i h0 h1 ih
    have hs := hf i h0 h1
    have hlen : ((rd_T33 l i).f2.length : Int) ≤ 37 := by unfold Few12 at hs; omega
    by_cases c : (rd_T33 l i).f0 = id
    · refine ⟨((rd_T33 l i).f0, (rd_T33 l i).f1.f0, (rd_T33 l i).f1.f1, (rd_T33 l i).f2, true), Ev.step (fun k => lot_Find.l0.eq_2 ..) (evp h1 (evp h0 (evp h1 (evp c ?_)))), Ev.step (fun k => spileref22_Find.l0.eq_2 ..) (evp h1 (evp h0 (evp c ?_))), hlen⟩
      · refine evc (fun _ => rfl) ?_
        unfold lot_own.f
        rw [copied_eq _ (by omega)]
        rfl
      · refine evc (fun _ => rfl) ?_
        unfold spileref22_Copy.f
        have : (rd_T33 l i).f2.length < 8796093022208 := by omega
        simp [this]
    · obtain ⟨r, q1, q2, q3⟩ := ih
      rw [← w64_succ h0 h1 hl] at q1 q2
      exact ⟨r, Ev.step (fun k => lot_Find.l0.eq_2 ..) (evp h1 (evp h0 (evp h1 (evn c q1)))), Ev.step (fun k => spileref22_Find.l0.eq_2 ..) (evp h1 (evp h0 (evn c q2))), q3⟩
end Go.Proofs.YtgjoenoknknoiaaDoor.PL
namespace Go.Proofs.YtgjoenoknknoiaaDoor.PL
open Go Go.RowKit Go.Proofs.YtgjoenoknknoiaaDoorW.PrintWords Go.Proofs.YtgjoenoknknoiaaDoorW.PrintLast Go.Proofs.YtgjoenoknknoiaaDoorW.PrintMore Go.Proofs.YtgjoenoknknoiaaDoor.Pr Go.Proofs.YtgjoenoknknoiaaDoor.Opn
theorem own_eq (x : S33) (h : (x.f2.length : Int) ≤ 37) : lot_own.f x.f0 x.f1.f0 x.f1.f1 x.f2 = some (x.f0, x.f1.f0, x.f1.f1, x.f2) := by
  unfold lot_own.f
  rw [copied_eq _ (by omega)]
  rfl
theorem copy_eq (x : S33) (h : (x.f2.length : Int) ≤ 37) : spileref22_Copy.f x.f0 x.f1.f0 x.f1.f1 x.f2 = some (x.f0, x.f1.f0, x.f1.f1, x.f2) := by
  unfold spileref22_Copy.f
  have : x.f2.length < 8796093022208 := by omega
  simp [this]
theorem rd33 (l : List S33) (i : Nat) (h : i < l.length) : rd_T33 l (i : Int) = l[i] := by
  unfold rd_T33
  simp [List.getD_eq_getElem?_getD, List.getElem?_eq_getElem h]
theorem rd33_mem {l : List S33} {i : Int} (h0 : 0 ≤ i) (h1 : i < (l.length : Int)) : rd_T33 l i ∈ l := by
  have e : i = ((i.toNat : Nat) : Int) := by omega
  rw [e, rd33 l i.toNat (by omega)]
  exact List.getElem_mem _
theorem mem_rd33 {l : List S33} {x : S33} (h : x ∈ l) : ∃ i : Int, 0 ≤ i ∧ i < (l.length : Int) ∧ rd_T33 l i = x := by
  obtain ⟨i, hi, e⟩ := List.mem_iff_getElem.1 h
  exact ⟨(i : Int), by omega, by omega, by rw [rd33 l i hi, e]⟩
theorem rd33_get {l : List S33} {i : Int} (h0 : 0 ≤ i) (h1 : i < (l.length : Int)) : l[i.toNat]? = some (rd_T33 l i) := by
  have e : i = ((i.toNat : Nat) : Int) := by omega
  rw [e, rd33 l i.toNat (by omega), Int.toNat_natCast, List.getElem?_eq_getElem]
theorem take_next {l : List S33} {i : Int} (h0 : 0 ≤ i) (h1 : i < (l.length : Int)) : l.take (i + 1).toNat = l.take i.toNat ++ [rd_T33 l i] := by
  rw [show (i + 1).toNat = i.toNat + 1 from by omega, List.take_add_one, rd33_get h0 h1]
  rfl
theorem drop_next {l : List S33} {i : Int} (h0 : 0 ≤ i) (h1 : i < (l.length : Int)) : l.drop i.toNat = rd_T33 l i :: l.drop (i + 1).toNat := by
  have e : i = ((i.toNat : Nat) : Int) := by omega
  have g : rd_T33 l i = l[i.toNat]'(by omega) := by rw [← rd33 l i.toNat (by omega), ← e]
  rw [g, show (i + 1).toNat = i.toNat + 1 from by omega, ← List.drop_eq_getElem_cons]
def IdP (x : S33) : Prop := 1 ≤ x.f0 ∧ x.f0 ≤ 1073741824
instance (x : S33) : Decidable (IdP x) := by unfold IdP; infer_instance
def Fine (x : S33) : Prop := Ev (fun k => spileref22_One.f k x.f0 x.f1.f0 x.f1.f1 x.f2) 0
def Up (l : List S33) : Prop := l.Pairwise (fun a b => a.f0 < b.f0)
def RightL (l : List S33) : Prop := (l.length : Int) ≤ 32 ∧ Up l ∧ ∀ x, x ∈ l → IdP x ∧ Fine x
def At (l : List S33) (j : Int) : Prop := IdP (rd_T33 l j) ∧ (0 < j → (rd_T33 l (j - 1)).f0 < (rd_T33 l j).f0) ∧ Fine (rd_T33 l j)
theorem check_sem (l : List S33) (hl : (l.length : Int) ≤ 9223372036854775807) (hw : ∀ i, 0 ≤ i → i < (l.length : Int) → Wf33 (rd_T33 l i)) : ∀ i, 0 ≤ i → i ≤ (l.length : Int) →
    ∃ r, Ev (fun k => spileref22_Check.l0 k l i) r ∧ (r.2 = 0 ↔ ∀ j, i ≤ j → j < (l.length : Int) → At l j) := by
  refine count_up 0 (l.length : Int) _ ?_ ?_
  · exact ⟨(-1, 0), Ev.step (fun k => spileref22_Check.l0.eq_2 ..) (evn (by omega) (Ev.now _)), fun _ j h0 h1 => by omega, fun _ => rfl⟩
  · intro i h0 h1 ih
    obtain ⟨r, q1, q2⟩ := ih
    rw [← w64_succ h0 h1 hl] at q1
    have bad : ∀ e : Int, e ≠ 0 → ¬ At l i → (((i, e) : Int × Int).2 = 0 ↔ ∀ j, i ≤ j → j < (l.length : Int) → At l j) := fun e he hn => ⟨fun h => absurd h he, fun h => absurd (h i (by omega) h1) hn⟩
    have good : At l i → (r.2 = 0 ↔ ∀ j, i ≤ j → j < (l.length : Int) → At l j) := fun hi => ⟨fun h j g0 g1 => by
      by_cases e : j = i
      · rw [e]; exact hi
      · exact q2.1 h j (by omega) g1, fun h => q2.2 (fun j g0 g1 => h j (by omega) g1)⟩
    by_cases c : IdP (rd_T33 l i)
    · have hid : Ev (fun _ : Nat => spileref22_ID.f (rd_T33 l i).f0) true := evc (fun _ => rfl) (by rw [id_eq]; exact congrArg some (decide_eq_true c))
      obtain ⟨e, o1, _⟩ := one_both (rd_T33 l i) (hw i h0 h1)
      by_cases c3 : i > 0
      · have hp := w64_pred h0 (Int.le_of_lt h1) hl
        have p0 : 0 ≤ wrap64 (i - 1) := by rw [hp]; omega
        have p1 : wrap64 (i - 1) < (l.length : Int) := by rw [hp]; omega
        by_cases c4 : (rd_T33 l i).f0 ≤ (rd_T33 l (wrap64 (i - 1))).f0
        · refine ⟨(i, 5), Ev.step (fun k => spileref22_Check.l0.eq_2 ..) (evp h1 (evp h0 (evb hid (evp rfl ?_)))), bad 5 (by decide) (fun h => ?_)⟩
          · exact evp c3 (evp p0 (evp p1 (Ev.step (fun k => spileref22_Check.j1.eq_2 ..) (evp (decide_eq_true c4) (Ev.now _)))))
          · have := h.2.1 c3
            rw [hp] at c4
            omega
        · have hd2 : ¬ decide ((rd_T33 l i).f0 ≤ (rd_T33 l (wrap64 (i - 1))).f0) = true := by simpa using c4
          by_cases he : e = 0
          · refine ⟨r, Ev.step (fun k => spileref22_Check.l0.eq_2 ..) (evp h1 (evp h0 (evb hid (evp rfl ?_)))), good ⟨c, fun _ => ?_, ?_⟩⟩
            · exact evp c3 (evp p0 (evp p1 (Ev.step (fun k => spileref22_Check.j1.eq_2 ..) (evn hd2 (evp h0 (evp h1 (evb o1 (evp he q1))))))))
            · rw [hp] at c4
              omega
            · subst he; exact o1
          · refine ⟨(i, e), Ev.step (fun k => spileref22_Check.l0.eq_2 ..) (evp h1 (evp h0 (evb hid (evp rfl ?_)))), bad e he (fun h => he (ev_unique o1 h.2.2))⟩
            exact evp c3 (evp p0 (evp p1 (Ev.step (fun k => spileref22_Check.j1.eq_2 ..) (evn hd2 (evp h0 (evp h1 (evb o1 (evn he (Ev.now _)))))))))
      · by_cases he : e = 0
        · refine ⟨r, Ev.step (fun k => spileref22_Check.l0.eq_2 ..) (evp h1 (evp h0 (evb hid (evp rfl ?_)))), good ⟨c, fun h => absurd h c3, ?_⟩⟩
          · exact evn c3 (Ev.step (fun k => spileref22_Check.j1.eq_2 ..) (evn (by simp) (evp h0 (evp h1 (evb o1 (evp he q1))))))
          · subst he; exact o1
        · refine ⟨(i, e), Ev.step (fun k => spileref22_Check.l0.eq_2 ..) (evp h1 (evp h0 (evb hid (evp rfl ?_)))), bad e he (fun h => he (ev_unique o1 h.2.2))⟩
          exact evn c3 (Ev.step (fun k => spileref22_Check.j1.eq_2 ..) (evn (by simp) (evp h0 (evp h1 (evb o1 (evn he (Ev.now _)))))))
    · refine ⟨(i, 2), Ev.step (fun k => spileref22_Check.l0.eq_2 ..) (evp h1 (evp h0 (evb (a := false) (evc (fun _ => rfl) ?_) (evn (by simp) (Ev.now _))))), bad 2 (by decide) (fun h => c h.1)⟩
      rw [id_eq]; exact congrArg some (decide_eq_false c)
theorem up_of (l : List S33) (h : ∀ j, 0 ≤ j → j < (l.length : Int) → At l j) : Up l := by
  refine List.pairwise_iff_getElem.2 ?_
  have key : ∀ d i : Nat, (hi : i + d + 1 < l.length) → (l[i]'(by omega)).f0 < (l[i + d + 1]'hi).f0 := by
    intro d
    induction d with
    | zero =>
      intro i hi
      have := (h ((i + 1 : Nat) : Int) (by omega) (by omega)).2.1 (by omega)
      rw [rd33 l (i + 1) hi, show (((i + 1 : Nat) : Int) - 1) = (i : Int) from by omega, rd33 l i (by omega)] at this
      exact this
    | succ d ih =>
      intro i hi
      have a := ih i (by omega)
      have := (h ((i + d + 1 + 1 : Nat) : Int) (by omega) (by omega)).2.1 (by omega)
      rw [rd33 l (i + d + 1 + 1) (by omega), show (((i + d + 1 + 1 : Nat) : Int) - 1) = ((i + d + 1 : Nat) : Int) from by omega, rd33 l (i + d + 1) (by omega)] at this
      exact Int.lt_trans a this
  intro i j hi hj hij
  obtain ⟨d, rfl⟩ : ∃ d, j = i + d + 1 := ⟨j - i - 1, by omega⟩
  exact key d i hj
theorem up_lt {l : List S33} (h : Up l) {i j : Int} (h0 : 0 ≤ i) (h1 : i < j) (h2 : j < (l.length : Int)) : (rd_T33 l i).f0 < (rd_T33 l j).f0 := by
  have e : i = ((i.toNat : Nat) : Int) := by omega
  have e2 : j = ((j.toNat : Nat) : Int) := by omega
  rw [e, e2, rd33 l i.toNat (by omega), rd33 l j.toNat (by omega)]
  exact List.pairwise_iff_getElem.1 h i.toNat j.toNat (by omega) (by omega) (by omega)
theorem at_iff (l : List S33) : (∀ j, 0 ≤ j → j < (l.length : Int) → At l j) ↔ Up l ∧ ∀ x, x ∈ l → IdP x ∧ Fine x := by
  constructor
  · intro h
    refine ⟨up_of l h, fun x hx => ?_⟩
    obtain ⟨i, h0, h1, rfl⟩ := mem_rd33 hx
    exact ⟨(h i h0 h1).1, (h i h0 h1).2.2⟩
  · intro h j h0 h1
    have hm := h.2 _ (rd33_mem h0 h1)
    exact ⟨hm.1, fun hj => up_lt h.1 (by omega) (by omega) h1, hm.2⟩
theorem check_iff (l : List S33) (hl : (l.length : Int) ≤ 9223372036854775807) (hw : ∀ i, 0 ≤ i → i < (l.length : Int) → Wf33 (rd_T33 l i)) :
    ∃ r, Ev (fun k => lot_Check.f k l) r ∧ Ev (fun k => spileref22_Check.f k l) r ∧ (r.2 = 0 ↔ RightL l) := by
  obtain ⟨r, q1, q2⟩ := check_both l hl hw
  refine ⟨r, q1, q2, ?_⟩
  by_cases c : (l.length : Int) > 32
  · have : Ev (fun k => spileref22_Check.f k l) (-1, 8) := evp c (Ev.now _)
    rw [ev_unique q2 this]
    exact ⟨fun h => absurd h (by decide), fun h => absurd h.1 (by omega)⟩
  · obtain ⟨r2, p1, p2⟩ := check_sem l hl hw 0 (by omega) (by omega)
    have : Ev (fun k => spileref22_Check.f k l) r2 := evn c p1
    rw [ev_unique q2 this, p2, at_iff]
    exact ⟨fun h => ⟨by omega, h⟩, fun h => h.2⟩
theorem right_iff (l : List S33) (hl : (l.length : Int) ≤ 9223372036854775807) (hw : ∀ i, 0 ≤ i → i < (l.length : Int) → Wf33 (rd_T33 l i)) :
    ∃ b, Ev (fun k => lot_right.f k l) b ∧ Ev (fun k => spileref22_Right.f k l) b ∧ (b = true ↔ RightL l) := by
  obtain ⟨r, q1, q2, q3⟩ := check_iff l hl hw
  exact ⟨r.2 == 0, evb q1 (Ev.now _), evb q2 (Ev.now _), by rw [← q3]; simp⟩
theorem put1_eq (l : List S33) (x : S33) (a : Int) (h0 : 0 ≤ a) (h1 : a < (l.length : Int)) : lot_Put_1.f a l x.f0 x.f1.f0 x.f1.f1 x.f2 = some (decide ((rd_T33 l a).f0 ≥ x.f0)) := by
  unfold lot_Put_1.f
  rw [if_pos h0, if_pos h1]
theorem search_put (l : List S33) (hn : (l.length : Int) ≤ 37) (hu : Up l) (x : S33) : ∃ r, Ev (fun k => sort_Search_44_at_45.f k (l.length : Int) l x.f0 x.f1.f0 x.f1.f1 x.f2) r ∧ 0 ≤ r ∧ r ≤ (l.length : Int) ∧
    (∀ a, 0 ≤ a → a < r → ¬ (rd_T33 l a).f0 ≥ x.f0) ∧ (∀ a, r ≤ a → a < (l.length : Int) → (rd_T33 l a).f0 ≥ x.f0) := by
  refine search_ev (l.length : Int) (fun a => (rd_T33 l a).f0 ≥ x.f0) (fun i j k => sort_Search_44_at_45.l0 k i j l x.f0 x.f1.f0 x.f1.f1 x.f2) ?_ ?_ ?_ ?_ (by omega)
  · intro i h0 h1
    exact Ev.step (fun k => sort_Search_44_at_45.l0.eq_2 ..) (evn (by omega) (Ev.now _))
  · intro i j h0 h1 h2 q r hr
    have hm := half h0 h1 (by omega)
    refine Ev.step (fun k => sort_Search_44_at_45.l0.eq_2 ..) (evp h1 ?_)
    rw [hm]
    exact evb (a := true) (evc (fun _ => rfl) (by rw [put1_eq l x _ (by omega) (by omega), decide_eq_true q])) (evp rfl hr)
  · intro i j h0 h1 h2 q r hr
    have hm := half h0 h1 (by omega)
    refine Ev.step (fun k => sort_Search_44_at_45.l0.eq_2 ..) (evp h1 ?_)
    rw [hm, w64 (x := (i + j) / 2 + 1) (by omega) (by omega)]
    exact evb (a := false) (evc (fun _ => rfl) (by rw [put1_eq l x _ (by omega) (by omega), decide_eq_false q])) (evn (by simp) hr)
  · intro a b h0 h1 h2 q
    by_cases e : a = b
    · subst e; exact q
    · have := up_lt hu h0 (by omega : a < b) h2
      have q2 : (rd_T33 l a).f0 ≥ x.f0 := q
      show (rd_T33 l b).f0 ≥ x.f0
      omega
def putL (l : List S33) (x : S33) (e : Bool) : List S33 := l.filter (fun y => decide (y.f0 < x.f0)) ++ ((if e = true then [] else [x]) ++ l.filter (fun y => decide (x.f0 < y.f0)))
theorem take_filter (l : List S33) (x : S33) (n : Int) (h0 : 0 ≤ n) (h1 : n ≤ (l.length : Int)) (hlo : ∀ a, 0 ≤ a → a < n → ¬ (rd_T33 l a).f0 ≥ x.f0) (hhi : ∀ a, n ≤ a → a < (l.length : Int) → (rd_T33 l a).f0 ≥ x.f0) :
    l.filter (fun y => decide (y.f0 < x.f0)) = l.take n.toNat := by
  have a1 : (l.take n.toNat).filter (fun y => decide (y.f0 < x.f0)) = l.take n.toNat := by
    refine List.filter_eq_self.2 (fun y hy => ?_)
    obtain ⟨i, hi, e⟩ := List.mem_iff_getElem.1 hy
    have hi2 : i < l.length ∧ i < n.toNat := by rw [List.length_take] at hi; omega
    have := hlo (i : Int) (by omega) (by omega)
    rw [rd33 l i hi2.1] at this
    rw [List.getElem_take] at e
    rw [← e]
    exact decide_eq_true (by omega)
  have a2 : (l.drop n.toNat).filter (fun y => decide (y.f0 < x.f0)) = [] := by
    refine List.filter_eq_nil_iff.2 (fun y hy => ?_)
    obtain ⟨i, hi, e⟩ := List.mem_iff_getElem.1 hy
    have hi2 : n.toNat + i < l.length := by rw [List.length_drop] at hi; omega
    have := hhi ((n.toNat + i : Nat) : Int) (by omega) (by omega)
    rw [rd33 l _ hi2] at this
    rw [List.getElem_drop] at e
    rw [← e]
    simpa using this
  have a3 := congrArg (List.filter (fun y => decide (y.f0 < x.f0))) (List.take_append_drop n.toNat l)
  rw [List.filter_append, a1, a2, List.append_nil] at a3
  exact a3.symm
theorem drop_filter (l : List S33) (x : S33) (m : Int) (h0 : 0 ≤ m) (h1 : m ≤ (l.length : Int)) (hlo : ∀ a, 0 ≤ a → a < m → (rd_T33 l a).f0 ≤ x.f0) (hhi : ∀ a, m ≤ a → a < (l.length : Int) → x.f0 < (rd_T33 l a).f0) :
    l.filter (fun y => decide (x.f0 < y.f0)) = l.drop m.toNat := by
  have a1 : (l.take m.toNat).filter (fun y => decide (x.f0 < y.f0)) = [] := by
    refine List.filter_eq_nil_iff.2 (fun y hy => ?_)
    obtain ⟨i, hi, e⟩ := List.mem_iff_getElem.1 hy
    have hi2 : i < l.length ∧ i < m.toNat := by rw [List.length_take] at hi; omega
    have := hlo (i : Int) (by omega) (by omega)
    rw [rd33 l i hi2.1] at this
    rw [List.getElem_take] at e
    rw [← e]
    simpa using this
  have a2 : (l.drop m.toNat).filter (fun y => decide (x.f0 < y.f0)) = l.drop m.toNat := by
    refine List.filter_eq_self.2 (fun y hy => ?_)
    obtain ⟨i, hi, e⟩ := List.mem_iff_getElem.1 hy
    have hi2 : m.toNat + i < l.length := by rw [List.length_drop] at hi; omega
    have := hhi ((m.toNat + i : Nat) : Int) (by omega) (by omega)
    rw [rd33 l _ hi2] at this
    rw [List.getElem_drop] at e
    rw [← e]
    exact decide_eq_true this
  have a3 := congrArg (List.filter (fun y => decide (x.f0 < y.f0))) (List.take_append_drop m.toNat l)
  rw [List.filter_append, a1, a2, List.nil_append] at a3
  exact a3.symm
/-- The second copying loop: what stands behind the place. -/
theorem put_tail (m : List S33) (hm : (m.length : Int) ≤ 37) (hf : ∀ y, y ∈ m → (y.f2.length : Int) ≤ 37) (base : List S33) (hb : (base.length : Int) ≤ 50) : ∀ i, 0 ≤ i → i ≤ (m.length : Int) →
    Ev (fun k => lot_Put.l1 k (base ++ m.take i.toNat) m (m.length : Int) i) (if ((base ++ m).length : Int) > 32 then ([], 8) else (base ++ m, 0)) := by
  refine count_up 0 (m.length : Int) _ ?_ ?_
  · rw [show ((m.length : Int)).toNat = m.length from by omega, List.take_length]
    refine Ev.step (fun k => lot_Put.l1.eq_2 ..) (evn (by omega) ?_)
    by_cases c : ((base ++ m).length : Int) > 32
    · rw [show (if ((base ++ m).length : Int) > 32 then (([] : List S33), (8 : Int)) else (base ++ m, 0)) = ([], 8) from if_pos c]; exact evp c (Ev.now _)
    · rw [show (if ((base ++ m).length : Int) > 32 then (([] : List S33), (8 : Int)) else (base ++ m, 0)) = (base ++ m, 0) from if_neg c]; exact evn c (Ev.now _)
  · intro i h0 h1 ih
    rw [take_next h0 h1, ← List.append_assoc, ← w64_succ h0 h1 (by omega)] at ih
    have hl : (base ++ m.take i.toNat).length < 2932031007402 := by
      rw [List.length_append, List.length_take]; omega
    exact Ev.step (fun k => lot_Put.l1.eq_2 ..) (evp h1 (evp h0 (evp h1 (evb (evc (fun _ => rfl) (own_eq _ (hf _ (rd33_mem h0 h1)))) (evp hl ih)))))
theorem put_head (m : List S33) (hm : (m.length : Int) ≤ 37) (hf : ∀ y, y ∈ m → (y.f2.length : Int) ≤ 37) (x : S33) (hx : (x.f2.length : Int) ≤ 37) (e : Bool) (rest : List S33) (hr : (rest.length : Int) ≤ 37) (hfr : ∀ y, y ∈ rest → (y.f2.length : Int) ≤ 37) : ∀ i, 0 ≤ i → i ≤ (m.length : Int) →
    Ev (fun k => lot_Put.l0 k e rest (m.take i.toNat) m (m.length : Int) i x.f0 x.f1.f0 x.f1.f1 x.f2) (if ((m ++ ((if e = true then [] else [x]) ++ rest)).length : Int) > 32 then ([], 8) else (m ++ ((if e = true then [] else [x]) ++ rest), 0)) := by
  refine count_up 0 (m.length : Int) _ ?_ ?_
  · rw [show ((m.length : Int)).toNat = m.length from by omega, List.take_length]
    refine Ev.step (fun k => lot_Put.l0.eq_2 ..) (evn (by omega) ?_)
    cases e with
    | true =>
      refine evp rfl (Ev.step (fun k => lot_Put.j5.eq_2 ..) ?_)
      have := put_tail rest hr hfr m (by omega) 0 (by omega) (by omega)
      rw [show (0 : Int).toNat = 0 from rfl, List.take_zero, List.append_nil] at this
      exact this
    | false =>
      refine evn (by simp) (evb (evc (fun _ => rfl) (own_eq x hx)) (evp (by omega) (Ev.step (fun k => lot_Put.j5.eq_2 ..) ?_)))
      have := put_tail rest hr hfr (m ++ [x]) (by rw [List.length_append]; simp; omega) 0 (by omega) (by omega)
      rw [show (0 : Int).toNat = 0 from rfl, List.take_zero, List.append_nil, List.append_assoc] at this
      exact this
  · intro i h0 h1 ih
    rw [take_next h0 h1, ← w64_succ h0 h1 (by omega)] at ih
    have hl : (m.take i.toNat).length < 2932031007402 := by
      rw [List.length_take]; omega
    exact Ev.step (fun k => lot_Put.l0.eq_2 ..) (evp h1 (evp h0 (evp h1 (evb (evc (fun _ => rfl) (own_eq _ (hf _ (rd33_mem h0 h1)))) (evp hl ih)))))
theorem lot_placed (l : List S33) (hn : (l.length : Int) ≤ 37) (hu : Up l) (hf : ∀ y, y ∈ l → (y.f2.length : Int) ≤ 37) (x : S33) (hx : (x.f2.length : Int) ≤ 37) (e : Bool) :
    Ev (fun k => lot_Put.j1 k e l x.f0 x.f1.f0 x.f1.f1 x.f2) (if ((putL l x e).length : Int) > 32 then ([], 8) else (putL l x e, 0)) := by
  obtain ⟨n, s1, s2, s3, s4, s5⟩ := search_put l hn hu x
  have head : ∀ rest : List S33, l.filter (fun y => decide (x.f0 < y.f0)) = rest → (rest.length : Int) ≤ 37 → (∀ y, y ∈ rest → (y.f2.length : Int) ≤ 37) →
      Ev (fun k => lot_Put.j3 k e n rest l x.f0 x.f1.f0 x.f1.f1 x.f2) (if ((putL l x e).length : Int) > 32 then ([], 8) else (putL l x e, 0)) := by
    intro rest hr h1 h2
    unfold putL
    rw [hr, take_filter l x n s2 s3 s4 s5]
    have hlt : ((l.take n.toNat).length : Int) ≤ 37 := by rw [List.length_take]; omega
    have := put_head (l.take n.toNat) hlt (fun y hy => hf y (List.mem_of_mem_take hy)) x hx e rest h1 h2 0 (by omega) (by omega)
    rw [show (0 : Int).toNat = 0 from rfl, List.take_zero] at this
    exact Ev.step (fun k => lot_Put.j3.eq_2 ..) (evp s2 (evp s3 (evb (Ev.now _) this)))
  have dl : ∀ m : Nat, ((l.drop m).length : Int) ≤ 37 := fun m => by rw [List.length_drop]; omega
  have df : ∀ m : Nat, ∀ y, y ∈ l.drop m → (y.f2.length : Int) ≤ 37 := fun m y hy => hf y (List.mem_of_mem_drop hy)
  refine Ev.step (fun k => lot_Put.j1.eq_2 ..) (evb s1 (evp s2 (evp s3 (evb (Ev.now _) ?_))))
  by_cases c : n < (l.length : Int)
  · by_cases c2 : (rd_T33 l n).f0 = x.f0
    · refine evp c (Ev.step (fun k => lot_Put.j2.eq_2 ..) (evp (by simpa using c2) ?_))
      rw [w64_succ s2 c (by omega)]
      refine evp (by omega) (evp (by omega) (head _ (drop_filter l x (n + 1) (by omega) (by omega) (fun a h0 h1 => ?_) (fun a h0 h1 => ?_)) (dl _) (df _)))
      · by_cases ea : a = n
        · rw [ea]; omega
        · have := s4 a h0 (by omega); omega
      · have := up_lt hu s2 (by omega : n < a) h1; omega
    · refine evp c (Ev.step (fun k => lot_Put.j2.eq_2 ..) (evn (by simpa using c2) ?_))
      refine head _ (drop_filter l x n s2 s3 (fun a h0 h1 => ?_) (fun a h0 h1 => ?_)) (dl _) (df _)
      · have := s4 a h0 h1; omega
      · by_cases ea : a = n
        · have := s5 n (by omega) c; rw [ea]; omega
        · have := up_lt hu s2 (by omega : n < a) h1; have := s5 n (by omega) c; omega
  · refine evn c (Ev.step (fun k => lot_Put.j2.eq_2 ..) (evn (by simp) ?_))
    refine head _ (drop_filter l x n s2 s3 (fun a h0 h1 => ?_) (fun a h0 h1 => ?_)) (dl _) (df _)
    · have := s4 a h0 h1; omega
    · omega
theorem set_done (l : List S33) (hn : (l.length : Int) ≤ 37) (hf : ∀ y, y ∈ l → (y.f2.length : Int) ≤ 37) (x : S33) : ∀ i, 0 ≤ i → i ≤ (l.length : Int) → ∀ out : List S33, (out.length : Int) ≤ i + 1 →
    Ev (fun k => spileref22_Set.l0 k l out true i x.f0 x.f1.f0 x.f1.f1 x.f2) (out ++ (l.drop i.toNat).filter (fun y => decide (¬ y.f0 = x.f0))) := by
  refine count_up 0 (l.length : Int) _ ?_ ?_
  · intro out ho
    rw [show ((l.length : Int)).toNat = l.length from by omega, List.drop_length]
    exact Ev.step (fun k => spileref22_Set.l0.eq_2 ..) (evn (by omega) (evp rfl (evr (by simp))))
  · intro i h0 h1 ih out ho
    rw [drop_next h0 h1, List.filter_cons]
    refine Ev.step (fun k => spileref22_Set.l0.eq_2 ..) (evp h1 (evp rfl (Ev.step (fun k => spileref22_Set.j1.eq_2 ..) (evn (by simp) (evp h0 (evp h1 ?_))))))
    by_cases c : (rd_T33 l i).f0 = x.f0
    · have := ih out (by omega)
      rw [if_neg (by simpa using c), w64_succ h0 h1 (by omega)]
      exact evp c this
    · have := ih (out ++ [rd_T33 l i]) (by rw [List.length_append]; simp; omega)
      rw [List.append_assoc] at this
      rw [if_pos (by simpa using c), w64_succ h0 h1 (by omega)]
      exact evn c (evb (evc (fun _ => rfl) (copy_eq _ (hf _ (rd33_mem h0 h1)))) (evp (by omega) this))
def setS : List S33 → S33 → List S33
  | [], x => [x]
  | y :: s, x => if y.f0 ≥ x.f0 then x :: (y :: s).filter (fun y => decide (¬ y.f0 = x.f0)) else y :: setS s x
theorem set_open (l : List S33) (hn : (l.length : Int) ≤ 37) (hf : ∀ y, y ∈ l → (y.f2.length : Int) ≤ 37) (x : S33) (hx : (x.f2.length : Int) ≤ 37) : ∀ i, 0 ≤ i → i ≤ (l.length : Int) → ∀ out : List S33, (out.length : Int) ≤ i →
    Ev (fun k => spileref22_Set.l0 k l out false i x.f0 x.f1.f0 x.f1.f1 x.f2) (out ++ setS (l.drop i.toNat) x) := by
  refine count_up 0 (l.length : Int) _ ?_ ?_
  · intro out ho
    rw [show ((l.length : Int)).toNat = l.length from by omega, List.drop_length]
    exact Ev.step (fun k => spileref22_Set.l0.eq_2 ..) (evn (by omega) (evn (by simp) (evb (evc (fun _ => rfl) (copy_eq x hx)) (evp (by omega) (evr rfl)))))
  · intro i h0 h1 ih out ho
    rw [drop_next h0 h1]
    refine Ev.step (fun k => spileref22_Set.l0.eq_2 ..) (evp h1 (evn (by simp) (evp h0 (Ev.step (fun k => spileref22_Set.j1.eq_2 ..) ?_))))
    unfold setS
    by_cases c : (rd_T33 l i).f0 ≥ x.f0
    · rw [if_pos c, List.filter_cons]
      refine evp (decide_eq_true c) (evb (evc (fun _ => rfl) (copy_eq x hx)) (evp (by omega) (evb (Ev.now _) (evp h0 (evp h1 ?_)))))
      by_cases c2 : (rd_T33 l i).f0 = x.f0
      · have := set_done l hn hf x (i + 1) (by omega) (by omega) (out ++ [x]) (by rw [List.length_append]; simp; omega)
        rw [List.append_assoc] at this
        rw [if_neg (by simpa using c2), w64_succ h0 h1 (by omega)]
        exact evp c2 this
      · have := set_done l hn hf x (i + 1) (by omega) (by omega) (out ++ [x] ++ [rd_T33 l i]) (by rw [List.length_append, List.length_append]; simp; omega)
        rw [List.append_assoc, List.append_assoc] at this
        rw [if_pos (by simpa using c2), w64_succ h0 h1 (by omega)]
        refine evn c2 (evb (evc (fun _ => rfl) (copy_eq _ (hf _ (rd33_mem h0 h1)))) (evp (by rw [List.length_append]; simp; omega) ?_))
        rw [List.append_assoc]
        exact this
    · have := ih (out ++ [rd_T33 l i]) (by rw [List.length_append]; simp; omega)
      rw [List.append_assoc] at this
      rw [if_neg c, w64_succ h0 h1 (by omega)]
      refine evn (by simpa using c) (evp h0 (evp h1 (evn (fun h => c (by omega)) (evb (evc (fun _ => rfl) (copy_eq _ (hf _ (rd33_mem h0 h1)))) (evp (by omega) this)))))
theorem ne_split : ∀ (s : List S33) (x : S33), Up s → s.filter (fun y => decide (¬ y.f0 = x.f0)) = s.filter (fun y => decide (y.f0 < x.f0)) ++ s.filter (fun y => decide (x.f0 < y.f0))
  | [], _, _ => rfl
  | y :: s, x, h => by
    obtain ⟨h1, h2⟩ := List.pairwise_cons.1 h
    have ih := ne_split s x h2
    by_cases c : y.f0 < x.f0
    · rw [List.filter_cons_of_pos (by simp; omega), List.filter_cons_of_pos (by simpa using c), List.filter_cons_of_neg (by simp; omega), ih]; rfl
    · have e1 : (y :: s).filter (fun y => decide (y.f0 < x.f0)) = [] := by
        refine List.filter_eq_nil_iff.2 (fun z hz => ?_)
        rcases List.mem_cons.1 hz with rfl | hz
        · simpa using c
        · have := h1 z hz; simp; omega
      rw [e1, List.nil_append]
      refine List.filter_congr (fun z hz => ?_)
      have : y.f0 ≤ z.f0 := by
        rcases List.mem_cons.1 hz with rfl | hz
        · omega
        · exact Int.le_of_lt (h1 z hz)
      exact decide_eq_decide.2 (by omega)
theorem setS_eq : ∀ (s : List S33) (x : S33), Up s → setS s x = putL s x false
  | [], _, _ => rfl
  | y :: s, x, h => by
    obtain ⟨h1, h2⟩ := List.pairwise_cons.1 h
    have ih := setS_eq s x h2
    unfold setS
    by_cases c : y.f0 ≥ x.f0
    · rw [if_pos c, ne_split _ x h]
      have e1 : (y :: s).filter (fun y => decide (y.f0 < x.f0)) = [] := by
        refine List.filter_eq_nil_iff.2 (fun z hz => ?_)
        rcases List.mem_cons.1 hz with rfl | hz
        · simp; omega
        · have := h1 z hz; simp; omega
      unfold putL
      rw [e1]
      rfl
    · rw [if_neg c, ih]
      unfold putL
      rw [List.filter_cons_of_pos (by simp; omega), List.filter_cons_of_neg (a := y) (by simp; omega)]
      rfl
def emptyB (x : S33) : Bool := (x.f1.f0 == 0 && (x.f1.f1 == 0)) && ((x.f2.length : Int) == 0)
theorem empty_eq (x : S33) : spileref22_Empty.f x.f0 x.f1.f0 x.f1.f1 x.f2 = some (emptyB x) := by
  unfold spileref22_Empty.f emptyB
  by_cases c : (x.f1.f0 == 0 && (x.f1.f1 == 0)) = true
  · rw [if_pos c, c]; rfl
  · rw [if_neg c, Bool.eq_false_iff.2 c]; rfl
theorem ref_placed (l : List S33) (hn : (l.length : Int) ≤ 37) (hu : Up l) (hf : ∀ y, y ∈ l → (y.f2.length : Int) ≤ 37) (x : S33) (hx : (x.f2.length : Int) ≤ 37) :
    Ev (fun k => spileref22_Set.f k l x.f0 x.f1.f0 x.f1.f1 x.f2) (putL l x (emptyB x)) := by
  refine evb (evc (fun _ => rfl) (empty_eq x)) ?_
  cases emptyB x with
  | true =>
    have := set_done l hn hf x 0 (by omega) (by omega) [] (by simp)
    rw [show (0 : Int).toNat = 0 from rfl, List.drop_zero, List.nil_append, ne_split l x hu] at this
    exact this
  | false =>
    have := set_open l hn hf x hx 0 (by omega) (by omega) [] (by simp)
    rw [show (0 : Int).toNat = 0 from rfl, List.drop_zero, List.nil_append, setS_eq l x hu] at this
    exact this
theorem fault_one (x : S33) (h : Wf33 x) : ∃ e, Ev (fun k => spileref22_One.f k x.f0 x.f1.f0 x.f1.f1 x.f2) e ∧ (IdP x → Ev (fun k => lot_fault.f k [x] 0) e) ∧ (¬ IdP x → Ev (fun k => lot_fault.f k [x] 0) 2) := by
  obtain ⟨e, o1, o2⟩ := one_both x h
  have r0 : rd_T33 [x] 0 = x := rfl
  have h0 : (0 : Int) ≤ 0 := by omega
  have h1 : (0 : Int) < (([x] : List S33).length : Int) := by simp
  refine ⟨e, o1, fun hi => ?_, fun hi => ?_⟩
  · have c1 : ¬ (rd_T33 [x] 0).f0 < 1 := by rw [r0]; unfold IdP at hi; omega
    have c2 : ¬ decide ((rd_T33 [x] 0).f0 > 1073741824) = true := by rw [r0]; unfold IdP at hi; simp; omega
    exact evp h0 (evp h1 (evn c1 (Ev.step (fun k => lot_fault.j0.eq_2 ..) (evn c2 (evn (by omega) o2)))))
  · by_cases c1 : (rd_T33 [x] 0).f0 < 1
    · exact evp h0 (evp h1 (evp c1 (Ev.step (fun k => lot_fault.j0.eq_2 ..) (evp rfl (Ev.now _)))))
    · have c2 : decide ((rd_T33 [x] 0).f0 > 1073741824) = true := by rw [r0] at c1 ⊢; unfold IdP at hi; simp; omega
      exact evp h0 (evp h1 (evn c1 (Ev.step (fun k => lot_fault.j0.eq_2 ..) (evp c2 (Ev.now _)))))
theorem empty_one (x : S33) (h : emptyB x = true) {e : Int} (he : Ev (fun k => spileref22_One.f k x.f0 x.f1.f0 x.f1.f1 x.f2) e) : e = 1 := by
  unfold emptyB at h
  simp only [Bool.and_eq_true, beq_iff_eq] at h
  refine ev_unique he ?_
  refine evb (a := true) (evc (fun _ => rfl) ?_) (evp rfl (Ev.step (fun k => spileref22_One.j0.eq_2 ..) (evp (by simpa using h.1.2) (Ev.now _))))
  rw [h.1.1, h.1.2]
  rfl
def PutOK (l : List S33) (x : S33) : Prop := RightL l ∧ IdP x ∧ (emptyB x = true ∨ Fine x) ∧ ((putL l x (emptyB x)).length : Int) ≤ 32
/-- Both sides of Put. -/
theorem put_both (l : List S33) (hn : (l.length : Int) ≤ 37) (hw : ∀ i, 0 ≤ i → i < (l.length : Int) → Wf33 (rd_T33 l i)) (hf : ∀ y, y ∈ l → (y.f2.length : Int) ≤ 37) (x : S33) (hwx : Wf33 x) (hx : (x.f2.length : Int) ≤ 37) :
    ∃ r, Ev (fun k => lot_Put.f k l x.f0 x.f1.f0 x.f1.f1 x.f2) r ∧ Ev (fun k => spileref22_Put.f k l x.f0 x.f1.f0 x.f1.f1 x.f2) r ∧
      (PutOK l x → r = (putL l x (emptyB x), 0)) ∧ (¬ PutOK l x → r.1 = [] ∧ r.2 ≠ 0) := by
  obtain ⟨e, o1, o2, o3⟩ := fault_one x hwx
  obtain ⟨b, b1, b2, b3⟩ := right_iff l (by omega) hw
  have begin_ : ∀ r, Ev (fun k => lot_Put.j0 k (emptyB x) l x.f0 x.f1.f0 x.f1.f1 x.f2) r → Ev (fun k => lot_Put.f k l x.f0 x.f1.f0 x.f1.f1 x.f2) r := by
    intro r h
    unfold emptyB at h
    by_cases c : (x.f1.f0 == 0 && (x.f1.f1 == 0)) = true
    · rw [c] at h; exact evp c h
    · rw [Bool.eq_false_iff.2 c] at h; exact evn c h
  have fr : ∀ e' : Int, Ev (fun k => lot_fault.f k [x] 0) e' → ∀ r, Ev (fun k => (lot_right.f k l).bind fun t272 => (if t272 = true then (if e' = 2 then (some (([] : List (S33)), e')) else (if emptyB x = true then (lot_Put.j1 k (emptyB x) l x.f0 x.f1.f0 x.f1.f1 x.f2) else (if e' = 0 then (lot_Put.j1 k (emptyB x) l x.f0 x.f1.f0 x.f1.f1 x.f2) else (some (([] : List (S33)), e'))))) else (some (([] : List (S33)), 1)))) r → Ev (fun k => lot_Put.f k l x.f0 x.f1.f0 x.f1.f1 x.f2) r := by
    intro e' he r h
    exact begin_ r (Ev.step (fun k => lot_Put.j0.eq_2 ..) (evb he h))
  have fe : ∃ e', Ev (fun k => lot_fault.f k [x] 0) e' ∧ (IdP x → e' = e) ∧ (¬ IdP x → e' = 2) := by
    by_cases c : IdP x
    · exact ⟨e, o2 c, fun _ => rfl, fun h => absurd c h⟩
    · exact ⟨2, o3 c, fun h => absurd h c, fun _ => rfl⟩
  obtain ⟨e', g1, g2, g3⟩ := fe
  cases b with
  | false =>
    have hnr : ¬ RightL l := fun h => by have := b3.2 h; cases this
    exact ⟨([], 1), fr e' g1 _ (evb b1 (evn (by simp) (Ev.now _))), evb b2 (evn (by simp) (Ev.now _)), fun h => absurd h.1 hnr, fun _ => ⟨rfl, by decide⟩⟩
  | true =>
    have hr := b3.1 rfl
    have hp1 := lot_placed l hn hr.2.1 hf x hx (emptyB x)
    have hp2 := ref_placed l hn hr.2.1 hf x hx
    by_cases c : IdP x
    · have hid : Ev (fun _ : Nat => spileref22_ID.f x.f0) true := evc (fun _ => rfl) (by rw [id_eq]; exact congrArg some (decide_eq_true c))
      have hee := g2 c
      subst hee
      by_cases ok : emptyB x = true ∨ e' = 0
      · have ok2 : ¬ e' = 2 := by
          rcases ok with h | h
          · have := empty_one x h o1; omega
          · omega
        have lotside : ∀ r, Ev (fun k => lot_Put.j1 k (emptyB x) l x.f0 x.f1.f0 x.f1.f1 x.f2) r → Ev (fun k => lot_Put.f k l x.f0 x.f1.f0 x.f1.f1 x.f2) r := by
          intro r h
          refine fr e' g1 _ (evb b1 (evp rfl (evn ok2 ?_)))
          by_cases c2 : emptyB x = true
          · exact evp c2 h
          · exact evn c2 (evp (ok.resolve_left c2) h)
        have refside : ∀ r, Ev (fun k => spileref22_Put.j0 k l e' false x.f0 x.f1.f0 x.f1.f1 x.f2) r → Ev (fun k => spileref22_Put.f k l x.f0 x.f1.f0 x.f1.f1 x.f2) r := by
          intro r h
          refine evb b2 (evp rfl (evb hid (evp rfl (evb o1 ?_))))
          by_cases c2 : e' = 0
          · exact evp c2 h
          · refine evn c2 (evb (evc (fun _ => rfl) (empty_eq x)) ?_)
            rw [ok.resolve_right c2]
            exact h
        have okf : emptyB x = true ∨ Fine x := ok.imp id (fun h => by subst h; exact o1)
        by_cases c3 : ((putL l x (emptyB x)).length : Int) > 32
        · rw [if_pos c3] at hp1
          exact ⟨([], 8), lotside _ hp1, refside _ (Ev.step (fun k => spileref22_Put.j0.eq_2 ..) (evn (by simp) (evb hp2 (evp c3 (Ev.now _))))), fun h => absurd h.2.2.2 (by omega), fun _ => ⟨rfl, by decide⟩⟩
        · rw [if_neg c3] at hp1
          exact ⟨(putL l x (emptyB x), 0), lotside _ hp1, refside _ (Ev.step (fun k => spileref22_Put.j0.eq_2 ..) (evn (by simp) (evb hp2 (evn c3 (Ev.now _))))), fun _ => rfl, fun h => absurd ⟨hr, c, okf, by omega⟩ h⟩
      · have c2 : ¬ emptyB x = true := fun h => ok (.inl h)
        have c3 : ¬ e' = 0 := fun h => ok (.inr h)
        refine ⟨([], e'), fr e' g1 _ (evb b1 (evp rfl ?_)), evb b2 (evp rfl (evb hid (evp rfl (evb o1 (evn c3 (evb (evc (fun _ => rfl) (empty_eq x)) ?_)))))), fun h => ?_, fun _ => ⟨rfl, c3⟩⟩
        · by_cases c4 : e' = 2
          · exact evp c4 (Ev.now _)
          · exact evn c4 (evn c2 (evn c3 (Ev.now _)))
        · rw [Bool.eq_false_iff.2 c2]
          exact Ev.step (fun k => spileref22_Put.j0.eq_2 ..) (evp rfl (Ev.now _))
        · rcases h.2.2.1 with h | h
          · exact absurd h c2
          · exact absurd (ev_unique o1 h) c3
    · have hid : Ev (fun _ : Nat => spileref22_ID.f x.f0) false := evc (fun _ => rfl) (by rw [id_eq]; exact congrArg some (decide_eq_false c))
      have hee := g3 c
      subst hee
      exact ⟨([], 2), fr 2 g1 _ (evb b1 (evp rfl (evp rfl (Ev.now _)))), evb b2 (evp rfl (evb hid (evn (by simp) (Ev.now _)))), fun h => absurd h.2.1 c, fun _ => ⟨rfl, by decide⟩⟩
/-- Lists that are alike are the same. -/
theorem same_ev (l : List S33) (hn : (l.length : Int) ≤ 9223372036854775807) (hf : ∀ y, y ∈ l → (y.f2.length : Int) ≤ 37) : Ev (fun k => spileref22_Same.f k l l) true := by
  refine evp rfl (count_up 0 (l.length : Int) (fun i => Ev (fun k => spileref22_Same.l0 k l l i) true) ?_ ?_ 0 (by omega) (by omega))
  · exact Ev.step (fun k => spileref22_Same.l0.eq_2 ..) (evn (by omega) (Ev.now _))
  · intro i h0 h1 ih
    rw [← w64_succ h0 h1 hn] at ih
    have := hf _ (rd33_mem h0 h1)
    exact Ev.step (fun k => spileref22_Same.l0.eq_2 ..) (evp h1 (evp h0 (evp h1 (evb (sameLot_ev _ _ _ _ (by omega)) (evp rfl ih)))))
theorem putL_mem {l : List S33} {x : S33} {e : Bool} {y : S33} (h : y ∈ putL l x e) : y = x ∨ y ∈ l := by
  unfold putL at h
  rcases List.mem_append.1 h with h | h
  · exact .inr (List.mem_filter.1 h).1
  · rcases List.mem_append.1 h with h | h
    · cases e with
      | true => simp at h
      | false => simp at h; exact .inl h
    · exact .inr (List.mem_filter.1 h).1
theorem putL_len (l : List S33) (x : S33) (e : Bool) : ((putL l x e).length : Int) ≤ 2 * (l.length : Int) + 1 := by
  unfold putL
  have a := List.length_filter_le (fun y => decide (y.f0 < x.f0)) l
  have b := List.length_filter_le (fun y => decide (x.f0 < y.f0)) l
  rw [List.length_append, List.length_append]
  cases e with
  | true => simp; omega
  | false => simp; omega
theorem wf_all (l : List S33) (h : l.length ≤ maxLen ∧ ∀ x, x ∈ l → ok33 x) : ∀ i, 0 ≤ i → i < (l.length : Int) → Wf33 (rd_T33 l i) := by
  intro i h0 h1
  obtain ⟨_, ⟨a, b⟩, c, _⟩ := h.2 _ (rd33_mem h0 h1)
  exact ⟨wf64 a, wf64 b, len_le c⟩
theorem few_all (l : List S33) (h : ∀ i, 0 ≤ i → i < (l.length : Int) → Few12 (rd_T33 l i).f2) : ∀ y, y ∈ l → (y.f2.length : Int) ≤ 37 := by
  intro y hy
  obtain ⟨i, h0, h1, rfl⟩ := mem_rd33 hy
  have := h i h0 h1
  unfold Few12 at this
  omega
end Go.Proofs.YtgjoenoknknoiaaDoor.PL
namespace Go.Proofs.YtgjoenoknknoiaaDoor.Pure
open Go.RowKit Go.Proofs.YtgjoenoknknoiaaDoorW.PrintWords Go.Proofs.YtgjoenoknknoiaaDoorW.PrintLast Go.Proofs.YtgjoenoknknoiaaDoorW.PrintMore Go.Proofs.YtgjoenoknknoiaaDoor.Pr Go.Proofs.YtgjoenoknknoiaaDoor.Opn Go.Proofs.YtgjoenoknknoiaaDoor.X Go.Proofs.YtgjoenoknknoiaaDoor.PL
theorem copyAll_ev (l : List S33) (hn : (l.length : Int) ≤ 37) (hf : ∀ y, y ∈ l → (y.f2.length : Int) ≤ 37) : Ev (fun k => spileref22_CopyAll.f k l) l := by
  have key : ∀ i, 0 ≤ i → i ≤ (l.length : Int) → Ev (fun k => spileref22_CopyAll.l0 k l (l.take i.toNat) i) l := by
    refine count_up 0 (l.length : Int) _ ?_ ?_
    · refine Ev.step (fun k => spileref22_CopyAll.l0.eq_2 ..) (evn (by omega) (evr ?_))
      rw [Int.toNat_natCast, List.take_length]
    · intro i h0 h1 ih
      rw [take_next h0 h1, ← w64_succ h0 h1 (by omega)] at ih
      have hm := rd33_mem h0 h1
      have hc : Ev (fun _ : Nat => spileref22_Copy.f (rd_T33 l i).f0 (rd_T33 l i).f1.f0 (rd_T33 l i).f1.f1 (rd_T33 l i).f2) ((rd_T33 l i).f0, (rd_T33 l i).f1.f0, (rd_T33 l i).f1.f1, (rd_T33 l i).f2) := evc (fun _ => rfl) (copy_eq _ (hf _ hm))
      have hl : (l.take i.toNat).length < 2932031007402 := by rw [List.length_take]; omega
      exact Ev.step (fun k => spileref22_CopyAll.l0.eq_2 ..) (evp h1 (evp h0 (evb hc (evp hl ih))))
  exact key 0 (by omega) (by omega)
theorem set_small {y : List S33} (hf : ∀ z, z ∈ y → (z.f2.length : Int) ≤ 37) (i : Nat) (x : S33) (hx : (x.f2.length : Int) ≤ 37) : ∀ z, z ∈ y.set i x → (z.f2.length : Int) ≤ 37 := by
  intro z hz
  rcases List.mem_or_eq_of_mem_set hz with h | h
  · exact hf z h
  · rw [h]; exact hx
theorem rd33_set {y : List S33} {i : Int} (h0 : 0 ≤ i) (h1 : i < (y.length : Int)) (x : S33) : rd_T33 (y.set i.toNat x) i = x := by
  have e : i = ((i.toNat : Nat) : Int) := by omega
  have h : i.toNat < (y.set i.toNat x).length := by rw [List.length_set]; omega
  have := rd33 (y.set i.toNat x) i.toNat h
  rw [← e] at this
  rw [this, List.getElem_set_self]
/-- What is found may be changed. -/
theorem found (m : Int) (hm : m ≤ 9223372036854775807) (a b c : Int) : ∀ j, 0 ≤ j → j ≤ m → ∀ s : List S35, (s.length : Int) = m → Ev (fun k => spilelaw22_LotOwn.l2 k m j a b c s) true := by
  refine count_up 0 m _ ?_ ?_
  · intro s hs
    exact Ev.step (fun k => spilelaw22_LotOwn.l2.eq_2 ..) (evn (by omega) (Ev.now _))
  · intro j h0 h1 ih s hs
    rw [← w64_succ h0 h1 hm] at ih
    exact Ev.step (fun k => spilelaw22_LotOwn.l2.eq_2 ..) (evp h1 (evp h0 (evp (by omega) (ih _ (by rw [List.length_set]; exact hs)))))
/-- What is put may be changed. -/
theorem changed (l : List S33) (hn : (l.length : Int) ≤ 37) (hff : ∀ i, 0 ≤ i → i < (l.length : Int) → Few12 (rd_T33 l i).f2) (a b c : Int) (s : List S35) (n : Int) (hN : n ≤ 9223372036854775807) :
    ∀ i, 0 ≤ i → i ≤ n → ∀ y : List S33, (y.length : Int) = n → (∀ z, z ∈ y → (z.f2.length : Int) ≤ 37) → Ev (fun k => spilelaw22_LotOwn.l0 k l y n i a b c s) true := by
  refine count_up 0 n _ ?_ ?_
  · intro y hy hf
    obtain ⟨r, q1, _, q3⟩ := find_both l (by omega) hff a 0 (by omega) (by omega)
    refine Ev.step (fun k => spilelaw22_LotOwn.l0.eq_2 ..) (evn (by omega) (evb (g := fun k => lot_Find.f k l a) q1 ?_))
    by_cases o : r.2.2.2.2 = true
    · exact evp o (found _ (by omega) _ _ _ 0 (by omega) (by omega) _ rfl)
    · exact evn o (Ev.now _)
  · intro i h0 h1 ih y hy hf
    rw [← w64_succ h0 h1 hN] at ih
    have hyi : i < (y.length : Int) := by omega
    have hm := hf _ (rd33_mem h0 hyi)
    have inner : ∀ j, 0 ≤ j → j ≤ ((rd_T33 y i).f2.length : Int) → ∀ z : List S33, (z.length : Int) = n → ((rd_T33 z i).f2.length : Int) = ((rd_T33 y i).f2.length : Int) → (∀ u, u ∈ z → (u.f2.length : Int) ≤ 37) →
        Ev (fun k => spilelaw22_LotOwn.l1 k l z i n i ((rd_T33 y i).f2.length : Int) j a b c s) true := by
      refine count_up 0 _ _ ?_ ?_
      · intro z hz _ hfz
        exact Ev.step (fun k => spilelaw22_LotOwn.l1.eq_2 ..) (evn (by omega) (ih z hz hfz))
      · intro j g0 g1 ihj z hz hzl hfz
        rw [← w64_succ g0 g1 (by omega)] at ihj
        have hzi : i < (z.length : Int) := by omega
        refine Ev.step (fun k => spilelaw22_LotOwn.l1.eq_2 ..) (evp g1 (evp h0 (evp hzi (evp g0 (evp (by omega) (ihj _ ?_ ?_ ?_))))))
        · rw [List.length_set]; exact hz
        · rw [rd33_set h0 hzi, List.length_set]; exact hzl
        · exact set_small hfz _ _ (by rw [List.length_set]; omega)
    exact Ev.step (fun k => spilelaw22_LotOwn.l0.eq_2 ..) (evp h1 (evp h0 (evp hyi (inner 0 (by omega) (by omega) y hy rfl hf))))
theorem LotOwn : lotOwnPure := by
  intro l a b c s hl ha hb hc hs
  refine Ev.rounds ?_
  have hn := len_le hl.1
  obtain ⟨t, f1, f2⟩ := few_ev l hn
  have hw := wf_all l hl
  have haw : Ev (fun _ : Nat => spilelaw22_awake.f) true := Ev.now _
  have hwx : Wf33 (⟨a, ⟨b, c⟩, s⟩ : S33) := ⟨wf64 hb, wf64 hc, len_le hs.1⟩
  cases t with
  | false => exact evb haw (evp rfl (evb f1 (evn (by simp) (Ev.step (fun k => spilelaw22_LotOwn.j0.eq_2 ..) (evp rfl (Ev.now _))))))
  | true =>
    obtain ⟨g1, g2⟩ := f2 rfl
    have hf := few_all l g2
    by_cases c1 : Few12 s
    · have hx : (s.length : Int) ≤ 37 := by unfold Few12 at c1; omega
      refine evb haw (evp rfl (evb f1 (evp rfl (evb (a := true) (evc (fun _ => rfl) (by rw [fewShares_eq, decide_eq_true c1])) (Ev.step (fun k => spilelaw22_LotOwn.j0.eq_2 ..) (evn (by simp) ?_))))))
      have hcx : Ev (fun _ : Nat => spileref22_Copy.f a b c s) (a, b, c, s) := evc (fun _ => rfl) (copy_eq (⟨a, ⟨b, c⟩, s⟩ : S33) hx)
      refine evb (copyAll_ev l g1 hf) (evb hcx (evb (same_ev l (by omega) hf) (evb (sameLot_ev a b c s (by omega)) (evp rfl (evp rfl ?_)))))
      obtain ⟨r, r1, _, r3, r4⟩ := put_both l g1 hw hf (⟨a, ⟨b, c⟩, s⟩ : S33) hwx hx
      refine evb r1 ?_
      by_cases ok : PutOK l (⟨a, ⟨b, c⟩, s⟩ : S33)
      · rw [r3 ok]
        have hlen := putL_len l (⟨a, ⟨b, c⟩, s⟩ : S33) (emptyB (⟨a, ⟨b, c⟩, s⟩ : S33))
        refine evp rfl (changed l g1 g2 a b c s _ (by show ((putL l _ _).length : Int) ≤ _; omega) 0 (by omega) (by omega) _ rfl (fun y hy => ?_))
        rcases putL_mem hy with e | e
        · rw [e]; exact hx
        · exact hf y e
      · obtain ⟨e1, e2⟩ := r4 ok
        exact evn e2 (evr (by rw [e1]; rfl))
    · exact evb haw (evp rfl (evb f1 (evp rfl (evb (a := false) (evc (fun _ => rfl) (by rw [fewShares_eq, decide_eq_false c1])) (Ev.step (fun k => spilelaw22_LotOwn.j0.eq_2 ..) (evp rfl (Ev.now _)))))))
end Go.Proofs.YtgjoenoknknoiaaDoor.Pure
namespace Go.Proofs.YtgjoenoknknoiaaDoor.lotOwn
open Go Go.ChangeShapes Go.WideShapes Go.ChangeAt Go.RowKit
open Go.ChangeMaps (open_string shut_string)
open Go.Proofs.YtgjoenoknknoiaaDoorW.PrintWords Go.Proofs.YtgjoenoknknoiaaDoor.O Go.Proofs.YtgjoenoknknoiaaDoor.Opn Go.Proofs.YtgjoenoknknoiaaDoor.Pr Go.Proofs.YtgjoenoknknoiaaDoor.X
theorem own : ownKnob Tryd.prog.godebug = none := by kernel_rfl
theorem laidOut : laidOutB Tryd.prog = true := by kernel_rfl
abbrev laidL : List (String × DataW Unit) := [("math/bits.deBruijn32tab", Rows.laid_math_bits_deBruijn32tab), ("math/bits.deBruijn64tab", Rows.laid_math_bits_deBruijn64tab), ("internal/strconv.uint64pow10", Rows.laid_internal_strconv_uint64pow10)]
set_option maxRecDepth 100000 in
theorem lifted (os : Os) (started : os.Started) (H : Type) (enc : TypeId × Value → H)
    (hwit : ∀ args : Array Value, laidMetH Tryd.prog laidL ((World.doorLaid Tryd.prog 400 os).forCall (fun _ _ => 0) ⟨#[], args, []⟩).memory) :
    ReturnsInHanded {} Tryd.checked os 7 .any (fun w args => (Rows.lotOwnSpec.pre enc Tryd.prog Tryd.f7 [] false w args ∧ laidMetH Tryd.prog laidL w) ∧ sizedMet enc Tryd.prog Tryd.f7 (OpenSpec.ofChange Rows.lotOwnSpec) false w args)
      (Rows.lotOwnSpec.post enc Tryd.prog Tryd.f7 false true false false) := by
  refine returnsInHanded_of_change_and (C := Tryd.checked) (X := (fun w _ => laidMetH Tryd.prog laidL w)) (fun _ _ _ hh h => h.of_heap hh) own started (by kernel_rfl) Tryd.func7
    (ChangeSpec.witness_shaped (enc := enc) (C := Tryd.checked) (os := os) (X := (fun w _ => laidMetH Tryd.prog laidL w)) false (World.doorLaid Tryd.prog 400 os) #[.slice none 0 0, .agg #[.int .i64 0, .int .i64 0, .int .i64 0, .slice none 0 0]] 8 rfl (World.shaped_of_RefB (by kernel_rfl) (by kernel_rfl)) (by kernel_rfl) (by kernel_rfl) (by kernel_rfl) (hwit _)) ?_
  intro W base args ds gs before hval0 hW _ _ hL _
  have hval : ∀ (j : Nat) t v, Tryd.f7.params[j]? = some t → args[j]? = some v → Value.okWide Tryd.prog W .any base t v := hval0
  have hW' := hW
  obtain ⟨p, q, hA0, hV, rfl, hfz, hnd⟩ := hW
  have hA : DataW.TrodAll enc Tryd.prog W 0 (fun _ => true) true Tryd.f7.params.toList args.toList ds p := hA0
  rw [Tryd.params7] at hA hval
  obtain ⟨v0, vs0, d0, ds0, p0, q0, hargs, rfl, rfl, h0, r0⟩ := trodAll_cons hA
  obtain ⟨v1, vs1, d1, ds1, p1, q1, rfl, rfl, rfl, h1, r1⟩ := trodAll_cons r0
  obtain ⟨rfl, rfl, rfl⟩ := trodAll_nil r1
  obtain rfl : args = #[v0, v1] := by cases args; simp_all
  obtain ⟨rfl, rfl⟩ := trodVars_none hV
  obtain ⟨a0_, len0_, cap0_, rfl⟩ := okWide_slice Tryd.underlying22 (hval 0 22 v0 rfl rfl)
  have k0 := h0
  have lt0 : ∀ x ∈ p0, x.block < W.heap.size := by obtain ⟨m, hm⟩ := k0; exact DataW.trod_lt m _ _ _ hm
  obtain ⟨l0, K0, ok0⟩ : ∃ x, (Kd.slice 33 k33).K W x [.slice a0_ len0_ cap0_] ∧ (x.length ≤ maxLen ∧ ∀ x0_, x0_ ∈ x → ok33 x0_) := by
    obtain ⟨fuel, hf⟩ := h0
    exact opens22.2 _ _ _ _ _ _ _ _ _ hf
  obtain ⟨A0, c0, e0, g0, hr0⟩ := K0
  simp only [List.cons.injEq, Value.slice.injEq, and_true] at e0
  obtain ⟨rfl, rfl, rfl⟩ := e0
  obtain ⟨cs1, rfl, _⟩ := okWide_struct Tryd.underlying33 (hval 1 33 v1 rfl rfl)
  have k1 := h1
  have lt1 : ∀ x ∈ p1, x.block < W.heap.size := by obtain ⟨m, hm⟩ := k1; exact DataW.trod_lt m _ _ _ hm
  obtain ⟨x1, K1, ok1⟩ : ∃ x, k33.K W x cs1.toList ∧ ok33 x := by
    obtain ⟨fuel, hf⟩ := h1
    exact opens33.2 _ _ _ _ _ _ _ _ _ hf
  obtain ⟨A1_3, c1_3, e1, g1_3, hr1_3⟩ := k33_open K1
  obtain rfl : cs1 = #[.int .i64 (x1.f0), .int .i64 (x1.f1.f0), .int .i64 (x1.f1.f1), .slice A1_3 (x1.f2).length c1_3] := by cases cs1; simpa using e1
  clear hA0 hval0
  obtain ⟨k, hp⟩ := Pure.LotOwn l0 (x1.f0) (x1.f1.f0) (x1.f1.f1) (x1.f2) ok0 ok1.1 ok1.2.1.1 ok1.2.1.2 ok1.2.2
  have hG : GI W := GI.of_laid laidL (by simp [laidL]) hL
  refine (spilelaw22_LotOwn.calls k _ _ l0 (x1.f0) (x1.f1.f0) (x1.f1.f1) _ _ (x1.f2) true W hr0 g0 hr1_3 g1_3 hG rfl hp).mono fun e W' ⟨he, bel⟩ => ?_
  subst he
  exact ⟨_, rfl, _, _, _, [], _, [], hW', trodAll_mk1 (shut_bool Tryd.underlying4 _), (trodAll_cons_mk (Below.trod laidOut (by kernel_rfl) (of_decide_eq_true (by kernel_rfl)) k0 bel lt0) (trodAll_cons_mk (Below.trod laidOut (by kernel_rfl) (of_decide_eq_true (by kernel_rfl)) k1 bel lt1) trodAll_mk0)), rfl, bel.frame _, fun h => by cases h⟩
theorem holds (hwit : ∀ (os : Os) (args : Array Value), laidMetH Tryd.prog laidL ((World.doorLaid Tryd.prog 400 os).forCall (fun _ _ => 0) ⟨#[], args, []⟩).memory) : Rows.LotOwnSaid :=
  OpenClaim.holds_of_wide 7 Tryd.f7 rfl rfl rfl rfl rfl rfl rfl ⟨rfl, rfl, rfl, rfl, rfl⟩ rfl rfl rfl rfl rfl (by kernel_rfl) Tryd.func7 (by kernel_rfl)
    (of_decide_eq_true (by kernel_rfl)) (by unfold Func.isWrapper; first | (rw [if_pos (by decide +kernel)]; kernel_rfl) | (rw [if_neg (by decide +kernel)]; exact ⟨rfl, rfl⟩))
    (fun os started H enc _ => lifted os started H enc (hwit os))
theorem door_met (os : Os) (args : Array Value) : laidMetH Tryd.prog laidL ((World.doorLaid Tryd.prog 400 os).forCall (fun _ _ => 0) ⟨#[], args, []⟩).memory :=
  laidMetH_of_parts3 (fuel := 8) (laidMet_of_run' 8 (by kernel_rfl) (by kernel_rfl)) (by kernel_rfl) (by kernel_rfl)
theorem card : Rows.LotOwnCardSaid :=
  Claim7.holds_tied_plain_at .later [] [.data, .data, .data] true (true, "6d3d5d07b3fa15e36186e74d1341de65e21d118781572820ba764e384a48d39d") true
    (holds door_met) (fun _ h => by cases h) (by kernel_rfl) (fun _ h => by cases h) lotOwn_row_tie rfl ⟨rfl, rfl⟩ (by kernel_rfl) rfl
    (fun f fn hf hfn => by
      obtain rfl : f = 7 := Option.some.inj ((show Tryd.prog.funcNamed "spile/spilelaw22.LotOwn" = some 7 by kernel_rfl).symm.trans hf) |>.symm
      obtain rfl : fn = Tryd.f7 := (Option.some.inj (Tryd.func7.symm.trans hfn)).symm
      exact ⟨by kernel_rfl, fun j t ht => by
        rw [Tryd.params7] at ht
        have hm : t ∈ [22, 33] := by simpa using Array.mem_of_getElem? ht
        have hall : ([22, 33].all fun u => !Tryd.prog.wantsStandIn u) = true := by kernel_rfl
        exact (show Tryd.prog.wantsStandIn t = false by simpa using List.all_eq_true.1 hall t hm)⟩)
    (by kernel_rfl)
end Go.Proofs.YtgjoenoknknoiaaDoor.lotOwn
namespace Go.Proofs.YtgjoenoknknoiaaDoor
/-- The card, under a short name, for the claim. -/
theorem lotOwn_holds : Rows.LotOwnCardSaid := lotOwn.card
#print axioms lotOwn_holds
end Go.Proofs.YtgjoenoknknoiaaDoor
