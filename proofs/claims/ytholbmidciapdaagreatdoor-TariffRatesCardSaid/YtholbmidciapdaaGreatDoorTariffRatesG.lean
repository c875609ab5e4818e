/-
The law TariffRates returns true for every input that can be read as data, and leaves its arguments as they were: the row, and the card that ties the listed variables to the program's text.
No condition of its own beyond those that the given row prints.
-/
import Derived.Shelf.Spec.BitsCarry
import Derived.HandedShaped
import Derived.Handed
import Derived.Test.YtholbmidciapdaaGreatDoorCards
import Derived.Test.YtholbmidciapdaaGreatDoorTie
import Derived.ProofKit
import Derived.OpenShut
import Derived.ShutString
import Derived.ChangeOld
import Derived.SizedLaws
import Derived.LaidMore
import Derived.Lay
import Derived.MakeChecks
import Derived.SevenTiedAt
import Derived.LaidSub
import Derived.LaidOnce
import Derived.Stop.Joined
import Derived.Stop.LaidErr
import Derived.Test.YtholbmidciapdaaGreatDoorTariffRatesF
set_option linter.unusedVariables false
set_option linter.unusedSimpArgs false
namespace Go.Proofs.YtholbmidciapdaaGreatDoor.Pr
open Go.RowKit Go.Proofs.YtholbmidciapdaaGreatDoorW.PrintWords Go.Proofs.YtholbmidciapdaaGreatDoorW.PrintLast Go.Proofs.YtholbmidciapdaaGreatDoorW.PrintMore Go.Proofs.YtholbmidciapdaaGreatDoor.X
attribute [local go_sem] max2_int min2_int max_two min_two max_three min_three max_four min_four   -- for this text's walks alone
set_option linter.unusedVariables false
set_option linter.unusedSimpArgs false
attribute [local go_sem high] eqA26
mutual
def spileref46_Changes.j0 : Nat → Int → Int → Int → Bool → Int → List (S26) → Option (List Int × Int)
 | 0, _, _, _, _, _, _ => none
 | k + 1, x1, x2, x3, x30, x368000, x368001 => if x30 = true then (some (([] : List Int), 2)) else (spileref46_Changes.l0 k x1 x2 x3 ([] : List Int) 0 x368000 x368001)
def spileref46_Changes.l0 : Nat → Int → Int → Int → List Int → Int → Int → List (S26) → Option (List Int × Int)
 | 0, _, _, _, _, _, _, _ => none
 | k + 1, x1, x2, x3, x10, x11, x368000, x368001 => if x11 < (x368001.length : Int) then (if 0 ≤ x11 then (if ((rd_T26 x368001 x11).f0) = x1 then (if ((rd_T26 x368001 x11).f1) ≥ x2 then (if ((rd_T26 x368001 x11).f1) ≤ x3 then (if x10.length < 17592186044416 then (spileref46_Changes.l0 k x1 x2 x3 (x10 ++ [(rd_T26 x368001 x11).f1]) (wrap64 (x11 + 1)) x368000 x368001) else (none)) else (spileref46_Changes.l0 k x1 x2 x3 x10 (wrap64 (x11 + 1)) x368000 x368001)) else (spileref46_Changes.l0 k x1 x2 x3 x10 (wrap64 (x11 + 1)) x368000 x368001)) else (spileref46_Changes.l0 k x1 x2 x3 x10 (wrap64 (x11 + 1)) x368000 x368001)) else (none)) else (some (x10, 0))
end
def spileref46_Changes.f (k : Nat) (a0_0 : Int) (l0_1 : List (S26)) (a1 : Int) (a2 : Int) (a3 : Int) : Option (List Int × Int) := (spileref46_Right.f k a0_0 l0_1).bind fun t368 => (if t368 = true then ((spileref46_Ranges.f a1 a2).bind fun t369 => (if t369 = true then ((spileref46_Ranges.f a1 a3).bind fun t370 => (if t370 = true then (spileref46_Changes.j0 k a1 a2 a3 (decide (a2 > a3)) a0_0 l0_1) else (spileref46_Changes.j0 k a1 a2 a3 true a0_0 l0_1))) else (spileref46_Changes.j0 k a1 a2 a3 true a0_0 l0_1))) else (some (([] : List Int), 1)))
set_option maxHeartbeats 8000000 in
set_option maxRecDepth 100000 in
theorem spileref46_Changes.calls (k : Nat) (a0_0 : Int) (A0_1 : Option Addr) (c0_1 : Nat) (l0_1 : List (S26)) (a1 : Int) (a2 : Int) (a3 : Int) (r1 : List Int) (r2 : Int) (w : World) (hr0_1 : Kd.C k26 w A0_1 l0_1.length l0_1) (hc0_1 : l0_1.length ≤ c0_1) (h : spileref46_Changes.f k a0_0 l0_1 a1 a2 a3 = some (r1, r2)) :
  Calls Tryz.prog 24 #[.agg #[.int .i64 a0_0, .slice A0_1 l0_1.length c0_1], .int .i64 a1, .int .i64 a2, .int .i64 a3] w fun e w' => ∃ v0_ : Value, e = .returned (.tuple #[v0_, .int .i64 r2]) ∧ Kd.R (Kd.int .i64) 3 w' w.heap.size (fun _ => True) v0_ r1 ∧ Below w.heap.size w w' := by
 have hu24 := Tryz.underlying24; have hu26 := Tryz.underlying26; have HR0_1 := Aside0.mk hr0_1; have HC0_1 := Aside0.mk hc0_1; clear hr0_1 hc0_1; have HB := Aside0.mk (Below.refl w.heap.size w); have H : ((spileref46_Right.f k a0_0 l0_1).bind fun t368 => (if t368 = true then ((spileref46_Ranges.f a1 a2).bind fun t369 => (if t369 = true then ((spileref46_Ranges.f a1 a3).bind fun t370 => (if t370 = true then (spileref46_Changes.j0 k a1 a2 a3 (decide (a2 > a3)) a0_0 l0_1) else (spileref46_Changes.j0 k a1 a2 a3 true a0_0 l0_1))) else (spileref46_Changes.j0 k a1 a2 a3 true a0_0 l0_1))) else (some (([] : List Int), 1)))) = some (r1, r2) := h; clear h; replace H := Option.bind_eq_some_iff.mp H; obtain ⟨t368, A50, H⟩ := H; replace H : (if t368 = true then ((spileref46_Ranges.f a1 a2).bind fun t369 => (if t369 = true then ((spileref46_Ranges.f a1 a3).bind fun t370 => (if t370 = true then (spileref46_Changes.j0 k a1 a2 a3 (decide (a2 > a3)) a0_0 l0_1) else (spileref46_Changes.j0 k a1 a2 a3 true a0_0 l0_1))) else (spileref46_Changes.j0 k a1 a2 a3 true a0_0 l0_1))) else (some (([] : List Int), 1))) = some (r1, r2) := H; have A5 := Aside0.mk A50; clear A50; by_cases c6 : t368 = true
 ·
  subst c6; replace H : ((spileref46_Ranges.f a1 a2).bind fun t369 => (if t369 = true then ((spileref46_Ranges.f a1 a3).bind fun t370 => (if t370 = true then (spileref46_Changes.j0 k a1 a2 a3 (decide (a2 > a3)) a0_0 l0_1) else (spileref46_Changes.j0 k a1 a2 a3 true a0_0 l0_1))) else (spileref46_Changes.j0 k a1 a2 a3 true a0_0 l0_1))) = some (r1, r2) := by rw [if_pos rfl] at H; exact H
  have HC7 := Aside0.mk H; clear H; go_enter Tryz.func24, Tryz.ntmps24
  go_upto_region 3 with (first | ((with_reducible refine gate_dst (N := 4) rfl ?_); refine box_event ?hg (N := 4) ?hd (cs := #[.int .i64 a0_0, .slice A0_1 l0_1.length c0_1]) (t := 24) ?hr ?_; (case hd => rfl); (case hg => rfl); (case hr => first | (go_simp; done) | (go_simp; rfl)); intro gb367 hg w8 hbox hb; have n0_ := Aside0.mk (below_step (eG HB.out) hb); have n1_ := Aside0.mk (hbox); have n2_ := Aside0.mk ((by rw [hg]; exact (below_size (eG HB.out)) : w.heap.size ≤ gb367)); have n3_ := Aside0.mk ((by rw [hg]; exact (below_size (eG HB.out)) : w.heap.size ≤ gb367)); clear HB; have HB := n0_; have BK367 := n1_; have GW367 := n2_; have GE367 := n3_; have ig367_ := geI GE367; clear n0_ n1_ n2_ n3_; clear hb hbox hg; have hcz9_0 : w8.cell? ⟨gb367, 0, none⟩ = some (.int .i64 a0_0) := (blk_cell BK367.out 0).trans rfl; have hcz9_1 : w8.cell? ⟨gb367, 1, none⟩ = some (.slice A0_1 l0_1.length c0_1) := (blk_cell BK367.out 1).trans rfl; have hfz9_0 := blk_frozen BK367.out 0; have hfz9_1 := blk_frozen BK367.out 1) | ((with_reducible refine gate_callee (f := 44) rfl ?_); refine goesL_ (some 14) rfl rfl Tryz.func44 (by kernel_rfl) rfl #[.agg #[.int .i64 a0_0, .slice A0_1 l0_1.length c0_1]] rfl (by (try simp only [List.map_toArray, List.map_cons, List.map_nil]); first | done | rfl | (simp only [List.length_drop, List.length_take]; rfl)) ?_; (with_reducible refine (spileref46_Right.calls k a0_0 _ _ l0_1 true _ ?side1 ?side2 A5.out).mono ?_); (case side1 => repeat (first | exact (Kd.C_below HR0_1.out HB.out) | (with_reducible refine Kd.C_alloc ?_ _) | (with_reducible refine Kd.C_drewN ?_ _) | (with_reducible refine Kd.C_drew ?_))); (case side2 => exact HC0_1.out); rintro e w10 ⟨rfl, hb⟩; refine ⟨_, rfl, ?_⟩; have n0_ := Aside0.mk (blk_below (bG BK367.out) hb); have n1_ := Aside0.mk (below_step (eG HB.out) hb); clear BK367; clear HB; have BK367 := n0_; have HB := n1_; clear n0_ n1_; (try clear hb); (try clear hb2); (try clear hk); (try clear hi)))
  (try simp only [Act.put, sIA, sC0, sCS])
  go_cut [30] (fun v30 wc => ∃ (kq : Nat) (x30_6 : Bool), v30 = .bool x30_6 ∧ Aside0 (spileref46_Changes.j0 kq a1 a2 a3 x30_6 a0_0 l0_1 = some (r1, r2)) ∧ Aside0 (kq ≤ k) ∧ Aside0 (wc.heap[gb367]? = some (.cells #[.int .i64 a0_0, (.slice A0_1 l0_1.length c0_1)] 24 (0, 0))) ∧ Aside0 (Below w.heap.size w wc))
  case first =>
   have H := HC7.out; clear HC7; replace H := Option.bind_eq_some_iff.mp H; obtain ⟨t369, A110, H⟩ := H; replace H : (if t369 = true then ((spileref46_Ranges.f a1 a3).bind fun t370 => (if t370 = true then (spileref46_Changes.j0 k a1 a2 a3 (decide (a2 > a3)) a0_0 l0_1) else (spileref46_Changes.j0 k a1 a2 a3 true a0_0 l0_1))) else (spileref46_Changes.j0 k a1 a2 a3 true a0_0 l0_1)) = some (r1, r2) := H; have A11 := Aside0.mk A110; clear A110; by_cases c12 : t369 = true
   ·
    subst c12; replace H : ((spileref46_Ranges.f a1 a3).bind fun t370 => (if t370 = true then (spileref46_Changes.j0 k a1 a2 a3 (decide (a2 > a3)) a0_0 l0_1) else (spileref46_Changes.j0 k a1 a2 a3 true a0_0 l0_1))) = some (r1, r2) := by rw [if_pos rfl] at H; exact H
    replace H := Option.bind_eq_some_iff.mp H; obtain ⟨t370, A130, H⟩ := H; replace H : (if t370 = true then (spileref46_Changes.j0 k a1 a2 a3 (decide (a2 > a3)) a0_0 l0_1) else (spileref46_Changes.j0 k a1 a2 a3 true a0_0 l0_1)) = some (r1, r2) := H; have A13 := Aside0.mk A130; clear A130; by_cases c14 : t370 = true
    ·
     subst c14; replace H : (spileref46_Changes.j0 k a1 a2 a3 (decide (a2 > a3)) a0_0 l0_1) = some (r1, r2) := by rw [if_pos rfl] at H; exact H
     have H' := Aside0.mk H; clear H; go_wp2_with (first | ((with_reducible refine gate_callee (f := 46) rfl ?_); refine goesL_ (some 18) rfl rfl Tryz.func46 (by kernel_rfl) rfl #[.int .i64 a1, .int .i64 a2] rfl (by (try simp only [List.map_toArray, List.map_cons, List.map_nil]); first | done | rfl | (simp only [List.length_drop, List.length_take]; rfl)) ?_; (with_reducible refine (spileref46_Ranges.calls a1 a2 true _ A11.out).mono ?_); rintro e w' ⟨rfl, ⟨nd, rfl⟩⟩; refine ⟨_, rfl, ?_⟩) | (go_at_call 46; (with_reducible refine (spileref46_Ranges.calls a1 a3 true _ A13.out).mono ?_); rintro e w' ⟨rfl, ⟨nd, rfl⟩⟩))
     go_meet
     case rel => exact ⟨_, (decide (a2 > a3)), (by first | rfl | (simp; done) | (simp [*]; done)), H', ⟨by first | omega | exact Nat.le_refl _⟩, ⟨by (with_reducible repeat first | apply bN | apply bD | apply bA); exact BK367.out⟩, ⟨eG HB.out⟩⟩
    ·
     replace c14 := Bool.eq_false_iff.mpr c14; subst c14; replace H : (spileref46_Changes.j0 k a1 a2 a3 true a0_0 l0_1) = some (r1, r2) := by rw [if_neg (show ¬ (false = true) by decide)] at H; exact H
     have H' := Aside0.mk H; clear H; go_wp2_with (first | ((with_reducible refine gate_callee (f := 46) rfl ?_); refine goesL_ (some 18) rfl rfl Tryz.func46 (by kernel_rfl) rfl #[.int .i64 a1, .int .i64 a2] rfl (by (try simp only [List.map_toArray, List.map_cons, List.map_nil]); first | done | rfl | (simp only [List.length_drop, List.length_take]; rfl)) ?_; (with_reducible refine (spileref46_Ranges.calls a1 a2 true _ A11.out).mono ?_); rintro e w' ⟨rfl, ⟨nd, rfl⟩⟩; refine ⟨_, rfl, ?_⟩) | (go_at_call 46; (with_reducible refine (spileref46_Ranges.calls a1 a3 false _ A13.out).mono ?_); rintro e w' ⟨rfl, ⟨nd, rfl⟩⟩))
     go_meet
     case rel => exact ⟨_, (true), (by first | rfl | (simp; done) | (simp [*]; done)), H', ⟨by first | omega | exact Nat.le_refl _⟩, ⟨by (with_reducible repeat first | apply bN | apply bD | apply bA); exact BK367.out⟩, ⟨eG HB.out⟩⟩
   ·
    replace c12 := Bool.eq_false_iff.mpr c12; subst c12; replace H : (spileref46_Changes.j0 k a1 a2 a3 true a0_0 l0_1) = some (r1, r2) := by rw [if_neg (show ¬ (false = true) by decide)] at H; exact H
    have H' := Aside0.mk H; clear H; go_wp2_with (first | ((with_reducible refine gate_callee (f := 46) rfl ?_); refine goesL_ (some 18) rfl rfl Tryz.func46 (by kernel_rfl) rfl #[.int .i64 a1, .int .i64 a2] rfl (by (try simp only [List.map_toArray, List.map_cons, List.map_nil]); first | done | rfl | (simp only [List.length_drop, List.length_take]; rfl)) ?_; (with_reducible refine (spileref46_Ranges.calls a1 a2 false _ A11.out).mono ?_); rintro e w' ⟨rfl, ⟨nd, rfl⟩⟩; refine ⟨_, rfl, ?_⟩))
    go_meet
    case rel => exact ⟨_, (true), (by first | rfl | (simp; done) | (simp [*]; done)), H', ⟨by first | omega | exact Nat.le_refl _⟩, ⟨by (with_reducible repeat first | apply bN | apply bD | apply bA); exact BK367.out⟩, ⟨eG HB.out⟩⟩
  case rest =>
   clear HC7; repeat first | clear c1 | clear c2 | clear p2 | clear c4 | clear c6 | clear c12 | clear c14 | clear hcz9_0 | clear hcz9_1 | clear hfz9_0 | clear hfz9_1
   obtain ⟨kq, x30_6, rfl, HA, HJ6, BK367, HB⟩ := hcut
   cases kq with
   | zero => exact absurd HA.out (by simp [spileref46_Changes.j0])
   | succ kj6 =>
    have H := HA.out; clear HA; simp only [spileref46_Changes.j0] at H; by_cases c15 : x30_6 = true
    ·
     subst c15; replace H : (some (([] : List Int), 2)) = some (r1, r2) := by rw [if_pos rfl] at H; exact H
     simp only [Option.some.injEq, Prod.mk.injEq] at H; obtain ⟨rfl, rfl⟩ := H; go_wp2; go_ret2
     exact ⟨_, by first | rfl | (simp [errW_none, errW_some] <;> rfl) | (simp [*, errW_none, errW_some] <;> rfl), by first | exact Kd.R_nil _ _ _ _ _ | exact Kd.N_nil _ _ _ _ _ | exact Kd.V_nil _ _ _ _ _ | exact Kd.Q_nil _ _ _ _ _ | exact Kd.S_nil _ _ _ _ _, eG HB.out⟩
    ·
     replace c15 := Bool.eq_false_iff.mpr c15; subst c15; replace H : (spileref46_Changes.l0 kj6 a1 a2 a3 ([] : List Int) 0 a0_0 l0_1) = some (r1, r2) := by rw [if_neg (show ¬ (false = true) by decide)] at H; exact H
     have H' := Aside0.mk H; clear H; go_wp2; go_loopg [10, 11] kj6 (fun kq v10 v11 w' => ∃ (x10_2 : List Int) (x11_2 : Int), v11 = .int .i64 x11_2 ∧ Aside0 (spileref46_Changes.l0 kq a1 a2 a3 x10_2 x11_2 a0_0 l0_1 = some (r1, r2)) ∧ Aside0 (kq ≤ kj6) ∧ Aside0 (Kd.R (Kd.int .i64) 3 w' w.heap.size (fun _ => True) v10 x10_2) ∧ Aside0 (w'.heap[gb367]? = some (.cells #[.int .i64 a0_0, (.slice A0_1 l0_1.length c0_1)] 24 (0, 0))) ∧ Aside0 (Below w.heap.size w w'))
     case atStart => exact ⟨(([] : List Int)), (0), (by first | rfl | (simp; done) | (simp [*]; done)), H', ⟨Nat.le_refl _⟩, ⟨by first | exact Kd.R_nil _ _ _ _ _ | exact Kd.N_nil _ _ _ _ _ | exact Kd.V_nil _ _ _ _ _ | exact Kd.Q_nil _ _ _ _ _ | exact Kd.S_nil _ _ _ _ _⟩, ⟨by (with_reducible repeat first | apply bN | apply bD | apply bA); exact BK367.out⟩, ⟨eG HB.out⟩⟩
     case round =>
      clear H'; repeat first | clear c1 | clear c2 | clear p2 | clear c4 | clear c6 | clear c12 | clear c14 | clear c15 | clear hcz9_0 | clear hcz9_1 | clear hfz9_0 | clear hfz9_1 | clear p2
      obtain ⟨x10_2, x11_2, rfl, HA, HK2, HO_10, BK367, HB⟩ := hrel
      cases gk with
      | zero => exact absurd HA.out (by simp [spileref46_Changes.l0])
      | succ k2 =>
       have H := HA.out; clear HA; simp only [spileref46_Changes.l0] at H; by_cases c16 : x11_2 < (l0_1.length : Int)
       ·
        rw [if_pos c16] at H; have c16b0 : decide (x11_2 < (l0_1.length : Int)) = true := decide_eq_true c16; clear c16; by_cases c17 : 0 ≤ x11_2
        ·
         rw [if_pos c17] at H; have c17b0 : decide (0 ≤ x11_2) = true := decide_eq_true c17; clear c17; by_cases c18 : ((rd_T26 l0_1 x11_2).f0) = a1
         ·
          rw [if_pos c18] at H; have c18b0 : (((rd_T26 l0_1 x11_2).f0) == a1) = true := beq_iff_eq.mpr c18; have c18b1 : (((rd_T26 l0_1 x11_2).f0) != a1) = false := bne_eq_false_iff_eq.mpr c18; clear c18; by_cases c19 : ((rd_T26 l0_1 x11_2).f1) ≥ a2
          ·
           rw [if_pos c19] at H; have c19b0 : decide (a2 ≤ ((rd_T26 l0_1 x11_2).f1)) = true := decide_eq_true c19; clear c19; by_cases c20 : ((rd_T26 l0_1 x11_2).f1) ≤ a3
           ·
            rw [if_pos c20] at H; have c20b0 : decide (((rd_T26 l0_1 x11_2).f1) ≤ a3) = true := decide_eq_true c20; clear c20; by_cases c21 : x10_2.length < 17592186044416
            ·
             rw [if_pos c21] at H; have LMc21 := Aside0.mk c21; clear c21; obtain ⟨y373, hy373⟩ : ∃ y_ : List Int, y_ = (x10_2 ++ [(rd_T26 l0_1 x11_2).f1]) := ⟨_, rfl⟩; replace H : (spileref46_Changes.l0 k2 a1 a2 a3 y373 (wrap64 (x11_2 + 1)) a0_0 l0_1) = some (r1, r2) := by first | (rw [hy373]; with_reducible exact H) | (have H2_ := (Option.bind_some _ _).symm.trans H; rw [hy373]; with_reducible exact H2_) | (have H2_ := (Option.bind_some _ _).symm.trans H; with_reducible exact H2_) | with_reducible exact H | (rw [hy373]; exact H) | exact H
             have Ny373 := Aside0.mk hy373; clear hy373; have H' := Aside0.mk H; clear H; have hcz22_0 : wr.cell? ⟨gb367, 0, none⟩ = some (.int .i64 a0_0) := (blk_cell BK367.out 0).trans rfl; have hcz22_1 : wr.cell? ⟨gb367, 1, none⟩ = some (.slice A0_1 l0_1.length c0_1) := (blk_cell BK367.out 1).trans rfl; have hfz22_0 := blk_frozen BK367.out 0; have hfz22_1 := blk_frozen BK367.out 1; have p371 : 0 ≤ (x11_2 : Int) := of_decide_eq_true (by first | (with_reducible assumption) | assumption); have q371 : x11_2 < (l0_1.length : Int) := of_decide_eq_true (by first | (with_reducible assumption) | assumption); obtain ⟨ad371, e371, hx371_0, hx371_1, hx371_2⟩ := at_T26 HR0_1.out x11_2 p371 q371; cases e371; replace hx371_0 := (HB.out.cell (World.block_lt_of_cell? w _ hx371_0)).trans hx371_0; replace hx371_1 := (HB.out.cell (World.block_lt_of_cell? w _ hx371_1)).trans hx371_1; replace hx371_2 := (HB.out.cell (World.block_lt_of_cell? w _ hx371_2)).trans hx371_2; replace p371 := eq_true p371; replace q371 := eq_true q371; go_wp2_with (first | ((with_reducible refine gate_dst (N := 12) rfl ?_); refine box_event ?hg (N := 12) ?hd (cs := #[.int .i64 0, .int .i64 0, .int .i64 0]) (t := 26) ?hr ?_; (case hd => rfl); (case hg => rfl); (case hr => first | (go_simp; done) | (go_simp; rfl)); intro gb372 hg w23 hbox hb; have n0_ := Aside0.mk (Kd.R_below (by (with_reducible repeat (first | apply Kd.R_alloc | apply Kd.R_drewN | apply Kd.R_drew)); exact HO_10.out) hb); have n1_ := Aside0.mk (blk_below (bG BK367.out) hb); have n2_ := Aside0.mk (below_step (eG HB.out) hb); have n3_ := Aside0.mk (hbox); have n4_ := Aside0.mk ((by rw [hg]; exact (below_size (eG HB.out)) : w.heap.size ≤ gb372)); have n5_ := Aside0.mk ((by rw [hg]; exact (below_size (eG HB.out)) : w.heap.size ≤ gb372)); have n6_ := Aside0.mk ((by rw [hg]; exact Nat.ne_of_lt (blk_lt (bG BK367.out)) : gb367 ≠ gb372)); have n7_ := Aside0.mk ((by rw [hg]; exact Nat.ne_of_gt (blk_lt (bG BK367.out)) : gb372 ≠ gb367)); clear HO_10; clear BK367; clear HB; have HO_10 := n0_; have BK367 := n1_; have HB := n2_; have BK372 := n3_; have GW372 := n4_; have GE372 := n5_; have ig372_ := geI GE372; have NB367_372 := n6_; have NB372_367 := n7_; clear n0_ n1_ n2_ n3_ n4_ n5_ n6_ n7_; clear hb hbox hg; have hnb24 := NB372_367.out; have hnc24 := NB367_372.out; have hcz25_0 : w23.cell? ⟨gb372, 0, none⟩ = some (.int .i64 0) := (blk_cell BK372.out 0).trans rfl; have hcz25_1 : w23.cell? ⟨gb372, 1, none⟩ = some (.int .i64 0) := (blk_cell BK372.out 1).trans rfl; have hcz25_2 : w23.cell? ⟨gb372, 2, none⟩ = some (.int .i64 0) := (blk_cell BK372.out 2).trans rfl; have hfz25_0 := blk_frozen BK372.out 0; have hfz25_1 := blk_frozen BK372.out 1; have hfz25_2 := blk_frozen BK372.out 2) | ((with_reducible refine gate_builtin (b := .append) (xs := #[.tmp 59, .tmp 62]) rfl ?_); at_builtin; refine Kd.R_append (Kd.int .i64) (w0 := w) w.heap.size rfl (.tmp 59) (.tmp 62) 40 3 (.int .i64 0) 8 rfl Tryz.underlying40 info3 rfl (by decide) (by omega) u10 x10_2 ((rd_T26 l0_1 x11_2).f1) [.int .i64 ((rd_T26 l0_1 x11_2).f1)] (fun _ => True) (fun _ => False) rfl (by first | (go_simp; done) | (go_simp; rfl)) ?aP (fun _ hk => hk.elim) ?aF ?aO ?aB ?aS ?aL ?_; (case aP => exact rfl); (case aB => exact (eG HB.out)); (case aF => exact (fun _ _ => trivial)); (case aO => exact (by (with_reducible repeat (first | apply Kd.R_alloc | apply Kd.R_drewN | apply Kd.R_drew)); exact Kd.R_mono (Kd.R_far (p := ⟨gb372, 2, none⟩) (Kd.R_far (p := ⟨gb372, 1, none⟩) (Kd.R_far (p := ⟨gb372, 0, none⟩) (Kd.R_types HO_10.out BK372.out (by decide)) (fun _ hk => hk.2) (.int .i64 ((rd_T26 l0_1 x11_2).f0))) (fun _ hk => hk.2) (.int .i64 ((rd_T26 l0_1 x11_2).f1))) (fun _ hk => hk.2) (.int .i64 ((rd_T26 l0_1 x11_2).f2))) (fun _ hk => trivial))); (case aS => exact (below_size (eG HB.out))); (case aL => have := LMc21.out; omega); intro v374 w26 ho hb hg hat; rw [← Ny373.out] at ho; have n0_ := Aside0.mk (blk_grown (g := gb367) (o := .cells #[.int .i64 a0_0, .slice (some ad371) l0_1.length c0_1] 24 (0, 0)) (by (with_reducible repeat first | apply bN | apply bD | apply bA); refine blk_far ?_ NB367_372.out _; (with_reducible repeat first | apply bN | apply bD | apply bA); refine blk_far ?_ NB367_372.out _; (with_reducible repeat first | apply bN | apply bD | apply bA); refine blk_far ?_ NB367_372.out _; (with_reducible repeat first | apply bN | apply bD | apply bA); exact BK367.out) hg (Kd.R_ne HO_10.out BK367.out (by decide))); have n1_ := Aside0.mk (blk_grown (g := gb372) (o := .cells #[.int .i64 ((rd_T26 l0_1 x11_2).f0), .int .i64 ((rd_T26 l0_1 x11_2).f1), .int .i64 ((rd_T26 l0_1 x11_2).f2)] 26 (0, 0)) (by (with_reducible repeat first | apply bN | apply bD | apply bA); refine blk_put (cs := #[.int .i64 ((rd_T26 l0_1 x11_2).f0), .int .i64 ((rd_T26 l0_1 x11_2).f1), .int .i64 0]) ?_ 2 _ rfl; (with_reducible repeat first | apply bN | apply bD | apply bA); refine blk_put (cs := #[.int .i64 ((rd_T26 l0_1 x11_2).f0), .int .i64 0, .int .i64 0]) ?_ 1 _ rfl; (with_reducible repeat first | apply bN | apply bD | apply bA); refine blk_put (cs := #[.int .i64 0, .int .i64 0, .int .i64 0]) ?_ 0 _ rfl; (with_reducible repeat first | apply bN | apply bD | apply bA); exact BK372.out) hg (Kd.R_ne HO_10.out BK372.out (by decide))); have n2_ := Aside0.mk (hb); have n3_ := Aside0.mk (ho); clear BK367; clear BK372; clear HB; clear HO_10; have BK367 := n0_; have BK372 := n1_; have HB := n2_; have HO375 := n3_; clear n0_ n1_ n2_ n3_; clear ho hb hg hat))
             go_roundg k2
             case measure => have := HJ6.out; have := HK2.out; omega
             case rel => exact ⟨(y373), (wrap64 (x11_2 + 1)), (by first | rfl | (simp; done) | (simp [*]; done)), H', ⟨by have := HJ6.out; have := HK2.out; omega⟩, ⟨by (with_reducible repeat (first | apply Kd.R_alloc | apply Kd.R_drewN | apply Kd.R_drew)); exact HO375.out⟩, ⟨by (with_reducible repeat first | apply bN | apply bD | apply bA); exact BK367.out⟩, ⟨eG HB.out⟩⟩
            · rw [if_neg c21] at H; exact absurd H (by simp)
           ·
            rw [if_neg c20] at H; have c20b0 : decide (((rd_T26 l0_1 x11_2).f1) ≤ a3) = false := decide_eq_false c20; clear c20; have H' := Aside0.mk H; clear H; have hcz27_0 : wr.cell? ⟨gb367, 0, none⟩ = some (.int .i64 a0_0) := (blk_cell BK367.out 0).trans rfl; have hcz27_1 : wr.cell? ⟨gb367, 1, none⟩ = some (.slice A0_1 l0_1.length c0_1) := (blk_cell BK367.out 1).trans rfl; have hfz27_0 := blk_frozen BK367.out 0; have hfz27_1 := blk_frozen BK367.out 1; have p371 : 0 ≤ (x11_2 : Int) := of_decide_eq_true (by first | (with_reducible assumption) | assumption); have q371 : x11_2 < (l0_1.length : Int) := of_decide_eq_true (by first | (with_reducible assumption) | assumption); obtain ⟨ad371, e371, hx371_0, hx371_1, hx371_2⟩ := at_T26 HR0_1.out x11_2 p371 q371; cases e371; replace hx371_0 := (HB.out.cell (World.block_lt_of_cell? w _ hx371_0)).trans hx371_0; replace hx371_1 := (HB.out.cell (World.block_lt_of_cell? w _ hx371_1)).trans hx371_1; replace hx371_2 := (HB.out.cell (World.block_lt_of_cell? w _ hx371_2)).trans hx371_2; replace p371 := eq_true p371; replace q371 := eq_true q371; go_wp2_with (first | ((with_reducible refine gate_dst (N := 12) rfl ?_); refine box_event ?hg (N := 12) ?hd (cs := #[.int .i64 0, .int .i64 0, .int .i64 0]) (t := 26) ?hr ?_; (case hd => rfl); (case hg => rfl); (case hr => first | (go_simp; done) | (go_simp; rfl)); intro gb372 hg w28 hbox hb; have n0_ := Aside0.mk (Kd.R_below (by (with_reducible repeat (first | apply Kd.R_alloc | apply Kd.R_drewN | apply Kd.R_drew)); exact HO_10.out) hb); have n1_ := Aside0.mk (blk_below (bG BK367.out) hb); have n2_ := Aside0.mk (below_step (eG HB.out) hb); have n3_ := Aside0.mk (hbox); have n4_ := Aside0.mk ((by rw [hg]; exact (below_size (eG HB.out)) : w.heap.size ≤ gb372)); have n5_ := Aside0.mk ((by rw [hg]; exact (below_size (eG HB.out)) : w.heap.size ≤ gb372)); have n6_ := Aside0.mk ((by rw [hg]; exact Nat.ne_of_lt (blk_lt (bG BK367.out)) : gb367 ≠ gb372)); have n7_ := Aside0.mk ((by rw [hg]; exact Nat.ne_of_gt (blk_lt (bG BK367.out)) : gb372 ≠ gb367)); clear HO_10; clear BK367; clear HB; have HO_10 := n0_; have BK367 := n1_; have HB := n2_; have BK372 := n3_; have GW372 := n4_; have GE372 := n5_; have ig372_ := geI GE372; have NB367_372 := n6_; have NB372_367 := n7_; clear n0_ n1_ n2_ n3_ n4_ n5_ n6_ n7_; clear hb hbox hg; have hnb29 := NB372_367.out; have hnc29 := NB367_372.out; have hcz30_0 : w28.cell? ⟨gb372, 0, none⟩ = some (.int .i64 0) := (blk_cell BK372.out 0).trans rfl; have hcz30_1 : w28.cell? ⟨gb372, 1, none⟩ = some (.int .i64 0) := (blk_cell BK372.out 1).trans rfl; have hcz30_2 : w28.cell? ⟨gb372, 2, none⟩ = some (.int .i64 0) := (blk_cell BK372.out 2).trans rfl; have hfz30_0 := blk_frozen BK372.out 0; have hfz30_1 := blk_frozen BK372.out 1; have hfz30_2 := blk_frozen BK372.out 2))
            go_roundg k2
            case measure => have := HJ6.out; have := HK2.out; omega
            case rel => exact ⟨(x10_2), (wrap64 (x11_2 + 1)), (by first | rfl | (simp; done) | (simp [*]; done)), H', ⟨by have := HJ6.out; have := HK2.out; omega⟩, ⟨by (with_reducible repeat (first | apply Kd.R_alloc | apply Kd.R_drewN | apply Kd.R_drew)); exact Kd.R_mono (Kd.R_far (p := ⟨gb372, 2, none⟩) (Kd.R_far (p := ⟨gb372, 1, none⟩) (Kd.R_far (p := ⟨gb372, 0, none⟩) (Kd.R_types HO_10.out BK372.out (by decide)) (fun _ hk => hk.2) (.int .i64 ((rd_T26 l0_1 x11_2).f0))) (fun _ hk => hk.2) (.int .i64 ((rd_T26 l0_1 x11_2).f1))) (fun _ hk => hk.2) (.int .i64 ((rd_T26 l0_1 x11_2).f2))) (fun _ hk => trivial)⟩, ⟨by (with_reducible repeat first | apply bN | apply bD | apply bA); refine blk_far ?_ NB367_372.out _; (with_reducible repeat first | apply bN | apply bD | apply bA); refine blk_far ?_ NB367_372.out _; (with_reducible repeat first | apply bN | apply bD | apply bA); refine blk_far ?_ NB367_372.out _; (with_reducible repeat first | apply bN | apply bD | apply bA); exact BK367.out⟩, ⟨eG HB.out⟩⟩
          ·
           rw [if_neg c19] at H; have c19b0 : decide (a2 ≤ ((rd_T26 l0_1 x11_2).f1)) = false := decide_eq_false c19; clear c19; have H' := Aside0.mk H; clear H; have hcz31_0 : wr.cell? ⟨gb367, 0, none⟩ = some (.int .i64 a0_0) := (blk_cell BK367.out 0).trans rfl; have hcz31_1 : wr.cell? ⟨gb367, 1, none⟩ = some (.slice A0_1 l0_1.length c0_1) := (blk_cell BK367.out 1).trans rfl; have hfz31_0 := blk_frozen BK367.out 0; have hfz31_1 := blk_frozen BK367.out 1; have p371 : 0 ≤ (x11_2 : Int) := of_decide_eq_true (by first | (with_reducible assumption) | assumption); have q371 : x11_2 < (l0_1.length : Int) := of_decide_eq_true (by first | (with_reducible assumption) | assumption); obtain ⟨ad371, e371, hx371_0, hx371_1, hx371_2⟩ := at_T26 HR0_1.out x11_2 p371 q371; cases e371; replace hx371_0 := (HB.out.cell (World.block_lt_of_cell? w _ hx371_0)).trans hx371_0; replace hx371_1 := (HB.out.cell (World.block_lt_of_cell? w _ hx371_1)).trans hx371_1; replace hx371_2 := (HB.out.cell (World.block_lt_of_cell? w _ hx371_2)).trans hx371_2; replace p371 := eq_true p371; replace q371 := eq_true q371; go_wp2_with (first | ((with_reducible refine gate_dst (N := 12) rfl ?_); refine box_event ?hg (N := 12) ?hd (cs := #[.int .i64 0, .int .i64 0, .int .i64 0]) (t := 26) ?hr ?_; (case hd => rfl); (case hg => rfl); (case hr => first | (go_simp; done) | (go_simp; rfl)); intro gb372 hg w32 hbox hb; have n0_ := Aside0.mk (Kd.R_below (by (with_reducible repeat (first | apply Kd.R_alloc | apply Kd.R_drewN | apply Kd.R_drew)); exact HO_10.out) hb); have n1_ := Aside0.mk (blk_below (bG BK367.out) hb); have n2_ := Aside0.mk (below_step (eG HB.out) hb); have n3_ := Aside0.mk (hbox); have n4_ := Aside0.mk ((by rw [hg]; exact (below_size (eG HB.out)) : w.heap.size ≤ gb372)); have n5_ := Aside0.mk ((by rw [hg]; exact (below_size (eG HB.out)) : w.heap.size ≤ gb372)); have n6_ := Aside0.mk ((by rw [hg]; exact Nat.ne_of_lt (blk_lt (bG BK367.out)) : gb367 ≠ gb372)); have n7_ := Aside0.mk ((by rw [hg]; exact Nat.ne_of_gt (blk_lt (bG BK367.out)) : gb372 ≠ gb367)); clear HO_10; clear BK367; clear HB; have HO_10 := n0_; have BK367 := n1_; have HB := n2_; have BK372 := n3_; have GW372 := n4_; have GE372 := n5_; have ig372_ := geI GE372; have NB367_372 := n6_; have NB372_367 := n7_; clear n0_ n1_ n2_ n3_ n4_ n5_ n6_ n7_; clear hb hbox hg; have hnb33 := NB372_367.out; have hnc33 := NB367_372.out; have hcz34_0 : w32.cell? ⟨gb372, 0, none⟩ = some (.int .i64 0) := (blk_cell BK372.out 0).trans rfl; have hcz34_1 : w32.cell? ⟨gb372, 1, none⟩ = some (.int .i64 0) := (blk_cell BK372.out 1).trans rfl; have hcz34_2 : w32.cell? ⟨gb372, 2, none⟩ = some (.int .i64 0) := (blk_cell BK372.out 2).trans rfl; have hfz34_0 := blk_frozen BK372.out 0; have hfz34_1 := blk_frozen BK372.out 1; have hfz34_2 := blk_frozen BK372.out 2))
           go_roundg k2
           case measure => have := HJ6.out; have := HK2.out; omega
           case rel => exact ⟨(x10_2), (wrap64 (x11_2 + 1)), (by first | rfl | (simp; done) | (simp [*]; done)), H', ⟨by have := HJ6.out; have := HK2.out; omega⟩, ⟨by (with_reducible repeat (first | apply Kd.R_alloc | apply Kd.R_drewN | apply Kd.R_drew)); exact Kd.R_mono (Kd.R_far (p := ⟨gb372, 2, none⟩) (Kd.R_far (p := ⟨gb372, 1, none⟩) (Kd.R_far (p := ⟨gb372, 0, none⟩) (Kd.R_types HO_10.out BK372.out (by decide)) (fun _ hk => hk.2) (.int .i64 ((rd_T26 l0_1 x11_2).f0))) (fun _ hk => hk.2) (.int .i64 ((rd_T26 l0_1 x11_2).f1))) (fun _ hk => hk.2) (.int .i64 ((rd_T26 l0_1 x11_2).f2))) (fun _ hk => trivial)⟩, ⟨by (with_reducible repeat first | apply bN | apply bD | apply bA); refine blk_far ?_ NB367_372.out _; (with_reducible repeat first | apply bN | apply bD | apply bA); refine blk_far ?_ NB367_372.out _; (with_reducible repeat first | apply bN | apply bD | apply bA); refine blk_far ?_ NB367_372.out _; (with_reducible repeat first | apply bN | apply bD | apply bA); exact BK367.out⟩, ⟨eG HB.out⟩⟩
         ·
          rw [if_neg c18] at H; have c18b0 : (((rd_T26 l0_1 x11_2).f0) == a1) = false := beq_eq_false_iff_ne.mpr c18; have c18b1 : (((rd_T26 l0_1 x11_2).f0) != a1) = true := bne_iff_ne.mpr c18; have H' := Aside0.mk H; clear H; have hcz35_0 : wr.cell? ⟨gb367, 0, none⟩ = some (.int .i64 a0_0) := (blk_cell BK367.out 0).trans rfl; have hcz35_1 : wr.cell? ⟨gb367, 1, none⟩ = some (.slice A0_1 l0_1.length c0_1) := (blk_cell BK367.out 1).trans rfl; have hfz35_0 := blk_frozen BK367.out 0; have hfz35_1 := blk_frozen BK367.out 1; have p371 : 0 ≤ (x11_2 : Int) := of_decide_eq_true (by first | (with_reducible assumption) | assumption); have q371 : x11_2 < (l0_1.length : Int) := of_decide_eq_true (by first | (with_reducible assumption) | assumption); obtain ⟨ad371, e371, hx371_0, hx371_1, hx371_2⟩ := at_T26 HR0_1.out x11_2 p371 q371; cases e371; replace hx371_0 := (HB.out.cell (World.block_lt_of_cell? w _ hx371_0)).trans hx371_0; replace hx371_1 := (HB.out.cell (World.block_lt_of_cell? w _ hx371_1)).trans hx371_1; replace hx371_2 := (HB.out.cell (World.block_lt_of_cell? w _ hx371_2)).trans hx371_2; replace p371 := eq_true p371; replace q371 := eq_true q371; go_wp2_with (first | ((with_reducible refine gate_dst (N := 12) rfl ?_); refine box_event ?hg (N := 12) ?hd (cs := #[.int .i64 0, .int .i64 0, .int .i64 0]) (t := 26) ?hr ?_; (case hd => rfl); (case hg => rfl); (case hr => first | (go_simp; done) | (go_simp; rfl)); intro gb372 hg w36 hbox hb; have n0_ := Aside0.mk (Kd.R_below (by (with_reducible repeat (first | apply Kd.R_alloc | apply Kd.R_drewN | apply Kd.R_drew)); exact HO_10.out) hb); have n1_ := Aside0.mk (blk_below (bG BK367.out) hb); have n2_ := Aside0.mk (below_step (eG HB.out) hb); have n3_ := Aside0.mk (hbox); have n4_ := Aside0.mk ((by rw [hg]; exact (below_size (eG HB.out)) : w.heap.size ≤ gb372)); have n5_ := Aside0.mk ((by rw [hg]; exact (below_size (eG HB.out)) : w.heap.size ≤ gb372)); have n6_ := Aside0.mk ((by rw [hg]; exact Nat.ne_of_lt (blk_lt (bG BK367.out)) : gb367 ≠ gb372)); have n7_ := Aside0.mk ((by rw [hg]; exact Nat.ne_of_gt (blk_lt (bG BK367.out)) : gb372 ≠ gb367)); clear HO_10; clear BK367; clear HB; have HO_10 := n0_; have BK367 := n1_; have HB := n2_; have BK372 := n3_; have GW372 := n4_; have GE372 := n5_; have ig372_ := geI GE372; have NB367_372 := n6_; have NB372_367 := n7_; clear n0_ n1_ n2_ n3_ n4_ n5_ n6_ n7_; clear hb hbox hg; have hnb37 := NB372_367.out; have hnc37 := NB367_372.out; have hcz38_0 : w36.cell? ⟨gb372, 0, none⟩ = some (.int .i64 0) := (blk_cell BK372.out 0).trans rfl; have hcz38_1 : w36.cell? ⟨gb372, 1, none⟩ = some (.int .i64 0) := (blk_cell BK372.out 1).trans rfl; have hcz38_2 : w36.cell? ⟨gb372, 2, none⟩ = some (.int .i64 0) := (blk_cell BK372.out 2).trans rfl; have hfz38_0 := blk_frozen BK372.out 0; have hfz38_1 := blk_frozen BK372.out 1; have hfz38_2 := blk_frozen BK372.out 2))
          go_roundg k2
          case measure => have := HJ6.out; have := HK2.out; omega
          case rel => exact ⟨(x10_2), (wrap64 (x11_2 + 1)), (by first | rfl | (simp; done) | (simp [*]; done)), H', ⟨by have := HJ6.out; have := HK2.out; omega⟩, ⟨by (with_reducible repeat (first | apply Kd.R_alloc | apply Kd.R_drewN | apply Kd.R_drew)); exact Kd.R_mono (Kd.R_far (p := ⟨gb372, 2, none⟩) (Kd.R_far (p := ⟨gb372, 1, none⟩) (Kd.R_far (p := ⟨gb372, 0, none⟩) (Kd.R_types HO_10.out BK372.out (by decide)) (fun _ hk => hk.2) (.int .i64 ((rd_T26 l0_1 x11_2).f0))) (fun _ hk => hk.2) (.int .i64 ((rd_T26 l0_1 x11_2).f1))) (fun _ hk => hk.2) (.int .i64 ((rd_T26 l0_1 x11_2).f2))) (fun _ hk => trivial)⟩, ⟨by (with_reducible repeat first | apply bN | apply bD | apply bA); refine blk_far ?_ NB367_372.out _; (with_reducible repeat first | apply bN | apply bD | apply bA); refine blk_far ?_ NB367_372.out _; (with_reducible repeat first | apply bN | apply bD | apply bA); refine blk_far ?_ NB367_372.out _; (with_reducible repeat first | apply bN | apply bD | apply bA); exact BK367.out⟩, ⟨eG HB.out⟩⟩
        · rw [if_neg c17] at H; exact absurd H (by simp)
       ·
        rw [if_neg c16] at H; have c16b0 : decide (x11_2 < (l0_1.length : Int)) = false := decide_eq_false c16; clear c16; simp only [Option.some.injEq, Prod.mk.injEq] at H; obtain ⟨rfl, rfl⟩ := H; have hcz39_0 : wr.cell? ⟨gb367, 0, none⟩ = some (.int .i64 a0_0) := (blk_cell BK367.out 0).trans rfl; have hcz39_1 : wr.cell? ⟨gb367, 1, none⟩ = some (.slice A0_1 l0_1.length c0_1) := (blk_cell BK367.out 1).trans rfl; have hfz39_0 := blk_frozen BK367.out 0; have hfz39_1 := blk_frozen BK367.out 1; go_wp2; go_ret2
        exact ⟨_, by first | rfl | (simp [errW_none, errW_some] <;> rfl) | (simp [*, errW_none, errW_some] <;> rfl), by (with_reducible repeat (first | apply Kd.R_alloc | apply Kd.R_drewN | apply Kd.R_drew)); exact HO_10.out, eG HB.out⟩
 ·
  replace c6 := Bool.eq_false_iff.mpr c6; subst c6; replace H : (some (([] : List Int), 1)) = some (r1, r2) := by rw [if_neg (show ¬ (false = true) by decide)] at H; exact H
  simp only [Option.some.injEq, Prod.mk.injEq] at H; obtain ⟨rfl, rfl⟩ := H; go_enter Tryz.func24, Tryz.ntmps24
  go_wp2_with (first | ((with_reducible refine gate_dst (N := 4) rfl ?_); refine box_event ?hg (N := 4) ?hd (cs := #[.int .i64 a0_0, .slice A0_1 l0_1.length c0_1]) (t := 24) ?hr ?_; (case hd => rfl); (case hg => rfl); (case hr => first | (go_simp; done) | (go_simp; rfl)); intro gb367 hg w40 hbox hb; have n0_ := Aside0.mk (below_step (eG HB.out) hb); have n1_ := Aside0.mk (hbox); have n2_ := Aside0.mk ((by rw [hg]; exact (below_size (eG HB.out)) : w.heap.size ≤ gb367)); have n3_ := Aside0.mk ((by rw [hg]; exact (below_size (eG HB.out)) : w.heap.size ≤ gb367)); clear HB; have HB := n0_; have BK367 := n1_; have GW367 := n2_; have GE367 := n3_; have ig367_ := geI GE367; clear n0_ n1_ n2_ n3_; clear hb hbox hg; have hcz41_0 : w40.cell? ⟨gb367, 0, none⟩ = some (.int .i64 a0_0) := (blk_cell BK367.out 0).trans rfl; have hcz41_1 : w40.cell? ⟨gb367, 1, none⟩ = some (.slice A0_1 l0_1.length c0_1) := (blk_cell BK367.out 1).trans rfl; have hfz41_0 := blk_frozen BK367.out 0; have hfz41_1 := blk_frozen BK367.out 1) | ((with_reducible refine gate_callee (f := 44) rfl ?_); refine goesL_ (some 14) rfl rfl Tryz.func44 (by kernel_rfl) rfl #[.agg #[.int .i64 a0_0, .slice A0_1 l0_1.length c0_1]] rfl (by (try simp only [List.map_toArray, List.map_cons, List.map_nil]); first | done | rfl | (simp only [List.length_drop, List.length_take]; rfl)) ?_; (with_reducible refine (spileref46_Right.calls k a0_0 _ _ l0_1 false _ ?side1 ?side2 A5.out).mono ?_); (case side1 => repeat (first | exact (Kd.C_below HR0_1.out HB.out) | (with_reducible refine Kd.C_alloc ?_ _) | (with_reducible refine Kd.C_drewN ?_ _) | (with_reducible refine Kd.C_drew ?_))); (case side2 => exact HC0_1.out); rintro e w42 ⟨rfl, hb⟩; refine ⟨_, rfl, ?_⟩; have n0_ := Aside0.mk (blk_below (bG BK367.out) hb); have n1_ := Aside0.mk (below_step (eG HB.out) hb); clear BK367; clear HB; have BK367 := n0_; have HB := n1_; clear n0_ n1_; (try clear hb); (try clear hb2); (try clear hk); (try clear hi)))
  go_ret2
  exact ⟨_, by first | rfl | (simp [errW_none, errW_some] <;> rfl) | (simp [*, errW_none, errW_some] <;> rfl), by first | exact Kd.R_nil _ _ _ _ _ | exact Kd.N_nil _ _ _ _ _ | exact Kd.V_nil _ _ _ _ _ | exact Kd.Q_nil _ _ _ _ _ | exact Kd.S_nil _ _ _ _ _, eG HB.out⟩
def spilelaw46_TariffRates.j0 : Nat → Int → Int → Int → Bool → Int → List (S26) → Option (Bool)
 | 0, _, _, _, _, _, _ => none
 | k + 1, x1, x2, x3, x27, x377000, x377001 => if x27 = true then ((spilelaw46_awake.f).bind fun t379 => (some t379)) else ((spilelaw46_cp.f x377000 x377001).bind fun bt380 => ((tariff_At.f k bt380.1 bt380.2 x1 x2).bind fun bt384 => ((spileref46_At.f k x377000 x377001 x1 x2).bind fun bt389 => ((spilelaw46_cp.f x377000 x377001).bind fun bt394 => ((tariff_Greatest.f k bt394.1 bt394.2 x1 x2 x3).bind fun bt398 => ((spileref46_Greatest.f k x377000 x377001 x1 x2 x3).bind fun bt403 => ((spilelaw46_cp.f x377000 x377001).bind fun bt408 => ((tariff_Changes.f k bt408.1 bt408.2 x1 x2 x3).bind fun bt412 => ((spileref46_Changes.f k x377000 x377001 x1 x2 x3).bind fun bt416 => (if (bt384.1 == bt389.1 && (bt384.2.1 == bt389.2.1 && (bt384.2.2.1 == bt389.2.2.1))) = true then (if bt384.2.2.2 = bt389.2.2.2 then (if (bt398.1 == bt403.1 && (bt398.2.1 == bt403.2.1 && (bt398.2.2.1 == bt403.2.2.1))) = true then (if bt398.2.2.2 = bt403.2.2.2 then ((slices_Equal_int_int.f k bt412.1 bt416.1).bind fun t420 => (if t420 = true then (some (bt412.2 == bt416.2)) else (some false))) else (some false)) else (some false)) else (some false)) else (some false)))))))))))
def spilelaw46_TariffRates.f (k : Nat) (a0_0 : Int) (l0_1 : List (S26)) (a1 : Int) (a2 : Int) (a3 : Int) : Option (Bool) := (spilelaw46_awake.f).bind fun t377 => (if t377 = true then ((spileref46_Few.f a0_0 l0_1).bind fun t378 => (spilelaw46_TariffRates.j0 k a1 a2 a3 (!t378) a0_0 l0_1)) else (spilelaw46_TariffRates.j0 k a1 a2 a3 true a0_0 l0_1))
set_option maxHeartbeats 8000000 in
set_option maxRecDepth 100000 in
theorem spilelaw46_TariffRates.calls (k : Nat) (a0_0 : Int) (A0_1 : Option Addr) (c0_1 : Nat) (l0_1 : List (S26)) (a1 : Int) (a2 : Int) (a3 : Int) (r : Bool) (w : World) (hr0_1 : Kd.C k26 w A0_1 l0_1.length l0_1) (hc0_1 : l0_1.length ≤ c0_1) (hG : GI w) (hr_ : r = true) (h : spilelaw46_TariffRates.f k a0_0 l0_1 a1 a2 a3 = some r) :
  Calls Tryz.prog 4 #[.agg #[.int .i64 a0_0, .slice A0_1 l0_1.length c0_1], .int .i64 a1, .int .i64 a2, .int .i64 a3] w fun e w' => e = .returned (.bool r) ∧ Below w.heap.size w w' := by
 have hu24 := Tryz.underlying24; have hu26 := Tryz.underlying26; have HR0_1 := Aside0.mk hr0_1; have HC0_1 := Aside0.mk hc0_1; clear hr0_1 hc0_1; have HG := Aside0.mk hG; clear hG; have HB := Aside0.mk (Below.refl w.heap.size w); have H : ((spilelaw46_awake.f).bind fun t377 => (if t377 = true then ((spileref46_Few.f a0_0 l0_1).bind fun t378 => (spilelaw46_TariffRates.j0 k a1 a2 a3 (!t378) a0_0 l0_1)) else (spilelaw46_TariffRates.j0 k a1 a2 a3 true a0_0 l0_1))) = some r := h; clear h; have HC5 := Aside0.mk H; clear H; go_enter Tryz.func4, Tryz.ntmps4
 go_upto_region 1 with (first | ((with_reducible refine gate_dst (N := 4) rfl ?_); refine box_event ?hg (N := 4) ?hd (cs := #[.int .i64 a0_0, .slice A0_1 l0_1.length c0_1]) (t := 24) ?hr ?_; (case hd => rfl); (case hg => rfl); (case hr => first | (go_simp; done) | (go_simp; rfl)); intro gb376 hg w6 hbox hb; have n0_ := Aside0.mk (below_step (eG HB.out) hb); have n1_ := Aside0.mk (hbox); have n2_ := Aside0.mk ((by rw [hg]; exact (below_size (eG HB.out)) : w.heap.size ≤ gb376)); have n3_ := Aside0.mk ((by rw [hg]; exact (below_size (eG HB.out)) : w.heap.size ≤ gb376)); clear HB; have HB := n0_; have BK376 := n1_; have GW376 := n2_; have GE376 := n3_; have ig376_ := geI GE376; clear n0_ n1_ n2_ n3_; clear hb hbox hg))
 (try simp only [Act.put, sIA, sC0, sCS])
 go_cut [27] (fun v27 wc => ∃ (kq : Nat) (x27_4 : Bool), v27 = .bool x27_4 ∧ Aside0 (spilelaw46_TariffRates.j0 kq a1 a2 a3 x27_4 a0_0 l0_1 = some r) ∧ Aside0 (kq ≤ k) ∧ Aside0 (wc.heap[gb376]? = some (.cells #[.int .i64 a0_0, (.slice A0_1 l0_1.length c0_1)] 24 (0, 0))) ∧ Aside0 (Below w.heap.size w wc))
 case first =>
  have H := HC5.out; clear HC5; replace H := Option.bind_eq_some_iff.mp H; obtain ⟨t377, A70, H⟩ := H; replace H : (if t377 = true then ((spileref46_Few.f a0_0 l0_1).bind fun t378 => (spilelaw46_TariffRates.j0 k a1 a2 a3 (!t378) a0_0 l0_1)) else (spilelaw46_TariffRates.j0 k a1 a2 a3 true a0_0 l0_1)) = some r := H; have A7 := Aside0.mk A70; clear A70; by_cases c8 : t377 = true
  ·
   subst c8; replace H : ((spileref46_Few.f a0_0 l0_1).bind fun t378 => (spilelaw46_TariffRates.j0 k a1 a2 a3 (!t378) a0_0 l0_1)) = some r := by rw [if_pos rfl] at H; exact H
   replace H := Option.bind_eq_some_iff.mp H; obtain ⟨t378, A90, H⟩ := H; replace H : (spilelaw46_TariffRates.j0 k a1 a2 a3 (!t378) a0_0 l0_1) = some r := H; have A9 := Aside0.mk A90; clear A90; have H' := Aside0.mk H; clear H; go_wp2_with (first | ((with_reducible refine gate_callee (f := 11) rfl ?_); refine goesL_ (some 21) rfl rfl Tryz.func11 (by kernel_rfl) rfl #[] rfl (by (try simp only [List.map_toArray, List.map_cons, List.map_nil]); first | done | rfl | (simp only [List.length_drop, List.length_take]; rfl)) ?_; (with_reducible refine (spilelaw46_awake.calls  true _ ?side1 A7.out).mono ?_); (case side1 => exact GI.below HG.out (eG HB.out)); rintro e w10 ⟨rfl, hb⟩; refine ⟨_, rfl, ?_⟩; have n0_ := Aside0.mk (blk_below (bG BK376.out) hb); have n1_ := Aside0.mk (below_step (eG HB.out) hb); clear BK376; clear HB; have BK376 := n0_; have HB := n1_; clear n0_ n1_; (try clear hb); (try clear hb2); (try clear hk); (try clear hi); have hcz11_0 : w10.cell? ⟨gb376, 0, none⟩ = some (.int .i64 a0_0) := (blk_cell BK376.out 0).trans rfl; have hcz11_1 : w10.cell? ⟨gb376, 1, none⟩ = some (.slice A0_1 l0_1.length c0_1) := (blk_cell BK376.out 1).trans rfl; have hfz11_0 := blk_frozen BK376.out 0; have hfz11_1 := blk_frozen BK376.out 1) | (go_at_call 12; (with_reducible refine (spileref46_Few.calls a0_0 _ _ l0_1 t378 _ ?side1 ?side2 A9.out).mono ?_); (case side1 => repeat (first | exact (Kd.C_below HR0_1.out HB.out) | (with_reducible refine Kd.C_alloc ?_ _) | (with_reducible refine Kd.C_drewN ?_ _) | (with_reducible refine Kd.C_drew ?_))); (case side2 => exact HC0_1.out); rintro e w12 ⟨rfl, hb⟩; have n0_ := Aside0.mk (blk_below (bG BK376.out) hb); have n1_ := Aside0.mk (below_step (eG HB.out) hb); clear BK376; clear HB; have BK376 := n0_; have HB := n1_; clear n0_ n1_; (try clear hb); (try clear hb2); (try clear hk); (try clear hi)))
   go_meet
   case rel => exact ⟨_, (!t378), (by first | rfl | (simp; done) | (simp [*]; done)), H', ⟨by first | omega | exact Nat.le_refl _⟩, ⟨by (with_reducible repeat first | apply bN | apply bD | apply bA); exact BK376.out⟩, ⟨eG HB.out⟩⟩
  ·
   replace c8 := Bool.eq_false_iff.mpr c8; subst c8; replace H : (spilelaw46_TariffRates.j0 k a1 a2 a3 true a0_0 l0_1) = some r := by rw [if_neg (show ¬ (false = true) by decide)] at H; exact H
   have H' := Aside0.mk H; clear H; go_wp2_with (first | ((with_reducible refine gate_callee (f := 11) rfl ?_); refine goesL_ (some 21) rfl rfl Tryz.func11 (by kernel_rfl) rfl #[] rfl (by (try simp only [List.map_toArray, List.map_cons, List.map_nil]); first | done | rfl | (simp only [List.length_drop, List.length_take]; rfl)) ?_; (with_reducible refine (spilelaw46_awake.calls  false _ ?side1 A7.out).mono ?_); (case side1 => exact GI.below HG.out (eG HB.out)); rintro e w13 ⟨rfl, hb⟩; refine ⟨_, rfl, ?_⟩; have n0_ := Aside0.mk (blk_below (bG BK376.out) hb); have n1_ := Aside0.mk (below_step (eG HB.out) hb); clear BK376; clear HB; have BK376 := n0_; have HB := n1_; clear n0_ n1_; (try clear hb); (try clear hb2); (try clear hk); (try clear hi)))
   go_meet
   case rel => exact ⟨_, (true), (by first | rfl | (simp; done) | (simp [*]; done)), H', ⟨by first | omega | exact Nat.le_refl _⟩, ⟨by (with_reducible repeat first | apply bN | apply bD | apply bA); exact BK376.out⟩, ⟨eG HB.out⟩⟩
 case rest =>
  clear HC5; repeat first | clear c1 | clear p2 | clear c4 | clear c8 | clear c11 | clear hcz11_0 | clear hcz11_1 | clear hfz11_0 | clear hfz11_1
  obtain ⟨kq, x27_4, rfl, HA, HJ4, BK376, HB⟩ := hcut
  cases kq with
  | zero => exact absurd HA.out (by simp [spilelaw46_TariffRates.j0])
  | succ kj4 =>
   have H := HA.out; clear HA; simp only [spilelaw46_TariffRates.j0] at H; by_cases c14 : x27_4 = true
   ·
    subst c14; replace H : ((spilelaw46_awake.f).bind fun t379 => (some t379)) = some r := by rw [if_pos rfl] at H; exact H
    replace H := Option.bind_eq_some_iff.mp H; obtain ⟨t379, A150, H⟩ := H; replace H : (some t379) = some r := H; have A15 := Aside0.mk A150; clear A150; obtain rfl := Option.some.inj H; go_wp2_with (first | ((with_reducible refine gate_callee (f := 11) rfl ?_); refine goesL_ (some 28) rfl rfl Tryz.func11 (by kernel_rfl) rfl #[] rfl (by (try simp only [List.map_toArray, List.map_cons, List.map_nil]); first | done | rfl | (simp only [List.length_drop, List.length_take]; rfl)) ?_; (with_reducible refine (spilelaw46_awake.calls  t379 _ ?side1 A15.out).mono ?_); (case side1 => exact GI.below HG.out (eG HB.out)); rintro e w16 ⟨rfl, hb⟩; refine ⟨_, rfl, ?_⟩; have n0_ := Aside0.mk (blk_below (bG BK376.out) hb); have n1_ := Aside0.mk (below_step (eG HB.out) hb); clear BK376; clear HB; have BK376 := n0_; have HB := n1_; clear n0_ n1_; (try clear hb); (try clear hb2); (try clear hk); (try clear hi)))
    go_ret
    exact ⟨by first | rfl | (simp [errW_none, errW_some] <;> rfl) | (simp [*, errW_none, errW_some] <;> rfl), eG HB.out⟩
   ·
    replace c14 := Bool.eq_false_iff.mpr c14; subst c14; replace H : ((spilelaw46_cp.f a0_0 l0_1).bind fun bt380 => ((tariff_At.f kj4 bt380.1 bt380.2 a1 a2).bind fun bt384 => ((spileref46_At.f kj4 a0_0 l0_1 a1 a2).bind fun bt389 => ((spilelaw46_cp.f a0_0 l0_1).bind fun bt394 => ((tariff_Greatest.f kj4 bt394.1 bt394.2 a1 a2 a3).bind fun bt398 => ((spileref46_Greatest.f kj4 a0_0 l0_1 a1 a2 a3).bind fun bt403 => ((spilelaw46_cp.f a0_0 l0_1).bind fun bt408 => ((tariff_Changes.f kj4 bt408.1 bt408.2 a1 a2 a3).bind fun bt412 => ((spileref46_Changes.f kj4 a0_0 l0_1 a1 a2 a3).bind fun bt416 => (if (bt384.1 == bt389.1 && (bt384.2.1 == bt389.2.1 && (bt384.2.2.1 == bt389.2.2.1))) = true then (if bt384.2.2.2 = bt389.2.2.2 then (if (bt398.1 == bt403.1 && (bt398.2.1 == bt403.2.1 && (bt398.2.2.1 == bt403.2.2.1))) = true then (if bt398.2.2.2 = bt403.2.2.2 then ((slices_Equal_int_int.f kj4 bt412.1 bt416.1).bind fun t420 => (if t420 = true then (some (bt412.2 == bt416.2)) else (some false))) else (some false)) else (some false)) else (some false)) else (some false))))))))))) = some r := by rw [if_neg (show ¬ (false = true) by decide)] at H; exact H
    replace H := Option.bind_eq_some_iff.mp H; obtain ⟨⟨t380, t381⟩, A170, H⟩ := H; replace H : ((tariff_At.f kj4 t380 t381 a1 a2).bind fun bt384 => ((spileref46_At.f kj4 a0_0 l0_1 a1 a2).bind fun bt389 => ((spilelaw46_cp.f a0_0 l0_1).bind fun bt394 => ((tariff_Greatest.f kj4 bt394.1 bt394.2 a1 a2 a3).bind fun bt398 => ((spileref46_Greatest.f kj4 a0_0 l0_1 a1 a2 a3).bind fun bt403 => ((spilelaw46_cp.f a0_0 l0_1).bind fun bt408 => ((tariff_Changes.f kj4 bt408.1 bt408.2 a1 a2 a3).bind fun bt412 => ((spileref46_Changes.f kj4 a0_0 l0_1 a1 a2 a3).bind fun bt416 => (if (bt384.1 == bt389.1 && (bt384.2.1 == bt389.2.1 && (bt384.2.2.1 == bt389.2.2.1))) = true then (if bt384.2.2.2 = bt389.2.2.2 then (if (bt398.1 == bt403.1 && (bt398.2.1 == bt403.2.1 && (bt398.2.2.1 == bt403.2.2.1))) = true then (if bt398.2.2.2 = bt403.2.2.2 then ((slices_Equal_int_int.f kj4 bt412.1 bt416.1).bind fun t420 => (if t420 = true then (some (bt412.2 == bt416.2)) else (some false))) else (some false)) else (some false)) else (some false)) else (some false)))))))))) = some r := H; have A17 := Aside0.mk A170; clear A170; replace H := Option.bind_eq_some_iff.mp H; obtain ⟨⟨t384, t385, t386, t387⟩, A180, H⟩ := H; replace H : ((spileref46_At.f kj4 a0_0 l0_1 a1 a2).bind fun bt389 => ((spilelaw46_cp.f a0_0 l0_1).bind fun bt394 => ((tariff_Greatest.f kj4 bt394.1 bt394.2 a1 a2 a3).bind fun bt398 => ((spileref46_Greatest.f kj4 a0_0 l0_1 a1 a2 a3).bind fun bt403 => ((spilelaw46_cp.f a0_0 l0_1).bind fun bt408 => ((tariff_Changes.f kj4 bt408.1 bt408.2 a1 a2 a3).bind fun bt412 => ((spileref46_Changes.f kj4 a0_0 l0_1 a1 a2 a3).bind fun bt416 => (if (t384 == bt389.1 && (t385 == bt389.2.1 && (t386 == bt389.2.2.1))) = true then (if t387 = bt389.2.2.2 then (if (bt398.1 == bt403.1 && (bt398.2.1 == bt403.2.1 && (bt398.2.2.1 == bt403.2.2.1))) = true then (if bt398.2.2.2 = bt403.2.2.2 then ((slices_Equal_int_int.f kj4 bt412.1 bt416.1).bind fun t420 => (if t420 = true then (some (bt412.2 == bt416.2)) else (some false))) else (some false)) else (some false)) else (some false)) else (some false))))))))) = some r := H; have A18 := Aside0.mk A180; clear A180; replace H := Option.bind_eq_some_iff.mp H; obtain ⟨⟨t389, t390, t391, t392⟩, A190, H⟩ := H; replace H : ((spilelaw46_cp.f a0_0 l0_1).bind fun bt394 => ((tariff_Greatest.f kj4 bt394.1 bt394.2 a1 a2 a3).bind fun bt398 => ((spileref46_Greatest.f kj4 a0_0 l0_1 a1 a2 a3).bind fun bt403 => ((spilelaw46_cp.f a0_0 l0_1).bind fun bt408 => ((tariff_Changes.f kj4 bt408.1 bt408.2 a1 a2 a3).bind fun bt412 => ((spileref46_Changes.f kj4 a0_0 l0_1 a1 a2 a3).bind fun bt416 => (if (t384 == t389 && (t385 == t390 && (t386 == t391))) = true then (if t387 = t392 then (if (bt398.1 == bt403.1 && (bt398.2.1 == bt403.2.1 && (bt398.2.2.1 == bt403.2.2.1))) = true then (if bt398.2.2.2 = bt403.2.2.2 then ((slices_Equal_int_int.f kj4 bt412.1 bt416.1).bind fun t420 => (if t420 = true then (some (bt412.2 == bt416.2)) else (some false))) else (some false)) else (some false)) else (some false)) else (some false)))))))) = some r := H; have A19 := Aside0.mk A190; clear A190; replace H := Option.bind_eq_some_iff.mp H; obtain ⟨⟨t394, t395⟩, A200, H⟩ := H; replace H : ((tariff_Greatest.f kj4 t394 t395 a1 a2 a3).bind fun bt398 => ((spileref46_Greatest.f kj4 a0_0 l0_1 a1 a2 a3).bind fun bt403 => ((spilelaw46_cp.f a0_0 l0_1).bind fun bt408 => ((tariff_Changes.f kj4 bt408.1 bt408.2 a1 a2 a3).bind fun bt412 => ((spileref46_Changes.f kj4 a0_0 l0_1 a1 a2 a3).bind fun bt416 => (if (t384 == t389 && (t385 == t390 && (t386 == t391))) = true then (if t387 = t392 then (if (bt398.1 == bt403.1 && (bt398.2.1 == bt403.2.1 && (bt398.2.2.1 == bt403.2.2.1))) = true then (if bt398.2.2.2 = bt403.2.2.2 then ((slices_Equal_int_int.f kj4 bt412.1 bt416.1).bind fun t420 => (if t420 = true then (some (bt412.2 == bt416.2)) else (some false))) else (some false)) else (some false)) else (some false)) else (some false))))))) = some r := H; have A20 := Aside0.mk A200; clear A200; replace H := Option.bind_eq_some_iff.mp H; obtain ⟨⟨t398, t399, t400, t401⟩, A210, H⟩ := H; replace H : ((spileref46_Greatest.f kj4 a0_0 l0_1 a1 a2 a3).bind fun bt403 => ((spilelaw46_cp.f a0_0 l0_1).bind fun bt408 => ((tariff_Changes.f kj4 bt408.1 bt408.2 a1 a2 a3).bind fun bt412 => ((spileref46_Changes.f kj4 a0_0 l0_1 a1 a2 a3).bind fun bt416 => (if (t384 == t389 && (t385 == t390 && (t386 == t391))) = true then (if t387 = t392 then (if (t398 == bt403.1 && (t399 == bt403.2.1 && (t400 == bt403.2.2.1))) = true then (if t401 = bt403.2.2.2 then ((slices_Equal_int_int.f kj4 bt412.1 bt416.1).bind fun t420 => (if t420 = true then (some (bt412.2 == bt416.2)) else (some false))) else (some false)) else (some false)) else (some false)) else (some false)))))) = some r := H; have A21 := Aside0.mk A210; clear A210; replace H := Option.bind_eq_some_iff.mp H; obtain ⟨⟨t403, t404, t405, t406⟩, A220, H⟩ := H; replace H : ((spilelaw46_cp.f a0_0 l0_1).bind fun bt408 => ((tariff_Changes.f kj4 bt408.1 bt408.2 a1 a2 a3).bind fun bt412 => ((spileref46_Changes.f kj4 a0_0 l0_1 a1 a2 a3).bind fun bt416 => (if (t384 == t389 && (t385 == t390 && (t386 == t391))) = true then (if t387 = t392 then (if (t398 == t403 && (t399 == t404 && (t400 == t405))) = true then (if t401 = t406 then ((slices_Equal_int_int.f kj4 bt412.1 bt416.1).bind fun t420 => (if t420 = true then (some (bt412.2 == bt416.2)) else (some false))) else (some false)) else (some false)) else (some false)) else (some false))))) = some r := H; have A22 := Aside0.mk A220; clear A220; replace H := Option.bind_eq_some_iff.mp H; obtain ⟨⟨t408, t409⟩, A230, H⟩ := H; replace H : ((tariff_Changes.f kj4 t408 t409 a1 a2 a3).bind fun bt412 => ((spileref46_Changes.f kj4 a0_0 l0_1 a1 a2 a3).bind fun bt416 => (if (t384 == t389 && (t385 == t390 && (t386 == t391))) = true then (if t387 = t392 then (if (t398 == t403 && (t399 == t404 && (t400 == t405))) = true then (if t401 = t406 then ((slices_Equal_int_int.f kj4 bt412.1 bt416.1).bind fun t420 => (if t420 = true then (some (bt412.2 == bt416.2)) else (some false))) else (some false)) else (some false)) else (some false)) else (some false)))) = some r := H; have A23 := Aside0.mk A230; clear A230; replace H := Option.bind_eq_some_iff.mp H; obtain ⟨⟨t412, t415⟩, A240, H⟩ := H; replace H : ((spileref46_Changes.f kj4 a0_0 l0_1 a1 a2 a3).bind fun bt416 => (if (t384 == t389 && (t385 == t390 && (t386 == t391))) = true then (if t387 = t392 then (if (t398 == t403 && (t399 == t404 && (t400 == t405))) = true then (if t401 = t406 then ((slices_Equal_int_int.f kj4 t412 bt416.1).bind fun t420 => (if t420 = true then (some (t415 == bt416.2)) else (some false))) else (some false)) else (some false)) else (some false)) else (some false))) = some r := H; have A24 := Aside0.mk A240; clear A240; replace H := Option.bind_eq_some_iff.mp H; obtain ⟨⟨t416, t419⟩, A250, H⟩ := H; replace H : (if (t384 == t389 && (t385 == t390 && (t386 == t391))) = true then (if t387 = t392 then (if (t398 == t403 && (t399 == t404 && (t400 == t405))) = true then (if t401 = t406 then ((slices_Equal_int_int.f kj4 t412 t416).bind fun t420 => (if t420 = true then (some (t415 == t419)) else (some false))) else (some false)) else (some false)) else (some false)) else (some false)) = some r := H; have A25 := Aside0.mk A250; clear A250; by_cases c26 : (t384 == t389 && (t385 == t390 && (t386 == t391))) = true
    ·
     rw [if_pos c26] at H; have c26b0 : (t384 == t389 && (t385 == t390 && (t386 == t391))) = true := c26; (try (have c26b1 : decide (t384 = t389 && (t385 == t390 && (t386 == t391))) = true := by simpa using c26))
     (try (have c26b2 : (t384 == t389 && (t385 == t390 && (t386 == t391))) = true := by simpa using c26))
     clear c26; by_cases c27 : t387 = t392
     ·
      rw [if_pos c27] at H; have c27b0 : (t387 == t392) = true := beq_iff_eq.mpr c27; have c27b1 : (t387 != t392) = false := bne_eq_false_iff_eq.mpr c27; clear c27; by_cases c28 : (t398 == t403 && (t399 == t404 && (t400 == t405))) = true
      ·
       rw [if_pos c28] at H; have c28b0 : (t398 == t403 && (t399 == t404 && (t400 == t405))) = true := c28; (try (have c28b1 : decide (t398 = t403 && (t399 == t404 && (t400 == t405))) = true := by simpa using c28))
       (try (have c28b2 : (t398 == t403 && (t399 == t404 && (t400 == t405))) = true := by simpa using c28))
       clear c28; by_cases c29 : t401 = t406
       ·
        rw [if_pos c29] at H; have c29b0 : (t401 == t406) = true := beq_iff_eq.mpr c29; have c29b1 : (t401 != t406) = false := bne_eq_false_iff_eq.mpr c29; clear c29; replace H := Option.bind_eq_some_iff.mp H; obtain ⟨t420, A300, H⟩ := H; replace H : (if t420 = true then (some (t415 == t419)) else (some false)) = some r := H; have A30 := Aside0.mk A300; clear A300; by_cases c31 : t420 = true
        ·
         subst c31; replace H : (some (t415 == t419)) = some r := by rw [if_pos rfl] at H; exact H
         obtain rfl := Option.some.inj H; have hcz32_0 : wc.cell? ⟨gb376, 0, none⟩ = some (.int .i64 a0_0) := (blk_cell BK376.out 0).trans rfl; have hcz32_1 : wc.cell? ⟨gb376, 1, none⟩ = some (.slice A0_1 l0_1.length c0_1) := (blk_cell BK376.out 1).trans rfl; have hfz32_0 := blk_frozen BK376.out 0; have hfz32_1 := blk_frozen BK376.out 1; go_wp2_with (first | ((with_reducible refine gate_callee (f := 14) rfl ?_); refine goesL_ (some 31) rfl rfl Tryz.func14 (by kernel_rfl) rfl #[.agg #[.int .i64 a0_0, .slice A0_1 l0_1.length c0_1]] rfl (by (try simp only [List.map_toArray, List.map_cons, List.map_nil]); first | done | rfl | (simp only [List.length_drop, List.length_take]; rfl)) ?_; (with_reducible refine (spilelaw46_cp.calls a0_0 _ _ l0_1 t380 t381 _ ?side1 ?side2 A17.out).mono ?_); (case side1 => repeat (first | exact (Kd.C_below HR0_1.out HB.out) | (with_reducible refine Kd.C_alloc ?_ _) | (with_reducible refine Kd.C_drewN ?_ _) | (with_reducible refine Kd.C_drew ?_))); (case side2 => exact HC0_1.out); rintro e w33 ⟨v382, rfl, ho0, hb⟩; refine ⟨_, rfl, ?_⟩; have n0_ := Aside0.mk (Kd.R_lower ho0 (below_size (eG HB.out))); have n1_ := Aside0.mk (blk_below (bG BK376.out) hb); have n2_ := Aside0.mk (below_step (eG HB.out) hb); clear BK376; clear HB; have HO383 := n0_; have BK376 := n1_; have HB := n2_; clear n0_ n1_ n2_; (try clear hb); (try clear hb2); (try clear hk); (try clear hi); (try clear ho0); obtain ⟨Ao34, co34, eo34⟩ := Kd.R_slice HO383.out; subst eo34) | ((with_reducible refine gate_callee (f := 19) rfl ?_); refine goesL_ (some 34) rfl rfl Tryz.func19 (by kernel_rfl) rfl #[.agg #[.int .i64 t380, .slice Ao34 t381.length co34], .int .i64 a1, .int .i64 a2] rfl (by (try simp only [List.map_toArray, List.map_cons, List.map_nil]); first | done | rfl | (simp only [List.length_drop, List.length_take]; rfl)) ?_; (with_reducible refine (tariff_At.calls kj4 t380 _ _ t381 a1 a2 t384 t385 t386 t387 _ ?side1 ?side2 A18.out).mono ?_); (case side1 => repeat (first | exact (Kd.R_reads' HO383.out).2.2 | (with_reducible refine Kd.C_alloc ?_ _) | (with_reducible refine Kd.C_drewN ?_ _) | (with_reducible refine Kd.C_drew ?_))); (case side2 => exact (Kd.R_reads' HO383.out).2.1); rintro e w35 ⟨rfl, hb⟩; refine ⟨_, rfl, ?_⟩; have n0_ := Aside0.mk (Kd.R_below (rG HO383.out) hb); have n1_ := Aside0.mk (blk_below (bG BK376.out) hb); have n2_ := Aside0.mk (below_step (eG HB.out) hb); clear HO383; clear BK376; clear HB; have HO383 := n0_; have BK376 := n1_; have HB := n2_; clear n0_ n1_ n2_; (try clear hb); (try clear hb2); (try clear hk); (try clear hi)) | ((with_reducible refine gate_dst (N := 9) rfl ?_); refine box_event ?hg (N := 9) ?hd (cs := #[.int .i64 0, .int .i64 0, .int .i64 0]) (t := 26) ?hr ?_; (case hd => rfl); (case hg => rfl); (case hr => first | (go_simp; done) | (go_simp; rfl)); intro gb388 hg w36 hbox hb; have n0_ := Aside0.mk (Kd.R_below (Kd.R_elderB (rG HO383.out) gb388 (Nat.le_of_eq hg.symm)) hb); have n1_ := Aside0.mk (blk_below (bG BK376.out) hb); have n2_ := Aside0.mk (below_step (eG HB.out) hb); have n3_ := Aside0.mk (hbox); have n4_ := Aside0.mk ((by rw [hg]; exact (below_size (eG HB.out)) : w.heap.size ≤ gb388)); have n5_ := Aside0.mk ((by rw [hg]; exact (below_size (eG HB.out)) : w.heap.size ≤ gb388)); have n6_ := Aside0.mk ((by rw [hg]; exact Nat.ne_of_lt (blk_lt (bG BK376.out)) : gb376 ≠ gb388)); have n7_ := Aside0.mk ((by rw [hg]; exact Nat.ne_of_gt (blk_lt (bG BK376.out)) : gb388 ≠ gb376)); clear HO383; clear BK376; clear HB; have HO383 := n0_; have BK376 := n1_; have HB := n2_; have BK388 := n3_; have GW388 := n4_; have GE388 := n5_; have ig388_ := geI GE388; have NB376_388 := n6_; have NB388_376 := n7_; clear n0_ n1_ n2_ n3_ n4_ n5_ n6_ n7_; clear hb hbox hg; have hnb37 := NB388_376.out; have hnc37 := NB376_388.out; have hcz38_0 : w36.cell? ⟨gb388, 0, none⟩ = some (.int .i64 0) := (blk_cell BK388.out 0).trans rfl; have hcz38_1 : w36.cell? ⟨gb388, 1, none⟩ = some (.int .i64 0) := (blk_cell BK388.out 1).trans rfl; have hcz38_2 : w36.cell? ⟨gb388, 2, none⟩ = some (.int .i64 0) := (blk_cell BK388.out 2).trans rfl; have hfz38_0 := blk_frozen BK388.out 0; have hfz38_1 := blk_frozen BK388.out 1; have hfz38_2 := blk_frozen BK388.out 2; have hcz39_0 : w36.cell? ⟨gb376, 0, none⟩ = some (.int .i64 a0_0) := (blk_cell BK376.out 0).trans rfl; have hcz39_1 : w36.cell? ⟨gb376, 1, none⟩ = some (.slice A0_1 l0_1.length c0_1) := (blk_cell BK376.out 1).trans rfl; have hfz39_0 := blk_frozen BK376.out 0; have hfz39_1 := blk_frozen BK376.out 1) | ((with_reducible refine gate_callee (f := 20) rfl ?_); refine goesL_ (some 41) rfl rfl Tryz.func20 (by kernel_rfl) rfl #[.agg #[.int .i64 a0_0, .slice A0_1 l0_1.length c0_1], .int .i64 a1, .int .i64 a2] rfl (by (try simp only [List.map_toArray, List.map_cons, List.map_nil]); first | done | rfl | (simp only [List.length_drop, List.length_take]; rfl)) ?_; (with_reducible refine (spileref46_At.calls kj4 a0_0 _ _ l0_1 a1 a2 t389 t390 t391 t392 _ ?side1 ?side2 A19.out).mono ?_); (case side1 => exact Kd.C_below HR0_1.out (eG HB.out)); (case side2 => exact HC0_1.out); rintro e w40 ⟨rfl, hb⟩; refine ⟨_, rfl, ?_⟩; have n0_ := Aside0.mk (Kd.R_below (by (with_reducible repeat (first | apply Kd.R_alloc | apply Kd.R_drewN | apply Kd.R_drew)); exact (Kd.R_mono (Kd.R_far (p := ⟨gb388, 2, none⟩) (Kd.R_far (p := ⟨gb388, 1, none⟩) (Kd.R_far (p := ⟨gb388, 0, none⟩) (Kd.R_mono HO383.out (fun k_ hk => (⟨hk, hk.2⟩ : _ ∧ k_ ≠ gb388))) (fun _ hk => hk.2) (.int .i64 t384)) (fun _ hk => hk.2) (.int .i64 t385)) (fun _ hk => hk.2) (.int .i64 t386)) (fun _ h_ => h_.1))) hb); have n1_ := Aside0.mk (blk_below (g := gb376) (o := .cells #[.int .i64 a0_0, .slice A0_1 l0_1.length c0_1] 24 (0, 0)) (by (with_reducible repeat first | apply bN | apply bD | apply bA); refine blk_far ?_ NB376_388.out _; (with_reducible repeat first | apply bN | apply bD | apply bA); refine blk_far ?_ NB376_388.out _; (with_reducible repeat first | apply bN | apply bD | apply bA); refine blk_far ?_ NB376_388.out _; (with_reducible repeat first | apply bN | apply bD | apply bA); exact BK376.out) hb); have n2_ := Aside0.mk (blk_below (g := gb388) (o := .cells #[.int .i64 t384, .int .i64 t385, .int .i64 t386] 26 (0, 0)) (by (with_reducible repeat first | apply bN | apply bD | apply bA); refine blk_put (cs := #[.int .i64 t384, .int .i64 t385, .int .i64 0]) ?_ 2 _ rfl; (with_reducible repeat first | apply bN | apply bD | apply bA); refine blk_put (cs := #[.int .i64 t384, .int .i64 0, .int .i64 0]) ?_ 1 _ rfl; (with_reducible repeat first | apply bN | apply bD | apply bA); refine blk_put (cs := #[.int .i64 0, .int .i64 0, .int .i64 0]) ?_ 0 _ rfl; (with_reducible repeat first | apply bN | apply bD | apply bA); exact BK388.out) hb); have n3_ := Aside0.mk (below_step (eG HB.out) hb); clear HO383; clear BK376; clear BK388; clear HB; have HO383 := n0_; have BK376 := n1_; have BK388 := n2_; have HB := n3_; clear n0_ n1_ n2_ n3_; (try clear hb); (try clear hb2); (try clear hk); (try clear hi)) | ((with_reducible refine gate_dst (N := 11) rfl ?_); refine box_event ?hg (N := 11) ?hd (cs := #[.int .i64 0, .int .i64 0, .int .i64 0]) (t := 26) ?hr ?_; (case hd => rfl); (case hg => rfl); (case hr => first | (go_simp; done) | (go_simp; rfl)); intro gb393 hg w41 hbox hb; have n0_ := Aside0.mk (Kd.R_below (Kd.R_elderB (rG HO383.out) gb393 (Nat.le_of_eq hg.symm)) hb); have n1_ := Aside0.mk (blk_below (bG BK376.out) hb); have n2_ := Aside0.mk (blk_below (bG BK388.out) hb); have n3_ := Aside0.mk (below_step (eG HB.out) hb); have n4_ := Aside0.mk (hbox); have n5_ := Aside0.mk ((by rw [hg]; exact (below_size (eG HB.out)) : w.heap.size ≤ gb393)); have n6_ := Aside0.mk ((by rw [hg]; exact (below_size (eG HB.out)) : w.heap.size ≤ gb393)); have n7_ := Aside0.mk ((by rw [hg]; exact Nat.ne_of_lt (blk_lt (bG BK376.out)) : gb376 ≠ gb393)); have n8_ := Aside0.mk ((by rw [hg]; exact Nat.ne_of_gt (blk_lt (bG BK376.out)) : gb393 ≠ gb376)); have n9_ := Aside0.mk ((by rw [hg]; exact Nat.ne_of_lt (blk_lt (bG BK388.out)) : gb388 ≠ gb393)); have n10_ := Aside0.mk ((by rw [hg]; exact Nat.ne_of_gt (blk_lt (bG BK388.out)) : gb393 ≠ gb388)); clear HO383; clear BK376; clear BK388; clear HB; have HO383 := n0_; have BK376 := n1_; have BK388 := n2_; have HB := n3_; have BK393 := n4_; have GW393 := n5_; have GE393 := n6_; have ig393_ := geI GE393; have NB376_393 := n7_; have NB393_376 := n8_; have NB388_393 := n9_; have NB393_388 := n10_; clear n0_ n1_ n2_ n3_ n4_ n5_ n6_ n7_ n8_ n9_ n10_; clear hb hbox hg; have hnb42 := NB393_376.out; have hnc42 := NB376_393.out; have hnb43 := NB393_388.out; have hnc43 := NB388_393.out; have hcz44_0 : w41.cell? ⟨gb393, 0, none⟩ = some (.int .i64 0) := (blk_cell BK393.out 0).trans rfl; have hcz44_1 : w41.cell? ⟨gb393, 1, none⟩ = some (.int .i64 0) := (blk_cell BK393.out 1).trans rfl; have hcz44_2 : w41.cell? ⟨gb393, 2, none⟩ = some (.int .i64 0) := (blk_cell BK393.out 2).trans rfl; have hfz44_0 := blk_frozen BK393.out 0; have hfz44_1 := blk_frozen BK393.out 1; have hfz44_2 := blk_frozen BK393.out 2; have hcz45_0 : w41.cell? ⟨gb376, 0, none⟩ = some (.int .i64 a0_0) := (blk_cell BK376.out 0).trans rfl; have hcz45_1 : w41.cell? ⟨gb376, 1, none⟩ = some (.slice A0_1 l0_1.length c0_1) := (blk_cell BK376.out 1).trans rfl; have hfz45_0 := blk_frozen BK376.out 0; have hfz45_1 := blk_frozen BK376.out 1) | ((with_reducible refine gate_callee (f := 14) rfl ?_); refine goesL_ (some 46) rfl rfl Tryz.func14 (by kernel_rfl) rfl #[.agg #[.int .i64 a0_0, .slice A0_1 l0_1.length c0_1]] rfl (by (try simp only [List.map_toArray, List.map_cons, List.map_nil]); first | done | rfl | (simp only [List.length_drop, List.length_take]; rfl)) ?_; (with_reducible refine (spilelaw46_cp.calls a0_0 _ _ l0_1 t394 t395 _ ?side1 ?side2 A20.out).mono ?_); (case side1 => exact Kd.C_below HR0_1.out (eG HB.out)); (case side2 => exact HC0_1.out); rintro e w46 ⟨v396, rfl, ho0, hb⟩; refine ⟨_, rfl, ?_⟩; have n0_ := Aside0.mk (Kd.R_elder' (by (with_reducible repeat (first | apply Kd.R_alloc | apply Kd.R_drewN | apply Kd.R_drew)); exact (Kd.R_mono (Kd.R_far (p := ⟨gb393, 2, none⟩) (Kd.R_far (p := ⟨gb393, 1, none⟩) (Kd.R_far (p := ⟨gb393, 0, none⟩) (Kd.R_mono HO383.out (fun k_ hk => (⟨hk, hk.2⟩ : _ ∧ k_ ≠ gb393))) (fun _ hk => hk.2) (.int .i64 t389)) (fun _ hk => hk.2) (.int .i64 t390)) (fun _ hk => hk.2) (.int .i64 t391)) (fun _ h_ => h_.1))) (Kd.R_base ho0) hb); have n1_ := Aside0.mk (Kd.R_lower (Kd.R_newB (Kd.R_newB (Kd.R_new' ho0 (Kd.R_lt (by (with_reducible repeat (first | apply Kd.R_alloc | apply Kd.R_drewN | apply Kd.R_drew)); exact (Kd.R_mono (Kd.R_far (p := ⟨gb393, 2, none⟩) (Kd.R_far (p := ⟨gb393, 1, none⟩) (Kd.R_far (p := ⟨gb393, 0, none⟩) (Kd.R_mono HO383.out (fun k_ hk => (⟨hk, hk.2⟩ : _ ∧ k_ ≠ gb393))) (fun _ hk => hk.2) (.int .i64 t389)) (fun _ hk => hk.2) (.int .i64 t390)) (fun _ hk => hk.2) (.int .i64 t391)) (fun _ h_ => h_.1))))) (g := gb388) (o := .cells #[.int .i64 t384, .int .i64 t385, .int .i64 t386] 26 (0, 0)) (by (with_reducible repeat first | apply bN | apply bD | apply bA); refine blk_far ?_ NB388_393.out _; (with_reducible repeat first | apply bN | apply bD | apply bA); refine blk_far ?_ NB388_393.out _; (with_reducible repeat first | apply bN | apply bD | apply bA); refine blk_far ?_ NB388_393.out _; (with_reducible repeat first | apply bN | apply bD | apply bA); exact BK388.out)) (g := gb393) (o := .cells #[.int .i64 t389, .int .i64 t390, .int .i64 t391] 26 (0, 0)) (by (with_reducible repeat first | apply bN | apply bD | apply bA); refine blk_put (cs := #[.int .i64 t389, .int .i64 t390, .int .i64 0]) ?_ 2 _ rfl; (with_reducible repeat first | apply bN | apply bD | apply bA); refine blk_put (cs := #[.int .i64 t389, .int .i64 0, .int .i64 0]) ?_ 1 _ rfl; (with_reducible repeat first | apply bN | apply bD | apply bA); refine blk_put (cs := #[.int .i64 0, .int .i64 0, .int .i64 0]) ?_ 0 _ rfl; (with_reducible repeat first | apply bN | apply bD | apply bA); exact BK393.out)) (below_size (eG HB.out))); have n2_ := Aside0.mk (blk_below (g := gb376) (o := .cells #[.int .i64 a0_0, .slice A0_1 l0_1.length c0_1] 24 (0, 0)) (by (with_reducible repeat first | apply bN | apply bD | apply bA); refine blk_far ?_ NB376_393.out _; (with_reducible repeat first | apply bN | apply bD | apply bA); refine blk_far ?_ NB376_393.out _; (with_reducible repeat first | apply bN | apply bD | apply bA); refine blk_far ?_ NB376_393.out _; (with_reducible repeat first | apply bN | apply bD | apply bA); exact BK376.out) hb); have n3_ := Aside0.mk (blk_below (g := gb388) (o := .cells #[.int .i64 t384, .int .i64 t385, .int .i64 t386] 26 (0, 0)) (by (with_reducible repeat first | apply bN | apply bD | apply bA); refine blk_far ?_ NB388_393.out _; (with_reducible repeat first | apply bN | apply bD | apply bA); refine blk_far ?_ NB388_393.out _; (with_reducible repeat first | apply bN | apply bD | apply bA); refine blk_far ?_ NB388_393.out _; (with_reducible repeat first | apply bN | apply bD | apply bA); exact BK388.out) hb); have n4_ := Aside0.mk (blk_below (g := gb393) (o := .cells #[.int .i64 t389, .int .i64 t390, .int .i64 t391] 26 (0, 0)) (by (with_reducible repeat first | apply bN | apply bD | apply bA); refine blk_put (cs := #[.int .i64 t389, .int .i64 t390, .int .i64 0]) ?_ 2 _ rfl; (with_reducible repeat first | apply bN | apply bD | apply bA); refine blk_put (cs := #[.int .i64 t389, .int .i64 0, .int .i64 0]) ?_ 1 _ rfl; (with_reducible repeat first | apply bN | apply bD | apply bA); refine blk_put (cs := #[.int .i64 0, .int .i64 0, .int .i64 0]) ?_ 0 _ rfl; (with_reducible repeat first | apply bN | apply bD | apply bA); exact BK393.out) hb); have n5_ := Aside0.mk (below_step (eG HB.out) hb); clear HO383; clear BK376; clear BK388; clear BK393; clear HB; have HO383 := n0_; have HO397 := n1_; have BK376 := n2_; have BK388 := n3_; have BK393 := n4_; have HB := n5_; clear n0_ n1_ n2_ n3_ n4_ n5_; (try clear hb); (try clear hb2); (try clear hk); (try clear hi); (try clear ho0); obtain ⟨Ao47, co47, eo47⟩ := Kd.R_slice HO397.out; subst eo47) | ((with_reducible refine gate_callee (f := 21) rfl ?_); refine goesL_ (some 50) rfl rfl Tryz.func21 (by kernel_rfl) rfl #[.agg #[.int .i64 t394, .slice Ao47 t395.length co47], .int .i64 a1, .int .i64 a2, .int .i64 a3] rfl (by (try simp only [List.map_toArray, List.map_cons, List.map_nil]); first | done | rfl | (simp only [List.length_drop, List.length_take]; rfl)) ?_; (with_reducible refine (tariff_Greatest.calls kj4 t394 _ _ t395 a1 a2 a3 t398 t399 t400 t401 _ ?side1 ?side2 A21.out).mono ?_); (case side1 => repeat (first | exact (Kd.R_reads' HO397.out).2.2 | (with_reducible refine Kd.C_alloc ?_ _) | (with_reducible refine Kd.C_drewN ?_ _) | (with_reducible refine Kd.C_drew ?_))); (case side2 => exact (Kd.R_reads' HO397.out).2.1); rintro e w48 ⟨rfl, hb⟩; refine ⟨_, rfl, ?_⟩; have n0_ := Aside0.mk (Kd.R_below (rG HO383.out) hb); have n1_ := Aside0.mk (Kd.R_below (rG HO397.out) hb); have n2_ := Aside0.mk (blk_below (bG BK376.out) hb); have n3_ := Aside0.mk (blk_below (bG BK388.out) hb); have n4_ := Aside0.mk (blk_below (bG BK393.out) hb); have n5_ := Aside0.mk (below_step (eG HB.out) hb); clear HO383; clear HO397; clear BK376; clear BK388; clear BK393; clear HB; have HO383 := n0_; have HO397 := n1_; have BK376 := n2_; have BK388 := n3_; have BK393 := n4_; have HB := n5_; clear n0_ n1_ n2_ n3_ n4_ n5_; (try clear hb); (try clear hb2); (try clear hk); (try clear hi)) | ((with_reducible refine gate_dst (N := 13) rfl ?_); refine box_event ?hg (N := 13) ?hd (cs := #[.int .i64 0, .int .i64 0, .int .i64 0]) (t := 26) ?hr ?_; (case hd => rfl); (case hg => rfl); (case hr => first | (go_simp; done) | (go_simp; rfl)); intro gb402 hg w49 hbox hb; have n0_ := Aside0.mk (Kd.R_below (Kd.R_elderB (rG HO383.out) gb402 (Nat.le_of_eq hg.symm)) hb); have n1_ := Aside0.mk (Kd.R_below (Kd.R_elderB (rG HO397.out) gb402 (Nat.le_of_eq hg.symm)) hb); have n2_ := Aside0.mk (blk_below (bG BK376.out) hb); have n3_ := Aside0.mk (blk_below (bG BK388.out) hb); have n4_ := Aside0.mk (blk_below (bG BK393.out) hb); have n5_ := Aside0.mk (below_step (eG HB.out) hb); have n6_ := Aside0.mk (hbox); have n7_ := Aside0.mk ((by rw [hg]; exact (below_size (eG HB.out)) : w.heap.size ≤ gb402)); have n8_ := Aside0.mk ((by rw [hg]; exact (below_size (eG HB.out)) : w.heap.size ≤ gb402)); have n9_ := Aside0.mk ((by rw [hg]; exact Nat.ne_of_lt (blk_lt (bG BK376.out)) : gb376 ≠ gb402)); have n10_ := Aside0.mk ((by rw [hg]; exact Nat.ne_of_gt (blk_lt (bG BK376.out)) : gb402 ≠ gb376)); have n11_ := Aside0.mk ((by rw [hg]; exact Nat.ne_of_lt (blk_lt (bG BK388.out)) : gb388 ≠ gb402)); have n12_ := Aside0.mk ((by rw [hg]; exact Nat.ne_of_gt (blk_lt (bG BK388.out)) : gb402 ≠ gb388)); have n13_ := Aside0.mk ((by rw [hg]; exact Nat.ne_of_lt (blk_lt (bG BK393.out)) : gb393 ≠ gb402)); have n14_ := Aside0.mk ((by rw [hg]; exact Nat.ne_of_gt (blk_lt (bG BK393.out)) : gb402 ≠ gb393)); clear HO383; clear HO397; clear BK376; clear BK388; clear BK393; clear HB; have HO383 := n0_; have HO397 := n1_; have BK376 := n2_; have BK388 := n3_; have BK393 := n4_; have HB := n5_; have BK402 := n6_; have GW402 := n7_; have GE402 := n8_; have ig402_ := geI GE402; have NB376_402 := n9_; have NB402_376 := n10_; have NB388_402 := n11_; have NB402_388 := n12_; have NB393_402 := n13_; have NB402_393 := n14_; clear n0_ n1_ n2_ n3_ n4_ n5_ n6_ n7_ n8_ n9_ n10_ n11_ n12_ n13_ n14_; clear hb hbox hg; have hnb50 := NB402_376.out; have hnc50 := NB376_402.out; have hnb51 := NB402_388.out; have hnc51 := NB388_402.out; have hnb52 := NB402_393.out; have hnc52 := NB393_402.out; have hcz53_0 : w49.cell? ⟨gb402, 0, none⟩ = some (.int .i64 0) := (blk_cell BK402.out 0).trans rfl; have hcz53_1 : w49.cell? ⟨gb402, 1, none⟩ = some (.int .i64 0) := (blk_cell BK402.out 1).trans rfl; have hcz53_2 : w49.cell? ⟨gb402, 2, none⟩ = some (.int .i64 0) := (blk_cell BK402.out 2).trans rfl; have hfz53_0 := blk_frozen BK402.out 0; have hfz53_1 := blk_frozen BK402.out 1; have hfz53_2 := blk_frozen BK402.out 2; have hcz54_0 : w49.cell? ⟨gb376, 0, none⟩ = some (.int .i64 a0_0) := (blk_cell BK376.out 0).trans rfl; have hcz54_1 : w49.cell? ⟨gb376, 1, none⟩ = some (.slice A0_1 l0_1.length c0_1) := (blk_cell BK376.out 1).trans rfl; have hfz54_0 := blk_frozen BK376.out 0; have hfz54_1 := blk_frozen BK376.out 1) | ((with_reducible refine gate_callee (f := 22) rfl ?_); refine goesL_ (some 58) rfl rfl Tryz.func22 (by kernel_rfl) rfl #[.agg #[.int .i64 a0_0, .slice A0_1 l0_1.length c0_1], .int .i64 a1, .int .i64 a2, .int .i64 a3] rfl (by (try simp only [List.map_toArray, List.map_cons, List.map_nil]); first | done | rfl | (simp only [List.length_drop, List.length_take]; rfl)) ?_; (with_reducible refine (spileref46_Greatest.calls kj4 a0_0 _ _ l0_1 a1 a2 a3 t403 t404 t405 t406 _ ?side1 ?side2 A22.out).mono ?_); (case side1 => exact Kd.C_below HR0_1.out (eG HB.out)); (case side2 => exact HC0_1.out); rintro e w55 ⟨rfl, hb⟩; refine ⟨_, rfl, ?_⟩; have n0_ := Aside0.mk (Kd.R_below (by (with_reducible repeat (first | apply Kd.R_alloc | apply Kd.R_drewN | apply Kd.R_drew)); exact (Kd.R_mono (Kd.R_far (p := ⟨gb402, 2, none⟩) (Kd.R_far (p := ⟨gb402, 1, none⟩) (Kd.R_far (p := ⟨gb402, 0, none⟩) (Kd.R_mono HO383.out (fun k_ hk => (⟨hk, hk.2⟩ : _ ∧ k_ ≠ gb402))) (fun _ hk => hk.2) (.int .i64 t398)) (fun _ hk => hk.2) (.int .i64 t399)) (fun _ hk => hk.2) (.int .i64 t400)) (fun _ h_ => h_.1))) hb); have n1_ := Aside0.mk (Kd.R_below (by (with_reducible repeat (first | apply Kd.R_alloc | apply Kd.R_drewN | apply Kd.R_drew)); exact (Kd.R_mono (Kd.R_far (p := ⟨gb402, 2, none⟩) (Kd.R_far (p := ⟨gb402, 1, none⟩) (Kd.R_far (p := ⟨gb402, 0, none⟩) (Kd.R_mono HO397.out (fun k_ hk => (⟨hk, hk.2⟩ : _ ∧ k_ ≠ gb402))) (fun _ hk => hk.2) (.int .i64 t398)) (fun _ hk => hk.2) (.int .i64 t399)) (fun _ hk => hk.2) (.int .i64 t400)) (fun _ h_ => h_.1))) hb); have n2_ := Aside0.mk (blk_below (g := gb376) (o := .cells #[.int .i64 a0_0, .slice A0_1 l0_1.length c0_1] 24 (0, 0)) (by (with_reducible repeat first | apply bN | apply bD | apply bA); refine blk_far ?_ NB376_402.out _; (with_reducible repeat first | apply bN | apply bD | apply bA); refine blk_far ?_ NB376_402.out _; (with_reducible repeat first | apply bN | apply bD | apply bA); refine blk_far ?_ NB376_402.out _; (with_reducible repeat first | apply bN | apply bD | apply bA); exact BK376.out) hb); have n3_ := Aside0.mk (blk_below (g := gb388) (o := .cells #[.int .i64 t384, .int .i64 t385, .int .i64 t386] 26 (0, 0)) (by (with_reducible repeat first | apply bN | apply bD | apply bA); refine blk_far ?_ NB388_402.out _; (with_reducible repeat first | apply bN | apply bD | apply bA); refine blk_far ?_ NB388_402.out _; (with_reducible repeat first | apply bN | apply bD | apply bA); refine blk_far ?_ NB388_402.out _; (with_reducible repeat first | apply bN | apply bD | apply bA); exact BK388.out) hb); have n4_ := Aside0.mk (blk_below (g := gb393) (o := .cells #[.int .i64 t389, .int .i64 t390, .int .i64 t391] 26 (0, 0)) (by (with_reducible repeat first | apply bN | apply bD | apply bA); refine blk_far ?_ NB393_402.out _; (with_reducible repeat first | apply bN | apply bD | apply bA); refine blk_far ?_ NB393_402.out _; (with_reducible repeat first | apply bN | apply bD | apply bA); refine blk_far ?_ NB393_402.out _; (with_reducible repeat first | apply bN | apply bD | apply bA); exact BK393.out) hb); have n5_ := Aside0.mk (blk_below (g := gb402) (o := .cells #[.int .i64 t398, .int .i64 t399, .int .i64 t400] 26 (0, 0)) (by (with_reducible repeat first | apply bN | apply bD | apply bA); refine blk_put (cs := #[.int .i64 t398, .int .i64 t399, .int .i64 0]) ?_ 2 _ rfl; (with_reducible repeat first | apply bN | apply bD | apply bA); refine blk_put (cs := #[.int .i64 t398, .int .i64 0, .int .i64 0]) ?_ 1 _ rfl; (with_reducible repeat first | apply bN | apply bD | apply bA); refine blk_put (cs := #[.int .i64 0, .int .i64 0, .int .i64 0]) ?_ 0 _ rfl; (with_reducible repeat first | apply bN | apply bD | apply bA); exact BK402.out) hb); have n6_ := Aside0.mk (below_step (eG HB.out) hb); clear HO383; clear HO397; clear BK376; clear BK388; clear BK393; clear BK402; clear HB; have HO383 := n0_; have HO397 := n1_; have BK376 := n2_; have BK388 := n3_; have BK393 := n4_; have BK402 := n5_; have HB := n6_; clear n0_ n1_ n2_ n3_ n4_ n5_ n6_; (try clear hb); (try clear hb2); (try clear hk); (try clear hi)) | ((with_reducible refine gate_dst (N := 15) rfl ?_); refine box_event ?hg (N := 15) ?hd (cs := #[.int .i64 0, .int .i64 0, .int .i64 0]) (t := 26) ?hr ?_; (case hd => rfl); (case hg => rfl); (case hr => first | (go_simp; done) | (go_simp; rfl)); intro gb407 hg w56 hbox hb; have n0_ := Aside0.mk (Kd.R_below (Kd.R_elderB (rG HO383.out) gb407 (Nat.le_of_eq hg.symm)) hb); have n1_ := Aside0.mk (Kd.R_below (Kd.R_elderB (rG HO397.out) gb407 (Nat.le_of_eq hg.symm)) hb); have n2_ := Aside0.mk (blk_below (bG BK376.out) hb); have n3_ := Aside0.mk (blk_below (bG BK388.out) hb); have n4_ := Aside0.mk (blk_below (bG BK393.out) hb); have n5_ := Aside0.mk (blk_below (bG BK402.out) hb); have n6_ := Aside0.mk (below_step (eG HB.out) hb); have n7_ := Aside0.mk (hbox); have n8_ := Aside0.mk ((by rw [hg]; exact (below_size (eG HB.out)) : w.heap.size ≤ gb407)); have n9_ := Aside0.mk ((by rw [hg]; exact (below_size (eG HB.out)) : w.heap.size ≤ gb407)); have n10_ := Aside0.mk ((by rw [hg]; exact Nat.ne_of_lt (blk_lt (bG BK376.out)) : gb376 ≠ gb407)); have n11_ := Aside0.mk ((by rw [hg]; exact Nat.ne_of_gt (blk_lt (bG BK376.out)) : gb407 ≠ gb376)); have n12_ := Aside0.mk ((by rw [hg]; exact Nat.ne_of_lt (blk_lt (bG BK388.out)) : gb388 ≠ gb407)); have n13_ := Aside0.mk ((by rw [hg]; exact Nat.ne_of_gt (blk_lt (bG BK388.out)) : gb407 ≠ gb388)); have n14_ := Aside0.mk ((by rw [hg]; exact Nat.ne_of_lt (blk_lt (bG BK393.out)) : gb393 ≠ gb407)); have n15_ := Aside0.mk ((by rw [hg]; exact Nat.ne_of_gt (blk_lt (bG BK393.out)) : gb407 ≠ gb393)); have n16_ := Aside0.mk ((by rw [hg]; exact Nat.ne_of_lt (blk_lt (bG BK402.out)) : gb402 ≠ gb407)); have n17_ := Aside0.mk ((by rw [hg]; exact Nat.ne_of_gt (blk_lt (bG BK402.out)) : gb407 ≠ gb402)); clear HO383; clear HO397; clear BK376; clear BK388; clear BK393; clear BK402; clear HB; have HO383 := n0_; have HO397 := n1_; have BK376 := n2_; have BK388 := n3_; have BK393 := n4_; have BK402 := n5_; have HB := n6_; have BK407 := n7_; have GW407 := n8_; have GE407 := n9_; have ig407_ := geI GE407; have NB376_407 := n10_; have NB407_376 := n11_; have NB388_407 := n12_; have NB407_388 := n13_; have NB393_407 := n14_; have NB407_393 := n15_; have NB402_407 := n16_; have NB407_402 := n17_; clear n0_ n1_ n2_ n3_ n4_ n5_ n6_ n7_ n8_ n9_ n10_ n11_ n12_ n13_ n14_ n15_ n16_ n17_; clear hb hbox hg; have hnb57 := NB407_376.out; have hnc57 := NB376_407.out; have hnb58 := NB407_388.out; have hnc58 := NB388_407.out; have hnb59 := NB407_393.out; have hnc59 := NB393_407.out; have hnb60 := NB407_402.out; have hnc60 := NB402_407.out; have hcz61_0 : w56.cell? ⟨gb407, 0, none⟩ = some (.int .i64 0) := (blk_cell BK407.out 0).trans rfl; have hcz61_1 : w56.cell? ⟨gb407, 1, none⟩ = some (.int .i64 0) := (blk_cell BK407.out 1).trans rfl; have hcz61_2 : w56.cell? ⟨gb407, 2, none⟩ = some (.int .i64 0) := (blk_cell BK407.out 2).trans rfl; have hfz61_0 := blk_frozen BK407.out 0; have hfz61_1 := blk_frozen BK407.out 1; have hfz61_2 := blk_frozen BK407.out 2; have hcz62_0 : w56.cell? ⟨gb376, 0, none⟩ = some (.int .i64 a0_0) := (blk_cell BK376.out 0).trans rfl; have hcz62_1 : w56.cell? ⟨gb376, 1, none⟩ = some (.slice A0_1 l0_1.length c0_1) := (blk_cell BK376.out 1).trans rfl; have hfz62_0 := blk_frozen BK376.out 0; have hfz62_1 := blk_frozen BK376.out 1) | ((with_reducible refine gate_callee (f := 14) rfl ?_); refine goesL_ (some 63) rfl rfl Tryz.func14 (by kernel_rfl) rfl #[.agg #[.int .i64 a0_0, .slice A0_1 l0_1.length c0_1]] rfl (by (try simp only [List.map_toArray, List.map_cons, List.map_nil]); first | done | rfl | (simp only [List.length_drop, List.length_take]; rfl)) ?_; (with_reducible refine (spilelaw46_cp.calls a0_0 _ _ l0_1 t408 t409 _ ?side1 ?side2 A23.out).mono ?_); (case side1 => exact Kd.C_below HR0_1.out (eG HB.out)); (case side2 => exact HC0_1.out); rintro e w63 ⟨v410, rfl, ho0, hb⟩; refine ⟨_, rfl, ?_⟩; have n0_ := Aside0.mk (Kd.R_elder' (by (with_reducible repeat (first | apply Kd.R_alloc | apply Kd.R_drewN | apply Kd.R_drew)); exact (Kd.R_mono (Kd.R_far (p := ⟨gb407, 2, none⟩) (Kd.R_far (p := ⟨gb407, 1, none⟩) (Kd.R_far (p := ⟨gb407, 0, none⟩) (Kd.R_mono HO383.out (fun k_ hk => (⟨hk, hk.2⟩ : _ ∧ k_ ≠ gb407))) (fun _ hk => hk.2) (.int .i64 t403)) (fun _ hk => hk.2) (.int .i64 t404)) (fun _ hk => hk.2) (.int .i64 t405)) (fun _ h_ => h_.1))) (Kd.R_base ho0) hb); have n1_ := Aside0.mk (Kd.R_elder' (by (with_reducible repeat (first | apply Kd.R_alloc | apply Kd.R_drewN | apply Kd.R_drew)); exact (Kd.R_mono (Kd.R_far (p := ⟨gb407, 2, none⟩) (Kd.R_far (p := ⟨gb407, 1, none⟩) (Kd.R_far (p := ⟨gb407, 0, none⟩) (Kd.R_mono HO397.out (fun k_ hk => (⟨hk, hk.2⟩ : _ ∧ k_ ≠ gb407))) (fun _ hk => hk.2) (.int .i64 t403)) (fun _ hk => hk.2) (.int .i64 t404)) (fun _ hk => hk.2) (.int .i64 t405)) (fun _ h_ => h_.1))) (Kd.R_base ho0) hb); have n2_ := Aside0.mk (Kd.R_lower (Kd.R_newB (Kd.R_newB (Kd.R_newB (Kd.R_newB (Kd.R_new' (Kd.R_new' ho0 (Kd.R_lt (by (with_reducible repeat (first | apply Kd.R_alloc | apply Kd.R_drewN | apply Kd.R_drew)); exact (Kd.R_mono (Kd.R_far (p := ⟨gb407, 2, none⟩) (Kd.R_far (p := ⟨gb407, 1, none⟩) (Kd.R_far (p := ⟨gb407, 0, none⟩) (Kd.R_mono HO383.out (fun k_ hk => (⟨hk, hk.2⟩ : _ ∧ k_ ≠ gb407))) (fun _ hk => hk.2) (.int .i64 t403)) (fun _ hk => hk.2) (.int .i64 t404)) (fun _ hk => hk.2) (.int .i64 t405)) (fun _ h_ => h_.1))))) (Kd.R_lt (by (with_reducible repeat (first | apply Kd.R_alloc | apply Kd.R_drewN | apply Kd.R_drew)); exact (Kd.R_mono (Kd.R_far (p := ⟨gb407, 2, none⟩) (Kd.R_far (p := ⟨gb407, 1, none⟩) (Kd.R_far (p := ⟨gb407, 0, none⟩) (Kd.R_mono HO397.out (fun k_ hk => (⟨hk, hk.2⟩ : _ ∧ k_ ≠ gb407))) (fun _ hk => hk.2) (.int .i64 t403)) (fun _ hk => hk.2) (.int .i64 t404)) (fun _ hk => hk.2) (.int .i64 t405)) (fun _ h_ => h_.1))))) (g := gb388) (o := .cells #[.int .i64 t384, .int .i64 t385, .int .i64 t386] 26 (0, 0)) (by (with_reducible repeat first | apply bN | apply bD | apply bA); refine blk_far ?_ NB388_407.out _; (with_reducible repeat first | apply bN | apply bD | apply bA); refine blk_far ?_ NB388_407.out _; (with_reducible repeat first | apply bN | apply bD | apply bA); refine blk_far ?_ NB388_407.out _; (with_reducible repeat first | apply bN | apply bD | apply bA); exact BK388.out)) (g := gb393) (o := .cells #[.int .i64 t389, .int .i64 t390, .int .i64 t391] 26 (0, 0)) (by (with_reducible repeat first | apply bN | apply bD | apply bA); refine blk_far ?_ NB393_407.out _; (with_reducible repeat first | apply bN | apply bD | apply bA); refine blk_far ?_ NB393_407.out _; (with_reducible repeat first | apply bN | apply bD | apply bA); refine blk_far ?_ NB393_407.out _; (with_reducible repeat first | apply bN | apply bD | apply bA); exact BK393.out)) (g := gb402) (o := .cells #[.int .i64 t398, .int .i64 t399, .int .i64 t400] 26 (0, 0)) (by (with_reducible repeat first | apply bN | apply bD | apply bA); refine blk_far ?_ NB402_407.out _; (with_reducible repeat first | apply bN | apply bD | apply bA); refine blk_far ?_ NB402_407.out _; (with_reducible repeat first | apply bN | apply bD | apply bA); refine blk_far ?_ NB402_407.out _; (with_reducible repeat first | apply bN | apply bD | apply bA); exact BK402.out)) (g := gb407) (o := .cells #[.int .i64 t403, .int .i64 t404, .int .i64 t405] 26 (0, 0)) (by (with_reducible repeat first | apply bN | apply bD | apply bA); refine blk_put (cs := #[.int .i64 t403, .int .i64 t404, .int .i64 0]) ?_ 2 _ rfl; (with_reducible repeat first | apply bN | apply bD | apply bA); refine blk_put (cs := #[.int .i64 t403, .int .i64 0, .int .i64 0]) ?_ 1 _ rfl; (with_reducible repeat first | apply bN | apply bD | apply bA); refine blk_put (cs := #[.int .i64 0, .int .i64 0, .int .i64 0]) ?_ 0 _ rfl; (with_reducible repeat first | apply bN | apply bD | apply bA); exact BK407.out)) (below_size (eG HB.out))); have n3_ := Aside0.mk (blk_below (g := gb376) (o := .cells #[.int .i64 a0_0, .slice A0_1 l0_1.length c0_1] 24 (0, 0)) (by (with_reducible repeat first | apply bN | apply bD | apply bA); refine blk_far ?_ NB376_407.out _; (with_reducible repeat first | apply bN | apply bD | apply bA); refine blk_far ?_ NB376_407.out _; (with_reducible repeat first | apply bN | apply bD | apply bA); refine blk_far ?_ NB376_407.out _; (with_reducible repeat first | apply bN | apply bD | apply bA); exact BK376.out) hb); have n4_ := Aside0.mk (blk_below (g := gb388) (o := .cells #[.int .i64 t384, .int .i64 t385, .int .i64 t386] 26 (0, 0)) (by (with_reducible repeat first | apply bN | apply bD | apply bA); refine blk_far ?_ NB388_407.out _; (with_reducible repeat first | apply bN | apply bD | apply bA); refine blk_far ?_ NB388_407.out _; (with_reducible repeat first | apply bN | apply bD | apply bA); refine blk_far ?_ NB388_407.out _; (with_reducible repeat first | apply bN | apply bD | apply bA); exact BK388.out) hb); have n5_ := Aside0.mk (blk_below (g := gb393) (o := .cells #[.int .i64 t389, .int .i64 t390, .int .i64 t391] 26 (0, 0)) (by (with_reducible repeat first | apply bN | apply bD | apply bA); refine blk_far ?_ NB393_407.out _; (with_reducible repeat first | apply bN | apply bD | apply bA); refine blk_far ?_ NB393_407.out _; (with_reducible repeat first | apply bN | apply bD | apply bA); refine blk_far ?_ NB393_407.out _; (with_reducible repeat first | apply bN | apply bD | apply bA); exact BK393.out) hb); have n6_ := Aside0.mk (blk_below (g := gb402) (o := .cells #[.int .i64 t398, .int .i64 t399, .int .i64 t400] 26 (0, 0)) (by (with_reducible repeat first | apply bN | apply bD | apply bA); refine blk_far ?_ NB402_407.out _; (with_reducible repeat first | apply bN | apply bD | apply bA); refine blk_far ?_ NB402_407.out _; (with_reducible repeat first | apply bN | apply bD | apply bA); refine blk_far ?_ NB402_407.out _; (with_reducible repeat first | apply bN | apply bD | apply bA); exact BK402.out) hb); have n7_ := Aside0.mk (blk_below (g := gb407) (o := .cells #[.int .i64 t403, .int .i64 t404, .int .i64 t405] 26 (0, 0)) (by (with_reducible repeat first | apply bN | apply bD | apply bA); refine blk_put (cs := #[.int .i64 t403, .int .i64 t404, .int .i64 0]) ?_ 2 _ rfl; (with_reducible repeat first | apply bN | apply bD | apply bA); refine blk_put (cs := #[.int .i64 t403, .int .i64 0, .int .i64 0]) ?_ 1 _ rfl; (with_reducible repeat first | apply bN | apply bD | apply bA); refine blk_put (cs := #[.int .i64 0, .int .i64 0, .int .i64 0]) ?_ 0 _ rfl; (with_reducible repeat first | apply bN | apply bD | apply bA); exact BK407.out) hb); have n8_ := Aside0.mk (below_step (eG HB.out) hb); clear HO383; clear HO397; clear BK376; clear BK388; clear BK393; clear BK402; clear BK407; clear HB; have HO383 := n0_; have HO397 := n1_; have HO411 := n2_; have BK376 := n3_; have BK388 := n4_; have BK393 := n5_; have BK402 := n6_; have BK407 := n7_; have HB := n8_; clear n0_ n1_ n2_ n3_ n4_ n5_ n6_ n7_ n8_; (try clear hb); (try clear hb2); (try clear hk); (try clear hi); (try clear ho0); obtain ⟨Ao64, co64, eo64⟩ := Kd.R_slice HO411.out; subst eo64) | ((with_reducible refine gate_callee (f := 23) rfl ?_); refine goesL_ (some 67) rfl rfl Tryz.func23 (by kernel_rfl) rfl #[.agg #[.int .i64 t408, .slice Ao64 t409.length co64], .int .i64 a1, .int .i64 a2, .int .i64 a3] rfl (by (try simp only [List.map_toArray, List.map_cons, List.map_nil]); first | done | rfl | (simp only [List.length_drop, List.length_take]; rfl)) ?_; (with_reducible refine (tariff_Changes.calls kj4 t408 _ _ t409 a1 a2 a3 t412 t415 _ ?side1 ?side2 A24.out).mono ?_); (case side1 => repeat (first | exact (Kd.R_reads' HO411.out).2.2 | (with_reducible refine Kd.C_alloc ?_ _) | (with_reducible refine Kd.C_drewN ?_ _) | (with_reducible refine Kd.C_drew ?_))); (case side2 => exact (Kd.R_reads' HO411.out).2.1); rintro e w65 ⟨v413, rfl, ho0, hb⟩; refine ⟨_, rfl, ?_⟩; have n0_ := Aside0.mk (Kd.R_below (rG HO383.out) hb); have n1_ := Aside0.mk (Kd.R_below (rG HO397.out) hb); have n2_ := Aside0.mk (Kd.R_below (rG HO411.out) hb); have n3_ := Aside0.mk (Kd.R_lower ho0 (below_size (eG HB.out))); have n4_ := Aside0.mk (blk_below (bG BK376.out) hb); have n5_ := Aside0.mk (blk_below (bG BK388.out) hb); have n6_ := Aside0.mk (blk_below (bG BK393.out) hb); have n7_ := Aside0.mk (blk_below (bG BK402.out) hb); have n8_ := Aside0.mk (blk_below (bG BK407.out) hb); have n9_ := Aside0.mk (below_step (eG HB.out) hb); clear HO383; clear HO397; clear HO411; clear BK376; clear BK388; clear BK393; clear BK402; clear BK407; clear HB; have HO383 := n0_; have HO397 := n1_; have HO411 := n2_; have HO414 := n3_; have BK376 := n4_; have BK388 := n5_; have BK393 := n6_; have BK402 := n7_; have BK407 := n8_; have HB := n9_; clear n0_ n1_ n2_ n3_ n4_ n5_ n6_ n7_ n8_ n9_; (try clear hb); (try clear hb2); (try clear hk); (try clear hi); (try clear ho0); have hcz66_0 : w65.cell? ⟨gb376, 0, none⟩ = some (.int .i64 a0_0) := (blk_cell BK376.out 0).trans rfl; have hcz66_1 : w65.cell? ⟨gb376, 1, none⟩ = some (.slice A0_1 l0_1.length c0_1) := (blk_cell BK376.out 1).trans rfl; have hfz66_0 := blk_frozen BK376.out 0; have hfz66_1 := blk_frozen BK376.out 1) | ((with_reducible refine gate_callee (f := 24) rfl ?_); refine goesL_ (some 75) rfl rfl Tryz.func24 (by kernel_rfl) rfl #[.agg #[.int .i64 a0_0, .slice A0_1 l0_1.length c0_1], .int .i64 a1, .int .i64 a2, .int .i64 a3] rfl (by (try simp only [List.map_toArray, List.map_cons, List.map_nil]); first | done | rfl | (simp only [List.length_drop, List.length_take]; rfl)) ?_; (with_reducible refine (spileref46_Changes.calls kj4 a0_0 _ _ l0_1 a1 a2 a3 t416 t419 _ ?side1 ?side2 A25.out).mono ?_); (case side1 => repeat (first | exact (Kd.C_below HR0_1.out HB.out) | (with_reducible refine Kd.C_alloc ?_ _) | (with_reducible refine Kd.C_drewN ?_ _) | (with_reducible refine Kd.C_drew ?_))); (case side2 => exact HC0_1.out); rintro e w67 ⟨v417, rfl, ho0, hb⟩; refine ⟨_, rfl, ?_⟩; have n0_ := Aside0.mk (Kd.R_below (rG HO383.out) hb); have n1_ := Aside0.mk (Kd.R_below (rG HO397.out) hb); have n2_ := Aside0.mk (Kd.R_below (rG HO411.out) hb); have n3_ := Aside0.mk (Kd.R_elder' (rG HO414.out) (Kd.R_base ho0) hb); have n4_ := Aside0.mk (Kd.R_lower (Kd.R_new' ho0 (Kd.R_lt (rG HO414.out))) (below_size (eG HB.out))); have n5_ := Aside0.mk (blk_below (bG BK376.out) hb); have n6_ := Aside0.mk (blk_below (bG BK388.out) hb); have n7_ := Aside0.mk (blk_below (bG BK393.out) hb); have n8_ := Aside0.mk (blk_below (bG BK402.out) hb); have n9_ := Aside0.mk (blk_below (bG BK407.out) hb); have n10_ := Aside0.mk (below_step (eG HB.out) hb); clear HO383; clear HO397; clear HO411; clear HO414; clear BK376; clear BK388; clear BK393; clear BK402; clear BK407; clear HB; have HO383 := n0_; have HO397 := n1_; have HO411 := n2_; have HO414 := n3_; have HO418 := n4_; have BK376 := n5_; have BK388 := n6_; have BK393 := n7_; have BK402 := n8_; have BK407 := n9_; have HB := n10_; clear n0_ n1_ n2_ n3_ n4_ n5_ n6_ n7_ n8_ n9_ n10_; (try clear hb); (try clear hb2); (try clear hk); (try clear hi); (try clear ho0); have hcz68_0 : w67.cell? ⟨gb388, 0, none⟩ = some (.int .i64 t384) := (blk_cell BK388.out 0).trans rfl; have hcz68_1 : w67.cell? ⟨gb388, 1, none⟩ = some (.int .i64 t385) := (blk_cell BK388.out 1).trans rfl; have hcz68_2 : w67.cell? ⟨gb388, 2, none⟩ = some (.int .i64 t386) := (blk_cell BK388.out 2).trans rfl; have hfz68_0 := blk_frozen BK388.out 0; have hfz68_1 := blk_frozen BK388.out 1; have hfz68_2 := blk_frozen BK388.out 2; have hcz69_0 : w67.cell? ⟨gb393, 0, none⟩ = some (.int .i64 t389) := (blk_cell BK393.out 0).trans rfl; have hcz69_1 : w67.cell? ⟨gb393, 1, none⟩ = some (.int .i64 t390) := (blk_cell BK393.out 1).trans rfl; have hcz69_2 : w67.cell? ⟨gb393, 2, none⟩ = some (.int .i64 t391) := (blk_cell BK393.out 2).trans rfl; have hfz69_0 := blk_frozen BK393.out 0; have hfz69_1 := blk_frozen BK393.out 1; have hfz69_2 := blk_frozen BK393.out 2; have hcz70_0 : w67.cell? ⟨gb402, 0, none⟩ = some (.int .i64 t398) := (blk_cell BK402.out 0).trans rfl; have hcz70_1 : w67.cell? ⟨gb402, 1, none⟩ = some (.int .i64 t399) := (blk_cell BK402.out 1).trans rfl; have hcz70_2 : w67.cell? ⟨gb402, 2, none⟩ = some (.int .i64 t400) := (blk_cell BK402.out 2).trans rfl; have hfz70_0 := blk_frozen BK402.out 0; have hfz70_1 := blk_frozen BK402.out 1; have hfz70_2 := blk_frozen BK402.out 2; have hcz71_0 : w67.cell? ⟨gb407, 0, none⟩ = some (.int .i64 t403) := (blk_cell BK407.out 0).trans rfl; have hcz71_1 : w67.cell? ⟨gb407, 1, none⟩ = some (.int .i64 t404) := (blk_cell BK407.out 1).trans rfl; have hcz71_2 : w67.cell? ⟨gb407, 2, none⟩ = some (.int .i64 t405) := (blk_cell BK407.out 2).trans rfl; have hfz71_0 := blk_frozen BK407.out 0; have hfz71_1 := blk_frozen BK407.out 1; have hfz71_2 := blk_frozen BK407.out 2; obtain ⟨Ao72, co72, eo72⟩ := Kd.R_slice HO414.out; subst eo72; obtain ⟨Ao73, co73, eo73⟩ := Kd.R_slice HO418.out; subst eo73) | (go_at_call 25; (with_reducible refine (slices_Equal_int_int.calls kj4 _ _ t412 _ _ t416 true _ ?side1 ?side2 ?side3 ?side4 A30.out).mono ?_); (case side1 => repeat (first | exact (Kd.R_reads' HO414.out).2.2 | (with_reducible refine Kd.C_alloc ?_ _) | (with_reducible refine Kd.C_drewN ?_ _) | (with_reducible refine Kd.C_drew ?_))); (case side2 => exact (Kd.R_reads' HO414.out).2.1); (case side3 => repeat (first | exact (Kd.R_reads' HO418.out).2.2 | (with_reducible refine Kd.C_alloc ?_ _) | (with_reducible refine Kd.C_drewN ?_ _) | (with_reducible refine Kd.C_drew ?_))); (case side4 => exact (Kd.R_reads' HO418.out).2.1); rintro e w' ⟨rfl, ⟨nd, rfl⟩⟩))
         go_ret
         exact ⟨by first | rfl | (simp [errW_none, errW_some] <;> rfl) | (simp [*, errW_none, errW_some] <;> rfl), eG HB.out⟩
        ·
         replace c31 := Bool.eq_false_iff.mpr c31; subst c31; replace H : (some false) = some r := by rw [if_neg (show ¬ (false = true) by decide)] at H; exact H
         subst hr_; exact absurd H (by simp)
       · rw [if_neg c29] at H; have c29b0 : (t401 == t406) = false := beq_eq_false_iff_ne.mpr c29; have c29b1 : (t401 != t406) = true := bne_iff_ne.mpr c29; subst hr_; exact absurd H (by simp)
      ·
       rw [if_neg c28] at H; have c28b0 : (t398 == t403 && (t399 == t404 && (t400 == t405))) = false := by simpa using c28
       (try (have c28b1 : decide (t398 = t403 && (t399 == t404 && (t400 == t405))) = false := by simpa using c28))
       (try (have c28b2 : (t398 == t403 && (t399 == t404 && (t400 == t405))) = false := by simpa using c28))
       (try (have c28b3 : ¬ (t398 = t403 && (t399 == t404 && (t400 == t405))) := by simpa using c28))
       clear c28; subst hr_; exact absurd H (by simp)
     · rw [if_neg c27] at H; have c27b0 : (t387 == t392) = false := beq_eq_false_iff_ne.mpr c27; have c27b1 : (t387 != t392) = true := bne_iff_ne.mpr c27; subst hr_; exact absurd H (by simp)
    ·
     rw [if_neg c26] at H; have c26b0 : (t384 == t389 && (t385 == t390 && (t386 == t391))) = false := by simpa using c26
     (try (have c26b1 : decide (t384 = t389 && (t385 == t390 && (t386 == t391))) = false := by simpa using c26))
     (try (have c26b2 : (t384 == t389 && (t385 == t390 && (t386 == t391))) = false := by simpa using c26))
     (try (have c26b3 : ¬ (t384 = t389 && (t385 == t390 && (t386 == t391))) := by simpa using c26))
     clear c26; subst hr_; exact absurd H (by simp)
end Go.Proofs.YtholbmidciapdaaGreatDoor.Pr
namespace Go.Proofs.YtholbmidciapdaaGreatDoor.Pr
open Go.RowKit Go.Proofs.YtholbmidciapdaaGreatDoorW.PrintWords Go.Proofs.YtholbmidciapdaaGreatDoorW.PrintLast Go.Proofs.YtholbmidciapdaaGreatDoorW.PrintMore Go.Proofs.YtholbmidciapdaaGreatDoor.X
attribute [local go_sem] max2_int min2_int max_two min_two max_three min_three max_four min_four   -- for this text's walks alone
set_option linter.unusedVariables false
set_option linter.unusedSimpArgs false
def bits_Mul64.f (a0 : Int) (a1 : Int) : Option (Int × Int) := some (IntKind.u64.wrap ((IntKind.u64.wrap ((IntKind.u64.wrap ((a0 / 4294967296) * (a1 / 4294967296))) + ((IntKind.u64.wrap ((IntKind.u64.wrap ((a0 / 4294967296) * (Go.bits .and .u64 a1 4294967295))) + ((IntKind.u64.wrap ((Go.bits .and .u64 a0 4294967295) * (Go.bits .and .u64 a1 4294967295))) / 4294967296))) / 4294967296))) + ((IntKind.u64.wrap ((Go.bits .and .u64 (IntKind.u64.wrap ((IntKind.u64.wrap ((a0 / 4294967296) * (Go.bits .and .u64 a1 4294967295))) + ((IntKind.u64.wrap ((Go.bits .and .u64 a0 4294967295) * (Go.bits .and .u64 a1 4294967295))) / 4294967296))) 4294967295) + (IntKind.u64.wrap ((Go.bits .and .u64 a0 4294967295) * (a1 / 4294967296))))) / 4294967296)), IntKind.u64.wrap (a0 * a1))
end Go.Proofs.YtholbmidciapdaaGreatDoor.Pr
namespace Go.Proofs.YtholbmidciapdaaGreatDoor.Opn
open Go Go.RowKit Go.Proofs.YtholbmidciapdaaGreatDoorW.PrintWords Go.Proofs.YtholbmidciapdaaGreatDoor.O Go.Proofs.YtholbmidciapdaaGreatDoor.Pr
theorem opens3 : Opens Tryz.prog 3 (Kd.int .i64) (fun x => (Lit.int .i64 x).wf = true) := opens_int Tryz.underlying3 (by kernel_rfl)
def ok26 (x : S26) : Prop := (Lit.int .i64 x.f0).wf = true ∧ (Lit.int .i64 x.f1).wf = true ∧ (Lit.int .i64 x.f2).wf = true
theorem opens26 : Opens Tryz.prog 26 k26 ok26 :=
  ⟨by kernel_rfl, fun H enc w base sp held fuel cs x h => by
    obtain ⟨xs, n, _, _, hl, hx, hf⟩ := DataW.trod_struct Tryz.underlying26 h
    have hc_ : Tryz.prog.cellsOf 26 = 3 := by kernel_rfl
    rw [hc_] at hl
    obtain ⟨c0, c1, c2, rfl⟩ : ∃ c0 c1 c2, cs = [c0, c1, c2] := by
      clear h hf hx
      rcases cs with _ | ⟨c0, _ | ⟨c1, _ | ⟨c2, _ | ⟨_, _⟩⟩⟩⟩
      all_goals first | exact ⟨_, _, _, rfl⟩ | (simp at hl)
    obtain ⟨y0, hy0⟩ : ∃ y, xs[0]? = some y := ⟨xs[0]'(by rw [hx]; decide), List.getElem?_eq_getElem _⟩
    have e0 : DataW.trod enc Tryz.prog w base sp held n 3 ((List.drop 0 [c0, c1, c2]).take (Tryz.prog.cellsOf 3)) = xs[0]? := hf 0 _ rfl
    rw [hy0, show Tryz.prog.cellsOf 3 = 1 from by kernel_rfl] at e0
    obtain ⟨v0, K0, o0⟩ := opens3.2 H enc w base sp held n _ _ e0
    replace K0 : (Kd.int .i64).K w v0 [c0] := K0
    obtain ⟨y1, hy1⟩ : ∃ y, xs[1]? = some y := ⟨xs[1]'(by rw [hx]; decide), List.getElem?_eq_getElem _⟩
    have e1 : DataW.trod enc Tryz.prog w base sp held n 3 ((List.drop 1 [c0, c1, c2]).take (Tryz.prog.cellsOf 3)) = xs[1]? := hf 1 _ rfl
    rw [hy1, show Tryz.prog.cellsOf 3 = 1 from by kernel_rfl] at e1
    obtain ⟨v1, K1, o1⟩ := opens3.2 H enc w base sp held n _ _ e1
    replace K1 : (Kd.int .i64).K w v1 [c1] := K1
    obtain ⟨y2, hy2⟩ : ∃ y, xs[2]? = some y := ⟨xs[2]'(by rw [hx]; decide), List.getElem?_eq_getElem _⟩
    have e2 : DataW.trod enc Tryz.prog w base sp held n 3 ((List.drop 2 [c0, c1, c2]).take (Tryz.prog.cellsOf 3)) = xs[2]? := hf 2 _ rfl
    rw [hy2, show Tryz.prog.cellsOf 3 = 1 from by kernel_rfl] at e2
    obtain ⟨v2, K2, o2⟩ := opens3.2 H enc w base sp held n _ _ e2
    replace K2 : (Kd.int .i64).K w v2 [c2] := K2
    obtain rfl : c0 = _ := List.singleton_inj.1 K0
    obtain rfl : c1 = _ := List.singleton_inj.1 K1
    obtain rfl : c2 = _ := List.singleton_inj.1 K2
    refine ⟨⟨v0, v1, v2⟩, ?_, o0, o1, o2⟩
    exact k26_mk w ⟨v0, v1, v2⟩ ⟩
theorem opens22 : Opens Tryz.prog 22 (Kd.slice 26 k26) (fun x => (x.length ≤ maxLen ∧ ∀ x0_, x0_ ∈ x → ok26 x0_)) := opens_slice (P := Tryz.prog) (t := 22) (e := 26) Tryz.underlying22 (by kernel_rfl) opens26
def ok24 (x : S24) : Prop := (Lit.int .i64 x.f0).wf = true ∧ (x.f1.length ≤ maxLen ∧ ∀ x0_, x0_ ∈ x.f1 → ok26 x0_)
theorem opens24 : Opens Tryz.prog 24 k24 ok24 :=
  ⟨by kernel_rfl, fun H enc w base sp held fuel cs x h => by
    obtain ⟨xs, n, _, _, hl, hx, hf⟩ := DataW.trod_struct Tryz.underlying24 h
    have hc_ : Tryz.prog.cellsOf 24 = 2 := by kernel_rfl
    rw [hc_] at hl
    obtain ⟨c0, c1, rfl⟩ : ∃ c0 c1, cs = [c0, c1] := by
      clear h hf hx
      rcases cs with _ | ⟨c0, _ | ⟨c1, _ | ⟨_, _⟩⟩⟩
      all_goals first | exact ⟨_, _, rfl⟩ | (simp at hl)
    obtain ⟨y0, hy0⟩ : ∃ y, xs[0]? = some y := ⟨xs[0]'(by rw [hx]; decide), List.getElem?_eq_getElem _⟩
    have e0 : DataW.trod enc Tryz.prog w base sp held n 3 ((List.drop 0 [c0, c1]).take (Tryz.prog.cellsOf 3)) = xs[0]? := hf 0 _ rfl
    rw [hy0, show Tryz.prog.cellsOf 3 = 1 from by kernel_rfl] at e0
    obtain ⟨v0, K0, o0⟩ := opens3.2 H enc w base sp held n _ _ e0
    replace K0 : (Kd.int .i64).K w v0 [c0] := K0
    obtain ⟨y1, hy1⟩ : ∃ y, xs[1]? = some y := ⟨xs[1]'(by rw [hx]; decide), List.getElem?_eq_getElem _⟩
    have e1 : DataW.trod enc Tryz.prog w base sp held n 22 ((List.drop 1 [c0, c1]).take (Tryz.prog.cellsOf 22)) = xs[1]? := hf 1 _ rfl
    rw [hy1, show Tryz.prog.cellsOf 22 = 1 from by kernel_rfl] at e1
    obtain ⟨v1, K1, o1⟩ := opens22.2 H enc w base sp held n _ _ e1
    replace K1 : (Kd.slice 26 k26).K w v1 [c1] := K1
    obtain rfl : c0 = _ := List.singleton_inj.1 K0
    obtain ⟨A1, q1, w1, m1, g1⟩ := K1
    obtain rfl : c1 = _ := List.singleton_inj.1 w1
    refine ⟨⟨v0, v1⟩, ?_, o0, o1⟩
    exact k24_mk w ⟨v0, v1⟩ m1 g1⟩
end Go.Proofs.YtholbmidciapdaaGreatDoor.Opn
namespace Go.Proofs.YtholbmidciapdaaGreatDoor.Pure
open Go Go.RowKit Go.Proofs.YtholbmidciapdaaGreatDoor.Pr Go.Proofs.YtholbmidciapdaaGreatDoor.Opn
def tariffRatesPure : Prop := ∀ (a0_0 : Int) (l0_1 : (List S26)) (a1 : Int) (a2 : Int) (a3 : Int), (Lit.int .i64 a0_0).wf = true → (l0_1.length ≤ maxLen ∧ ∀ x0_, x0_ ∈ l0_1 → ok26 x0_) → (Lit.int .i64 a1).wf = true → (Lit.int .i64 a2).wf = true → (Lit.int .i64 a3).wf = true → ∃ k, spilelaw46_TariffRates.f k a0_0 l0_1 a1 a2 a3 = some true
end Go.Proofs.YtholbmidciapdaaGreatDoor.Pure
namespace Go.Proofs.YtholbmidciapdaaGreatDoor.PL
open Go Go.RowKit Go.Proofs.YtholbmidciapdaaGreatDoorW.PrintWords Go.Proofs.YtholbmidciapdaaGreatDoorW.PrintLast Go.Proofs.YtholbmidciapdaaGreatDoorW.PrintMore
theorem evp {α : Type} {c : Prop} [Decidable c] {g h : Nat → Option α} {r : α} (hc : c) (k : Ev g r) : Ev (fun n => if c then g n else h n) r :=
  Ev.congr (fun n => if_pos hc) k
theorem evn {α : Type} {c : Prop} [Decidable c] {g h : Nat → Option α} {r : α} (hc : ¬ c) (k : Ev h r) : Ev (fun n => if c then g n else h n) r :=
  Ev.congr (fun n => if_neg hc) k
theorem evb {α β : Type} {g : Nat → Option α} {f : Nat → α → Option β} {a : α} {r : β} (h : Ev g a) (k : Ev (fun n => f n a) r) : Ev (fun n => (g n).bind (f n)) r := Ev.bind h k
theorem evr {α : Type} {a r : α} (h : a = r) : Ev (fun _ => some a) r := by subst h; exact Ev.now _
theorem evc {α : Type} {g : Nat → Option α} {r : α} {o : Option α} (hg : ∀ n, g n = o) (h : o = some r) : Ev g r := by
  subst h
  exact Ev.congr hg (Ev.now _)
/-- A loop that counts upwards to n. -/
theorem count_up (a n : Int) (P : Int → Prop) (hend : P n) (hround : ∀ i, a ≤ i → i < n → P (i + 1) → P i) : ∀ i, a ≤ i → i ≤ n → P i := by
  intro i h0 h1
  obtain ⟨d, hd⟩ : ∃ d : Nat, n - i = d := ⟨(n - i).toNat, by omega⟩
  induction d generalizing i with
  | zero =>
    obtain rfl : i = n := by omega
    exact hend
  | succ d ih => exact hround i h0 (by omega) (ih (i + 1) (by omega) (by omega) (by omega))
theorem w64 {x : Int} (h0 : -9223372036854775808 ≤ x) (h1 : x ≤ 9223372036854775807) : wrap64 x = x := by
  unfold wrap64
  omega
theorem w64_succ {i n : Int} (h0 : 0 ≤ i) (h : i < n) (hn : n ≤ 9223372036854775807) : wrap64 (i + 1) = i + 1 := w64 (by omega) (by omega)
theorem w64_pred {i n : Int} (h0 : 0 ≤ i) (h : i ≤ n) (hn : n ≤ 9223372036854775807) : wrap64 (i - 1) = i - 1 := w64 (by omega) (by omega)
/-- A test that comes to true where P holds, and else to false. -/
def EvB (g : Nat → Option Bool) (P : Prop) : Prop := (P → Ev g true) ∧ (¬ P → Ev g false)
theorem EvB.map {g : Nat → Option Bool} {f : Nat → Bool → Option Bool} {P Q : Prop} (h : EvB g P) (ht : P → EvB (fun n => f n true) Q) (hf : ¬ P → EvB (fun n => f n false) Q) : EvB (fun n => (g n).bind (f n)) Q := by
  by_cases hp : P
  · exact ⟨fun q => Ev.bind (h.1 hp) ((ht hp).1 q), fun q => Ev.bind (h.1 hp) ((ht hp).2 q)⟩
  · exact ⟨fun q => Ev.bind (h.2 hp) ((hf hp).1 q), fun q => Ev.bind (h.2 hp) ((hf hp).2 q)⟩
end Go.Proofs.YtholbmidciapdaaGreatDoor.PL
namespace Go.Proofs.YtholbmidciapdaaGreatDoor.PL
open Go Go.RowKit Go.Proofs.YtholbmidciapdaaGreatDoorW.PrintWords Go.Proofs.YtholbmidciapdaaGreatDoorW.PrintLast Go.Proofs.YtholbmidciapdaaGreatDoorW.PrintMore Go.Proofs.YtholbmidciapdaaGreatDoor.Pr
def Lt26 (a b : S26) : Prop := a.f0 < b.f0 ∨ (a.f0 = b.f0 ∧ a.f1 < b.f1)
instance (a b : S26) : Decidable (Lt26 a b) := by unfold Lt26; infer_instance
def Key26 (a b : S26) : Prop := a.f0 = b.f0 ∧ a.f1 = b.f1
instance (a b : S26) : Decidable (Key26 a b) := by unfold Key26; infer_instance
def Hit (c d : Int) (x : S26) : Prop := x.f0 = c ∧ x.f1 ≤ d
instance (c d : Int) (x : S26) : Decidable (Hit c d x) := by unfold Hit; infer_instance
abbrev Srt (l : List S26) : Prop := l.Pairwise Lt26
/-- The last one that is in force. -/
def frc (c d : Int) : List S26 → S26 × Bool → S26 × Bool
  | [], s => s
  | x :: r, s => frc c d r (if Hit c d x then (x, true) else s)
theorem frc_spec (c d : Int) : ∀ (l : List S26) (s : S26 × Bool), Srt l → ((∀ x, x ∈ l → ¬ Hit c d x) ∧ frc c d l s = s) ∨ (∃ x, x ∈ l ∧ Hit c d x ∧ frc c d l s = (x, true) ∧ ∀ y, y ∈ l → Hit c d y → y.f1 ≤ x.f1)
  | [], s, _ => .inl ⟨fun x h => absurd h (by simp), rfl⟩
  | x :: r, s, hs => by
    obtain ⟨h1, h2⟩ := List.pairwise_cons.1 hs
    by_cases c1 : Hit c d x
    · rcases frc_spec c d r (x, true) h2 with ⟨q1, q2⟩ | ⟨y, y1, y2, y3, y4⟩
      · refine .inr ⟨x, by simp, c1, ?_, fun y hy hh => ?_⟩
        · show frc c d r (if Hit c d x then (x, true) else s) = _
          rw [if_pos c1]; exact q2
        · rcases List.mem_cons.1 hy with rfl | hy
          · exact Int.le_refl _
          · exact absurd hh (q1 y hy)
      · refine .inr ⟨y, by simp [y1], y2, ?_, fun z hz hh => ?_⟩
        · show frc c d r (if Hit c d x then (x, true) else s) = _
          rw [if_pos c1]; exact y3
        · rcases List.mem_cons.1 hz with rfl | hz
          · have := h1 y y1
            unfold Lt26 at this
            have a := c1.1
            have b := y2.1
            omega
          · exact y4 z hz hh
    · rcases frc_spec c d r s h2 with ⟨q1, q2⟩ | ⟨y, y1, y2, y3, y4⟩
      · refine .inl ⟨fun y hy => ?_, ?_⟩
        · rcases List.mem_cons.1 hy with rfl | hy
          · exact c1
          · exact q1 y hy
        · show frc c d r (if Hit c d x then (x, true) else s) = _
          rw [if_neg c1]; exact q2
      · refine .inr ⟨y, by simp [y1], y2, ?_, fun z hz hh => ?_⟩
        · show frc c d r (if Hit c d x then (x, true) else s) = _
          rw [if_neg c1]; exact y3
        · rcases List.mem_cons.1 hz with rfl | hz
          · exact absurd hh c1
          · exact y4 z hz hh
/-- The same class and day in a sorted list: the same rate. -/
theorem srt_key : ∀ {l : List S26}, Srt l → ∀ {x y : S26}, x ∈ l → y ∈ l → Key26 x y → x = y
  | [], _, x, _, hx, _, _ => absurd hx (by simp)
  | z :: r, hs, x, y, hx, hy, hk => by
    obtain ⟨h1, h2⟩ := List.pairwise_cons.1 hs
    obtain ⟨k1, k2⟩ := hk
    rcases List.mem_cons.1 hx with rfl | hx' <;> rcases List.mem_cons.1 hy with rfl | hy'
    · rfl
    · have := h1 y hy'; unfold Lt26 at this; omega
    · have := h1 x hx'; unfold Lt26 at this; omega
    · exact srt_key h2 hx' hy' ⟨k1, k2⟩
/-- The greatest one of some days: behind lo, or from lo on. -/
def Mst (strict : Bool) (c lo hi : Int) (s : S26 × Bool) (x : S26) : Prop := x.f0 = c ∧ (if strict = true then lo < x.f1 else lo ≤ x.f1) ∧ x.f1 ≤ hi ∧ (s.2 = false ∨ s.1.f2 < x.f2)
instance (b : Bool) (c lo hi : Int) (s : S26 × Bool) (x : S26) : Decidable (Mst b c lo hi s x) := by unfold Mst; infer_instance
def mst (strict : Bool) (c lo hi : Int) : List S26 → S26 × Bool → S26 × Bool
  | [], s => s
  | x :: r, s => mst strict c lo hi r (if Mst strict c lo hi s x then (x, true) else s)
theorem mst_same (c lo hi : Int) : ∀ (l : List S26) (s : S26 × Bool), (∀ y, y ∈ l → y.f0 = c → y.f1 = lo → s.2 = true ∧ y.f2 ≤ s.1.f2) → mst false c lo hi l s = mst true c lo hi l s
  | [], _, _ => rfl
  | x :: r, s, h => by
    have e : Mst false c lo hi s x ↔ Mst true c lo hi s x := by
      unfold Mst
      simp only [if_true, Bool.false_eq_true, if_false]
      constructor
      · rintro ⟨a, b, d, e⟩
        refine ⟨a, ?_, d, e⟩
        by_cases q : x.f1 = lo
        · have := h x (by simp) a q
          rw [this.1] at e
          simp at e
          omega
        · omega
      · rintro ⟨a, b, d, e⟩
        exact ⟨a, by omega, d, e⟩
    show mst false c lo hi r (if Mst false c lo hi s x then (x, true) else s) = mst true c lo hi r (if Mst true c lo hi s x then (x, true) else s)
    by_cases q : Mst true c lo hi s x
    · rw [if_pos q, if_pos (e.2 q)]
      refine mst_same c lo hi r (x, true) (fun y hy a b => ⟨rfl, ?_⟩)
      have := h y (by simp [hy]) a b
      have e2 := q.2.2.2
      rw [this.1] at e2
      simp at e2
      show y.f2 ≤ x.f2
      omega
    · rw [if_neg q, if_neg (fun z => q (e.1 z))]
      exact mst_same c lo hi r s (fun y hy a b => h y (by simp [hy]) a b)
theorem most_same (c lo hi : Int) (l : List S26) (s : S26 × Bool) (hs : Srt l) : mst false c lo hi l (frc c lo l s) = mst true c lo hi l (frc c lo l s) := by
  refine mst_same c lo hi l _ (fun y hy a b => ?_)
  rcases frc_spec c lo l s hs with ⟨q, _⟩ | ⟨x, x1, x2, x3, x4⟩
  · exact absurd ⟨a, by omega⟩ (q y hy)
  · rw [x3]
    have h1 := x4 y hy ⟨a, by omega⟩
    have h2 := x2.2
    have : x = y := srt_key hs x1 hy ⟨by rw [x2.1, a], by omega⟩
    rw [this]
    exact ⟨rfl, Int.le_refl _⟩
theorem lt_trans26 {a b c : S26} (h1 : Lt26 a b) (h2 : Lt26 b c) : Lt26 a c := by unfold Lt26 at *; omega
end Go.Proofs.YtholbmidciapdaaGreatDoor.PL
namespace Go.Proofs.YtholbmidciapdaaGreatDoor.PL
open Go Go.RowKit Go.Proofs.YtholbmidciapdaaGreatDoorW.PrintWords Go.Proofs.YtholbmidciapdaaGreatDoorW.PrintLast Go.Proofs.YtholbmidciapdaaGreatDoorW.PrintMore Go.Proofs.YtholbmidciapdaaGreatDoor.Pr Go.Proofs.YtholbmidciapdaaGreatDoor.X
theorem within_eq (a b c : Int) : tariff_within.f a b c = some (decide (b ≤ a ∧ a ≤ c)) := by
  unfold tariff_within.f
  by_cases h : a ≥ b
  · rw [if_pos h]; exact congrArg some (decide_eq_decide.2 ⟨fun q => ⟨h, q⟩, fun q => q.2⟩)
  · rw [if_neg h, decide_eq_false (fun q => h q.1)]
def Rng (x : S26) : Prop := (1 ≤ x.f0 ∧ x.f0 ≤ 9) ∧ (0 ≤ x.f1 ∧ x.f1 ≤ 100000) ∧ 0 ≤ x.f2 ∧ x.f2 ≤ 1000000
instance (x : S26) : Decidable (Rng x) := by unfold Rng; infer_instance
theorem ranged_eq (a b c : Int) : tariff_ranged.f a b c = some (decide (Rng ⟨a, b, c⟩)) := by
  unfold tariff_ranged.f
  simp only [within_eq, Option.bind_some]
  by_cases h1 : 1 ≤ a ∧ a ≤ 9
  · rw [if_pos (decide_eq_true h1)]
    by_cases h2 : 0 ≤ b ∧ b ≤ 100000
    · rw [if_pos (decide_eq_true h2)]
      exact congrArg some (decide_eq_decide.2 ⟨fun q => ⟨h1, h2, q⟩, fun q => q.2.2⟩)
    · rw [if_neg (by simpa using h2), decide_eq_false (fun q : Rng ⟨a, b, c⟩ => h2 q.2.1)]
  · rw [if_neg (by simpa using h1), decide_eq_false (fun q : Rng ⟨a, b, c⟩ => h1 q.1)]
theorem refright_eq (a b c : Int) : spileref46_right.f a b c = some (decide (Rng ⟨a, b, c⟩)) := by
  unfold spileref46_right.f
  by_cases h1 : a ≥ 1
  case neg => rw [if_neg h1, decide_eq_false (fun q : Rng ⟨a, b, c⟩ => h1 q.1.1)]
  rw [if_pos h1]
  by_cases h2 : a ≤ 9
  case neg => rw [if_neg h2, decide_eq_false (fun q : Rng ⟨a, b, c⟩ => h2 q.1.2)]
  rw [if_pos h2]
  by_cases h3 : b ≥ 0
  case neg => rw [if_neg h3, decide_eq_false (fun q : Rng ⟨a, b, c⟩ => h3 q.2.1.1)]
  rw [if_pos h3]
  by_cases h4 : b ≤ 100000
  case neg => rw [if_neg h4, decide_eq_false (fun q : Rng ⟨a, b, c⟩ => h4 q.2.1.2)]
  rw [if_pos h4]
  by_cases h5 : c ≥ 0
  case neg => rw [if_neg h5, decide_eq_false (fun q : Rng ⟨a, b, c⟩ => h5 q.2.2.1)]
  rw [if_pos h5]
  exact congrArg some (decide_eq_decide.2 ⟨fun q => ⟨⟨h1, h2⟩, ⟨h3, h4⟩, h5, q⟩, fun q => q.2.2.2⟩)
def cmpv (a b : Int) : Int := if a < b then -1 else if a > b then 1 else 0
theorem cmp_eq (a b : Int) : cmp_Compare_int.f a b = some (cmpv a b) := by
  unfold cmp_Compare_int.f cmp_isNaN_int.f cmpv
  simp only [bne_self_eq_false, Option.bind_some, Bool.false_eq_true, if_false]
  split
  · rfl
  · split <;> rfl
theorem or_ev (x y : Int) : Ev (fun k => cmp_Or_int.f k [x, y]) (if x = 0 then y else x) := by
  refine Ev.step (fun k => cmp_Or_int.l0.eq_2 ..) (evp (by simp) (evp (by omega) (evp (by simp) ?_)))
  rw [show rd [x, y] 0 = x from rfl, show wrap64 (0 + 1) = 1 from by unfold wrap64; omega]
  by_cases c : x = 0
  · rw [if_pos c]
    refine evp c (Ev.step (fun k => cmp_Or_int.l0.eq_2 ..) (evp (by simp) (evp (by omega) (evp (by simp) ?_))))
    rw [show rd [x, y] 1 = y from rfl, show wrap64 (1 + 1) = 2 from by unfold wrap64; omega]
    by_cases d : y = 0
    · refine evp d (Ev.step (fun k => cmp_Or_int.l0.eq_2 ..) (evn (by simp) (evr d.symm)))
    · exact evn d (Ev.now _)
  · rw [if_neg c]; exact evn c (Ev.now _)
theorem compare_ev (a b : S26) : ∃ v, Ev (fun k => tariff_compare.f k a.f0 a.f1 a.f2 b.f0 b.f1 b.f2) v ∧ (v < 0 ↔ Lt26 a b) ∧ (v = 0 ↔ Key26 a b) := by
  refine ⟨_, evb (evc (fun _ => rfl) (cmp_eq _ _)) (evb (evc (fun _ => rfl) (cmp_eq _ _)) (evb (or_ev _ _) (Ev.now _))), ?_, ?_⟩
  · unfold cmpv Lt26; split <;> (try split) <;> (try split) <;> omega
  · unfold cmpv Key26; split <;> (try split) <;> (try split) <;> omega
theorem before_eq (a b : S26) : spileref46_before.f a.f0 a.f1 a.f2 b.f0 b.f1 b.f2 = some (decide (Lt26 a b)) := by
  unfold spileref46_before.f
  by_cases h : a.f0 < b.f0
  · rw [if_pos h]; exact congrArg some (decide_eq_true (show Lt26 a b from .inl h)).symm
  · rw [if_neg h]
    by_cases h2 : a.f0 = b.f0
    · rw [if_pos h2]; exact congrArg some (decide_eq_decide.2 ⟨fun q => (show Lt26 a b from .inr ⟨h2, q⟩), fun q => by unfold Lt26 at q; omega⟩)
    · rw [if_neg h2]; exact congrArg some (decide_eq_false (show ¬ Lt26 a b from fun q => by unfold Lt26 at q; omega)).symm
theorem rd26_get {l : List S26} {i : Nat} (h : i < l.length) : rd_T26 l (i : Int) = l[i] := by
  unfold rd_T26
  rw [Int.toNat_natCast, List.getD_eq_getElem?_getD, List.getElem?_eq_getElem h]
  rfl
theorem rd26_mem {l : List S26} {i : Int} (h0 : 0 ≤ i) (h : i < (l.length : Int)) : rd_T26 l i ∈ l := by
  obtain ⟨n, rfl⟩ : ∃ n : Nat, i = (n : Int) := ⟨i.toNat, by omega⟩
  rw [rd26_get (by omega)]
  exact List.getElem_mem _
theorem rd26_of_mem {l : List S26} {x : S26} (h : x ∈ l) : ∃ i : Int, 0 ≤ i ∧ i < (l.length : Int) ∧ rd_T26 l i = x := by
  obtain ⟨i, hi, rfl⟩ := List.mem_iff_getElem.1 h
  exact ⟨(i : Int), by omega, by omega, rd26_get hi⟩
theorem drop26 {l : List S26} {i : Int} (h0 : 0 ≤ i) (h1 : i < (l.length : Int)) : l.drop i.toNat = rd_T26 l i :: l.drop (i + 1).toNat := by
  obtain ⟨n, rfl⟩ : ∃ n : Nat, i = (n : Int) := ⟨i.toNat, by omega⟩
  rw [rd26_get (by omega), Int.toNat_natCast, show ((n : Int) + 1).toNat = n + 1 from by omega]
  exact List.drop_eq_getElem_cons (by omega)
def OKT (r : Int) (l : List S26) : Prop := (1 ≤ r ∧ r ≤ 4) ∧ (l.length : Int) ≤ 64 ∧ (∀ x, x ∈ l → Rng x) ∧ Srt l
theorem chain_lt {l : List S26} (h : ∀ j, 0 < j → j < (l.length : Int) → Lt26 (rd_T26 l (j - 1)) (rd_T26 l j)) : ∀ (d : Nat) (a : Int), 0 ≤ a → a + d + 1 < (l.length : Int) → Lt26 (rd_T26 l a) (rd_T26 l (a + d + 1))
  | 0, a, h0, h1 => by
    have := h (a + 1) (by omega) (by omega)
    rw [show a + 1 - 1 = a from by omega] at this
    rwa [show a + ((0 : Nat) : Int) + 1 = a + 1 from by omega]
  | d + 1, a, h0, h1 => by
    have ih := chain_lt h d a h0 (by omega)
    have := h (a + d + 1 + 1) (by omega) (by omega)
    rw [show a + (d : Int) + 1 + 1 - 1 = a + d + 1 from by omega] at this
    rw [show a + ((d + 1 : Nat) : Int) + 1 = a + d + 1 + 1 from by omega]
    exact lt_trans26 ih this
theorem srt_iff (l : List S26) : (∀ j, 0 < j → j < (l.length : Int) → Lt26 (rd_T26 l (j - 1)) (rd_T26 l j)) ↔ Srt l := by
  constructor
  · intro h
    refine List.pairwise_iff_getElem.2 (fun i j hi hj hij => ?_)
    have := chain_lt h (j - i - 1) (i : Int) (by omega) (by omega)
    rwa [show (i : Int) + ((j - i - 1 : Nat) : Int) + 1 = (j : Int) from by omega, rd26_get hi, rd26_get hj] at this
  · intro h j h0 h1
    obtain ⟨n, rfl⟩ : ∃ n : Nat, j = (n : Int) := ⟨j.toNat, by omega⟩
    have := List.pairwise_iff_getElem.1 h (n - 1) n (by omega) (by omega) (by omega)
    rwa [show (n : Int) - 1 = ((n - 1 : Nat) : Int) from by omega, rd26_get (by omega), rd26_get (by omega)]
theorem check_loop (r : Int) (l : List S26) (hl : (l.length : Int) ≤ 64) : ∀ i, 0 ≤ i → i ≤ (l.length : Int) →
    ∃ e : Int × Int, Ev (fun k => tariff_Check.l0 k l (l.length : Int) i r l) e ∧ Ev (fun k => spileref46_Check.l0 k i r l) e ∧
      (e.2 = 0 ↔ ∀ j, i ≤ j → j < (l.length : Int) → Rng (rd_T26 l j) ∧ (0 < j → Lt26 (rd_T26 l (j - 1)) (rd_T26 l j))) ∧ (e.2 = 0 → e.1 = -1) := by
  refine count_up 0 (l.length : Int) _ ?_ ?_
  · exact ⟨(-1, 0), Ev.step (fun k => tariff_Check.l0.eq_2 ..) (evn (by omega) (Ev.now _)), Ev.step (fun k => spileref46_Check.l0.eq_2 ..) (evn (by omega) (Ev.now _)), ⟨fun _ j a b => by omega, fun _ => rfl⟩, fun _ => rfl⟩
  · intro i h0 h1 ih
    have hw := w64_succ h0 h1 (by omega)
    have re := ranged_eq (rd_T26 l i).f0 (rd_T26 l i).f1 (rd_T26 l i).f2
    have rr := refright_eq (rd_T26 l i).f0 (rd_T26 l i).f1 (rd_T26 l i).f2
    have e26 : (⟨(rd_T26 l i).f0, (rd_T26 l i).f1, (rd_T26 l i).f2⟩ : S26) = rd_T26 l i := rfl
    rw [e26] at re rr
    by_cases c1 : Rng (rd_T26 l i)
    case neg =>
      rw [decide_eq_false c1] at re rr
      exact ⟨(i, 2), Ev.step (fun k => tariff_Check.l0.eq_2 ..) (evp h1 (evp h0 (evp h1 (evb (evc (fun _ => rfl) re) (evn (by simp) (Ev.now _)))))), Ev.step (fun k => spileref46_Check.l0.eq_2 ..) (evp h1 (evp h0 (evb (evc (fun _ => rfl) rr) (evn (by simp) (Ev.now _))))),
        ⟨fun q => by simp at q, fun q => absurd (q i (by omega) h1).1 c1⟩, fun q => by simp at q⟩
    rw [decide_eq_true c1] at re rr
    obtain ⟨e, e1, e2, e3, e4⟩ := ih
    have ext : (0 < i → Lt26 (rd_T26 l (i - 1)) (rd_T26 l i)) → ((∀ j, i + 1 ≤ j → j < (l.length : Int) → Rng (rd_T26 l j) ∧ (0 < j → Lt26 (rd_T26 l (j - 1)) (rd_T26 l j))) ↔ ∀ j, i ≤ j → j < (l.length : Int) → Rng (rd_T26 l j) ∧ (0 < j → Lt26 (rd_T26 l (j - 1)) (rd_T26 l j))) := fun hh =>
      ⟨fun q j a b => by
        by_cases e : j = i
        · rw [e]; exact ⟨c1, hh⟩
        · exact q j (by omega) b, fun q j a b => q j (by omega) b⟩
    by_cases c2 : i > 0
    · have hp := w64_pred (i := i) (n := (l.length : Int)) h0 (by omega) (by omega)
      obtain ⟨v, v1, v2, v3⟩ := compare_ev (rd_T26 l (i - 1)) (rd_T26 l i)
      have hb := before_eq (rd_T26 l (i - 1)) (rd_T26 l i)
      by_cases c3 : Lt26 (rd_T26 l (i - 1)) (rd_T26 l i)
      · rw [decide_eq_true c3] at hb
        have v4 := v2.2 c3
        refine ⟨e, Ev.step (fun k => tariff_Check.l0.eq_2 ..) (evp h1 (evp h0 (evp h1 (evb (evc (fun _ => rfl) re) (evp rfl (evp c2 ?_)))))), Ev.step (fun k => spileref46_Check.l0.eq_2 ..) (evp h1 (evp h0 (evb (evc (fun _ => rfl) rr) (evp rfl (evp c2 ?_))))), e3.trans (ext (fun _ => c3)), e4⟩
        · rw [hp, hw]; exact evp (by omega) (evp (by omega) (evb v1 (evn (by omega) e1)))
        · rw [hp, hw]; exact evp (by omega) (evp (by omega) (evb (evc (fun _ => rfl) hb) (evp rfl e2)))
      · rw [decide_eq_false c3] at hb
        have v4 : v ≥ 0 := by
          by_cases q : v < 0
          · exact absurd (v2.1 q) c3
          · omega
        refine ⟨(i, 5), Ev.step (fun k => tariff_Check.l0.eq_2 ..) (evp h1 (evp h0 (evp h1 (evb (evc (fun _ => rfl) re) (evp rfl (evp c2 ?_)))))), Ev.step (fun k => spileref46_Check.l0.eq_2 ..) (evp h1 (evp h0 (evb (evc (fun _ => rfl) rr) (evp rfl (evp c2 ?_))))), ⟨fun q => by simp at q, fun q => absurd ((q i (by omega) h1).2 c2) c3⟩, fun q => by simp at q⟩
        · rw [hp]; exact evp (by omega) (evp (by omega) (evb v1 (evp v4 (Ev.now _))))
        · rw [hp]; exact evp (by omega) (evp (by omega) (evb (evc (fun _ => rfl) hb) (evn (by simp) (Ev.now _))))
    · refine ⟨e, Ev.step (fun k => tariff_Check.l0.eq_2 ..) (evp h1 (evp h0 (evp h1 (evb (evc (fun _ => rfl) re) (evp rfl (evn c2 ?_)))))), Ev.step (fun k => spileref46_Check.l0.eq_2 ..) (evp h1 (evp h0 (evb (evc (fun _ => rfl) rr) (evp rfl (evn c2 ?_))))), e3.trans (ext (fun q => absurd q c2)), e4⟩
      · rw [hw]; exact e1
      · rw [hw]; exact e2
theorem check_both (r : Int) (l : List S26) : ∃ e : Int × Int, Ev (fun k => tariff_Check.f k r l) e ∧ Ev (fun k => spileref46_Check.f k r l) e ∧ (e.2 = 0 ↔ OKT r l) ∧ (e.2 = 0 → e.1 = -1) := by
  have two : ∀ b : Bool, b = true → Ev (fun k => spileref46_Check.j0 k b r l) (-1, 2) := fun b hb => Ev.step (fun k => spileref46_Check.j0.eq_2 ..) (evp hb (Ev.now _))
  have w := within_eq r 1 4
  by_cases c0 : 1 ≤ r ∧ r ≤ 4
  case neg =>
    rw [decide_eq_false c0] at w
    refine ⟨(-1, 2), evb (evc (fun _ => rfl) w) (evn (by simp) (Ev.now _)), ?_, ⟨fun q => by simp at q, fun q => absurd q.1 c0⟩, fun _ => rfl⟩
    by_cases c1 : r < 1
    · exact evp c1 (two _ rfl)
    · exact evn c1 (two _ (decide_eq_true (by omega)))
  rw [decide_eq_true c0] at w
  have pre : ∀ e, Ev (fun k => if (l.length : Int) > 64 then (some ((-1), 8)) else (spileref46_Check.l0 k 0 r l)) e → Ev (fun k => spileref46_Check.f k r l) e := fun e he => by
    refine evn (by omega) ?_
    rw [decide_eq_false (show ¬ r > 4 by omega)]
    exact Ev.step (fun k => spileref46_Check.j0.eq_2 ..) (evn (by simp) he)
  by_cases c2 : (l.length : Int) > 64
  · exact ⟨(-1, 8), evb (evc (fun _ => rfl) w) (evp rfl (evp c2 (Ev.now _))), pre _ (evp c2 (Ev.now _)), ⟨fun q => by simp at q, fun q => absurd q.2.1 (by omega)⟩, fun _ => rfl⟩
  · obtain ⟨e, e1, e2, e3, e4⟩ := check_loop r l (by omega) 0 (by omega) (by omega)
    refine ⟨e, evb (evc (fun _ => rfl) w) (evp rfl (evn c2 e1)), pre _ (evn c2 e2), e3.trans ⟨fun q => ⟨c0, by omega, fun x hx => ?_, (srt_iff l).1 (fun j a b => (q j (by omega) b).2 a)⟩, fun q j a b => ⟨q.2.2.1 _ (rd26_mem a b), fun p => (srt_iff l).2 q.2.2.2 j p b⟩⟩, e4⟩
    obtain ⟨i, i0, i1, rfl⟩ := rd26_of_mem hx
    exact (q i i0 i1).1
theorem right_B (r : Int) (l : List S26) : EvB (fun k => tariff_right.f k r l) (OKT r l) := by
  obtain ⟨e, e1, _, e3, _⟩ := check_both r l
  refine ⟨fun h => evb e1 (evr (beq_iff_eq.2 (e3.2 h))), fun h => evb e1 (evr ?_)⟩
  rw [beq_eq_false_iff_ne]
  exact fun q => h (e3.1 q)
theorem Right_B (r : Int) (l : List S26) : EvB (fun k => spileref46_Right.f k r l) (OKT r l) := by
  obtain ⟨e, _, e1, e3, _⟩ := check_both r l
  refine ⟨fun h => evb e1 (evr (beq_iff_eq.2 (e3.2 h))), fun h => evb e1 (evr ?_)⟩
  rw [beq_eq_false_iff_ne]
  exact fun q => h (e3.1 q)
theorem clone_eq {l : List S26} (h : (l.length : Int) ≤ 65) : slices_Clone26.f l = some l := by
  unfold slices_Clone26.f
  rw [if_pos (by omega)]
theorem cp_eq {r : Int} {l : List S26} (h : (l.length : Int) ≤ 65) : spilelaw46_cp.f r l = some (r, l) := by
  unfold spilelaw46_cp.f
  rw [clone_eq h]
  rfl
theorem few_eq (r : Int) (l : List S26) : ∃ b, spileref46_Few.f r l = some b ∧ (b = true → (l.length : Int) ≤ 65) := by
  unfold spileref46_Few.f
  by_cases c : (l.length : Int) ≤ 20
  · exact ⟨true, if_pos c, fun _ => by omega⟩
  · refine ⟨(l.length : Int) == 65, if_neg c, fun q => ?_⟩
    have := beq_iff_eq.1 q
    omega
end Go.Proofs.YtholbmidciapdaaGreatDoor.PL
namespace Go.Proofs.YtholbmidciapdaaGreatDoor.PL
/-- Whether a quotient is rounded up. -/
def Up (rule q r : Int) : Prop := (rule = 2 ∧ r > 0) ∨ (rule = 3 ∧ 2 * r ≥ 10000000) ∨ (rule = 4 ∧ (2 * r > 10000000 ∨ (2 * r = 10000000 ∧ q % 2 = 1)))
instance (rule q r : Int) : Decidable (Up rule q r) := by unfold Up; infer_instance
end Go.Proofs.YtholbmidciapdaaGreatDoor.PL
namespace Go.Proofs.YtholbmidciapdaaGreatDoor.PL
open Go Go.RowKit Go.Proofs.YtholbmidciapdaaGreatDoorW.PrintWords Go.Proofs.YtholbmidciapdaaGreatDoorW.PrintLast Go.Proofs.YtholbmidciapdaaGreatDoorW.PrintMore Go.Proofs.YtholbmidciapdaaGreatDoor.Pr Go.Proofs.YtholbmidciapdaaGreatDoor.X
instance (R : Int) (l : List S26) : Decidable (OKT R l) := by unfold OKT; infer_instance
def F4 (s : S26 × Bool) : Int × Int × Int × Bool := (s.1.f0, s.1.f1, s.1.f2, s.2)
def G4 (s : S26 × Bool) : Int × Int × Int × Int := if s.2 = true then (s.1.f0, s.1.f1, s.1.f2, 0) else (0, 0, 0, 7)
theorem frc_cons (c d : Int) (x : S26) (r : List S26) (s : S26 × Bool) : frc c d (x :: r) s = frc c d r (if Hit c d x then (x, true) else s) := rfl
theorem force_loop (l : List S26) (hl : (l.length : Int) ≤ 65) (R c d : Int) : ∀ i, 0 ≤ i → i ≤ (l.length : Int) → ∀ s : S26 × Bool,
    Ev (fun k => tariff_force.l0 k c d s.2 l (l.length : Int) i s.1.f0 s.1.f1 s.1.f2) (F4 (frc c d (l.drop i.toNat) s)) ∧
    Ev (fun k => spileref46_Force.l0 k c d s.2 i R l s.1.f0 s.1.f1 s.1.f2) (F4 (frc c d (l.drop i.toNat) s)) := by
  refine count_up 0 (l.length : Int) _ ?_ ?_
  · intro s
    rw [List.drop_eq_nil_of_le (by omega)]
    exact ⟨Ev.step (fun k => tariff_force.l0.eq_2 ..) (evn (by omega) (Ev.now _)), Ev.step (fun k => spileref46_Force.l0.eq_2 ..) (evn (by omega) (Ev.now _))⟩
  · intro i h0 h1 ih s
    have hw := w64_succ h0 h1 (by omega)
    rw [drop26 h0 h1, frc_cons]
    by_cases q : Hit c d (rd_T26 l i)
    · rw [if_pos q]
      obtain ⟨a, b⟩ := ih (rd_T26 l i, true)
      exact ⟨Ev.step (fun k => tariff_force.l0.eq_2 ..) (evp h1 (evp h0 (evp h1 (evp q.1 (evp q.2 (by rw [hw]; exact a)))))), Ev.step (fun k => spileref46_Force.l0.eq_2 ..) (evp h1 (evp h0 (evp q.1 (evp q.2 (by rw [hw]; exact b)))))⟩
    · rw [if_neg q]
      obtain ⟨a, b⟩ := ih s
      by_cases q1 : (rd_T26 l i).f0 = c
      · have q2 : ¬ (rd_T26 l i).f1 ≤ d := fun z => q ⟨q1, z⟩
        exact ⟨Ev.step (fun k => tariff_force.l0.eq_2 ..) (evp h1 (evp h0 (evp h1 (evp q1 (evn q2 (by rw [hw]; exact a)))))), Ev.step (fun k => spileref46_Force.l0.eq_2 ..) (evp h1 (evp h0 (evp q1 (evn q2 (by rw [hw]; exact b)))))⟩
      · exact ⟨Ev.step (fun k => tariff_force.l0.eq_2 ..) (evp h1 (evp h0 (evp h1 (evn q1 (by rw [hw]; exact a))))), Ev.step (fun k => spileref46_Force.l0.eq_2 ..) (evp h1 (evp h0 (evn q1 (by rw [hw]; exact b))))⟩
def s0 : S26 × Bool := (⟨0, 0, 0⟩, false)
theorem force_ev (R : Int) (l : List S26) (hl : (l.length : Int) ≤ 65) (c d : Int) : Ev (fun k => tariff_force.f k R l c d) (F4 (frc c d l s0)) := by
  have := (force_loop l hl R c d 0 (by omega) (by omega) s0).1
  rw [show (0 : Int).toNat = 0 from rfl, List.drop_zero] at this
  exact this
theorem Force_ev (R : Int) (l : List S26) (hl : (l.length : Int) ≤ 65) (c d : Int) : Ev (fun k => spileref46_Force.f k R l c d) (F4 (frc c d l s0)) := by
  have := (force_loop l hl R c d 0 (by omega) (by omega) s0).2
  rw [show (0 : Int).toNat = 0 from rfl, List.drop_zero] at this
  exact this
def InR (c d : Int) : Prop := (1 ≤ c ∧ c ≤ 9) ∧ 0 ≤ d ∧ d ≤ 100000
instance (c d : Int) : Decidable (InR c d) := by unfold InR; infer_instance
theorem ranges_eq (a b : Int) : spileref46_Ranges.f a b = some (decide (InR a b)) := by
  unfold spileref46_Ranges.f
  by_cases h1 : a ≥ 1
  case neg => rw [if_neg h1, decide_eq_false (fun q : InR a b => h1 q.1.1)]
  rw [if_pos h1]
  by_cases h2 : a ≤ 9
  case neg => rw [if_neg h2, decide_eq_false (fun q : InR a b => h2 q.1.2)]
  rw [if_pos h2]
  by_cases h3 : b ≥ 0
  case neg => rw [if_neg h3, decide_eq_false (fun q : InR a b => h3 q.2.1)]
  rw [if_pos h3]
  exact congrArg some (decide_eq_decide.2 ⟨fun q => ⟨⟨h1, h2⟩, h3, q⟩, fun q => q.2.2⟩)
theorem ranges_B (a b : Int) : EvB (fun _ => spileref46_Ranges.f a b) (InR a b) := by
  refine ⟨fun h => evc (fun _ => rfl) ?_, fun h => evc (fun _ => rfl) ?_⟩
  · rw [ranges_eq, decide_eq_true h]
  · rw [ranges_eq, decide_eq_false h]
theorem within_B (a b c : Int) : EvB (fun _ => tariff_within.f a b c) (b ≤ a ∧ a ≤ c) := by
  refine ⟨fun h => evc (fun _ => rfl) ?_, fun h => evc (fun _ => rfl) ?_⟩
  · rw [within_eq, decide_eq_true h]
  · rw [within_eq, decide_eq_false h]
def atV (R : Int) (l : List S26) (c d : Int) : Int × Int × Int × Int := if OKT R l then (if InR c d then G4 (frc c d l s0) else (0, 0, 0, 2)) else (0, 0, 0, 1)
theorem at_ev (R : Int) (l : List S26) (hl : (l.length : Int) ≤ 65) (c d : Int) : Ev (fun k => tariff_At.f k R l c d) (atV R l c d) := by
  have hb := right_B R l
  have b1 := within_B c 1 9
  have b2 := within_B d 0 100000
  unfold atV
  by_cases ok : OKT R l
  case neg => rw [if_neg ok]; exact evb (hb.2 ok) (evn (by simp) (Ev.now _))
  rw [if_pos ok]
  have two : ∀ b : Bool, b = true → Ev (fun k => tariff_At.j0 k c d b R l) (0, 0, 0, 2) := fun b hb => Ev.step (fun k => tariff_At.j0.eq_2 ..) (evp hb (Ev.now _))
  refine evb (hb.1 ok) (evp rfl ?_)
  by_cases h1 : 1 ≤ c ∧ c ≤ 9
  case neg => rw [if_neg (fun q : InR c d => h1 q.1)]; exact evb (b1.2 h1) (evn (by simp) (two _ rfl))
  refine evb (b1.1 h1) (evp rfl ?_)
  by_cases h2 : 0 ≤ d ∧ d ≤ 100000
  case neg => rw [if_neg (fun q : InR c d => h2 q.2)]; exact evb (b2.2 h2) (two _ rfl)
  rw [if_pos (show InR c d from ⟨h1, h2⟩)]
  refine evb (b2.1 h2) (Ev.step (fun k => tariff_At.j0.eq_2 ..) (evn (by simp) (evb (force_ev R l hl c d) ?_)))
  by_cases q : (frc c d l s0).2 = true
  · exact evp q (evr (by unfold G4; rw [if_pos q]; rfl))
  · exact evn q (evr (by unfold G4; rw [if_neg q]))
theorem At_ev (R : Int) (l : List S26) (hl : (l.length : Int) ≤ 65) (c d : Int) : Ev (fun k => spileref46_At.f k R l c d) (atV R l c d) := by
  have hb := Right_B R l
  have b1 := ranges_B c d
  unfold atV
  by_cases ok : OKT R l
  case neg => rw [if_neg ok]; exact evb (hb.2 ok) (evn (by simp) (Ev.now _))
  rw [if_pos ok]
  refine evb (hb.1 ok) (evp rfl ?_)
  by_cases h1 : InR c d
  case neg => rw [if_neg h1]; exact evb (b1.2 h1) (evn (by simp) (Ev.now _))
  rw [if_pos h1]
  refine evb (b1.1 h1) (evp rfl (evb (Force_ev R l hl c d) ?_))
  by_cases q : (frc c d l s0).2 = true
  · exact evp q (evr (by unfold G4; rw [if_pos q]; rfl))
  · exact evn q (evr (by unfold G4; rw [if_neg q]))
theorem mst_cons (b : Bool) (c lo hi : Int) (x : S26) (r : List S26) (s : S26 × Bool) : mst b c lo hi (x :: r) s = mst b c lo hi r (if Mst b c lo hi s x then (x, true) else s) := rfl
theorem greatest_loop (l : List S26) (hl : (l.length : Int) ≤ 65) (c lo hi : Int) : ∀ i, 0 ≤ i → i ≤ (l.length : Int) → ∀ s : S26 × Bool,
    Ev (fun k => tariff_Greatest.l0 k c lo hi s.2 l (l.length : Int) i s.1.f0 s.1.f1 s.1.f2) (G4 (mst false c lo hi (l.drop i.toNat) s)) := by
  refine count_up 0 (l.length : Int) _ ?_ ?_
  · intro s
    rw [List.drop_eq_nil_of_le (by omega)]
    refine Ev.step (fun k => tariff_Greatest.l0.eq_2 ..) (evn (by omega) ?_)
    by_cases q : s.2 = true
    · exact evp q (evr (if_pos q).symm)
    · exact evn q (evr (if_neg q).symm)
  · intro i h0 h1 ih s
    have hw := w64_succ h0 h1 (by omega)
    rw [drop26 h0 h1, mst_cons]
    have bw := within_B (rd_T26 l i).f1 lo hi
    have yes := ih (rd_T26 l i, true)
    have no := ih s
    by_cases q1 : (rd_T26 l i).f0 = c
    case neg =>
      rw [if_neg (fun z : Mst false c lo hi s (rd_T26 l i) => q1 z.1)]
      exact Ev.step (fun k => tariff_Greatest.l0.eq_2 ..) (evp h1 (evp h0 (evp h1 (evn q1 (by rw [hw]; exact no)))))
    by_cases q2 : lo ≤ (rd_T26 l i).f1 ∧ (rd_T26 l i).f1 ≤ hi
    case neg =>
      rw [if_neg (fun z : Mst false c lo hi s (rd_T26 l i) => q2 ⟨by simpa using z.2.1, z.2.2.1⟩)]
      exact Ev.step (fun k => tariff_Greatest.l0.eq_2 ..) (evp h1 (evp h0 (evp h1 (evp q1 (evb (bw.2 q2) (evn (by simp) (by rw [hw]; exact no)))))))
    by_cases q3 : s.2 = true
    · by_cases q4 : (rd_T26 l i).f2 > s.1.f2
      · rw [if_pos (show Mst false c lo hi s (rd_T26 l i) from ⟨q1, by simpa using q2.1, q2.2, .inr q4⟩)]
        exact Ev.step (fun k => tariff_Greatest.l0.eq_2 ..) (evp h1 (evp h0 (evp h1 (evp q1 (evb (bw.1 q2) (evp rfl (evp q3 (evp q4 (by rw [hw]; exact yes)))))))))
      · rw [if_neg (fun z : Mst false c lo hi s (rd_T26 l i) => by
          rcases z.2.2.2 with z | z
          · rw [q3] at z; cases z
          · exact q4 z)]
        exact Ev.step (fun k => tariff_Greatest.l0.eq_2 ..) (evp h1 (evp h0 (evp h1 (evp q1 (evb (bw.1 q2) (evp rfl (evp q3 (evn q4 (by rw [hw]; exact no)))))))))
    · rw [if_pos (show Mst false c lo hi s (rd_T26 l i) from ⟨q1, by simpa using q2.1, q2.2, .inl (Bool.eq_false_iff.2 q3)⟩)]
      exact Ev.step (fun k => tariff_Greatest.l0.eq_2 ..) (evp h1 (evp h0 (evp h1 (evp q1 (evb (bw.1 q2) (evp rfl (evn q3 (by rw [hw]; exact yes))))))))
theorem most_loop (l : List S26) (hl : (l.length : Int) ≤ 65) (R c lo hi : Int) : ∀ i, 0 ≤ i → i ≤ (l.length : Int) → ∀ s : S26 × Bool,
    Ev (fun k => spileref46_Most.l0 k c lo hi s.2 i R l s.1.f0 s.1.f1 s.1.f2) (F4 (mst true c lo hi (l.drop i.toNat) s)) := by
  refine count_up 0 (l.length : Int) _ ?_ ?_
  · intro s
    rw [List.drop_eq_nil_of_le (by omega)]
    exact Ev.step (fun k => spileref46_Most.l0.eq_2 ..) (evn (by omega) (Ev.now _))
  · intro i h0 h1 ih s
    have hw := w64_succ h0 h1 (by omega)
    rw [drop26 h0 h1, mst_cons]
    have yes := ih (rd_T26 l i, true)
    have no := ih s
    by_cases q1 : (rd_T26 l i).f0 = c
    case neg =>
      rw [if_neg (fun z : Mst true c lo hi s (rd_T26 l i) => q1 z.1)]
      exact Ev.step (fun k => spileref46_Most.l0.eq_2 ..) (evp h1 (evp h0 (evn q1 (by rw [hw]; exact no))))
    by_cases q2 : (rd_T26 l i).f1 > lo
    case neg =>
      rw [if_neg (fun z : Mst true c lo hi s (rd_T26 l i) => q2 (by simpa using z.2.1))]
      exact Ev.step (fun k => spileref46_Most.l0.eq_2 ..) (evp h1 (evp h0 (evp q1 (evn q2 (by rw [hw]; exact no)))))
    by_cases q5 : (rd_T26 l i).f1 ≤ hi
    case neg =>
      rw [if_neg (fun z : Mst true c lo hi s (rd_T26 l i) => q5 z.2.2.1)]
      exact Ev.step (fun k => spileref46_Most.l0.eq_2 ..) (evp h1 (evp h0 (evp q1 (evp q2 (evn q5 (by rw [hw]; exact no))))))
    by_cases q3 : s.2 = true
    · by_cases q4 : (rd_T26 l i).f2 > s.1.f2
      · rw [if_pos (show Mst true c lo hi s (rd_T26 l i) from ⟨q1, by simpa using q2, q5, .inr q4⟩)]
        exact Ev.step (fun k => spileref46_Most.l0.eq_2 ..) (evp h1 (evp h0 (evp q1 (evp q2 (evp q5 (evp q3 (evp q4 (by rw [hw]; exact yes))))))))
      · rw [if_neg (fun z : Mst true c lo hi s (rd_T26 l i) => by
          rcases z.2.2.2 with z | z
          · rw [q3] at z; cases z
          · exact q4 z)]
        exact Ev.step (fun k => spileref46_Most.l0.eq_2 ..) (evp h1 (evp h0 (evp q1 (evp q2 (evp q5 (evp q3 (evn q4 (by rw [hw]; exact no))))))))
    · rw [if_pos (show Mst true c lo hi s (rd_T26 l i) from ⟨q1, by simpa using q2, q5, .inl (Bool.eq_false_iff.2 q3)⟩)]
      exact Ev.step (fun k => spileref46_Most.l0.eq_2 ..) (evp h1 (evp h0 (evp q1 (evp q2 (evp q5 (evn q3 (by rw [hw]; exact yes)))))))
def InS (c a b : Int) : Prop := (1 ≤ c ∧ c ≤ 9) ∧ (0 ≤ a ∧ a ≤ 100000) ∧ a ≤ b ∧ b ≤ 100000
instance (c a b : Int) : Decidable (InS c a b) := by unfold InS; infer_instance
def spanV (R : Int) (l : List S26) (c a b : Int) : Int := if OKT R l then (if InS c a b then 0 else 2) else 1
theorem span_ev (R : Int) (l : List S26) (c a b : Int) : Ev (fun k => tariff_span.f k R l c a b) (spanV R l c a b) := by
  have hb := right_B R l
  have b1 := within_B c 1 9
  have b2 := within_B a 0 100000
  have b3 := within_B b a 100000
  unfold spanV
  by_cases ok : OKT R l
  case neg => rw [if_neg ok]; exact evb (hb.2 ok) (evn (by simp) (Ev.now _))
  rw [if_pos ok]
  refine evb (hb.1 ok) (evp rfl ?_)
  by_cases h1 : 1 ≤ c ∧ c ≤ 9
  case neg => rw [if_neg (fun q : InS c a b => h1 q.1)]; exact evb (b1.2 h1) (evn (by simp) (Ev.now _))
  refine evb (b1.1 h1) (evp rfl ?_)
  by_cases h2 : 0 ≤ a ∧ a ≤ 100000
  case neg => rw [if_neg (fun q : InS c a b => h2 q.2.1)]; exact evb (b2.2 h2) (evn (by simp) (Ev.now _))
  refine evb (b2.1 h2) (evp rfl ?_)
  by_cases h3 : a ≤ b ∧ b ≤ 100000
  case neg => rw [if_neg (fun q : InS c a b => h3 q.2.2)]; exact evb (b3.2 h3) (evn (by simp) (Ev.now _))
  rw [if_pos (show InS c a b from ⟨h1, h2, h3⟩)]
  exact evb (b3.1 h3) (evp rfl (Ev.now _))
/-- The specification's own three tests. -/
theorem spans_ev {α : Type} {J : Nat → Bool → Option α} {x y : α} (c a b : Int) (h1 : InS c a b → Ev (fun k => J k false) x) (h2 : Ev (fun k => J k true) y) :
    Ev (fun k => (spileref46_Ranges.f c a).bind fun t => if t = true then ((spileref46_Ranges.f c b).bind fun t2 => if t2 = true then J k (decide (a > b)) else J k true) else J k true) (if InS c a b then x else y) := by
  have b1 := ranges_B c a
  have b2 := ranges_B c b
  by_cases q1 : InR c a
  case neg => rw [if_neg (fun q : InS c a b => q1 ⟨q.1, q.2.1⟩)]; exact evb (b1.2 q1) (evn (by simp) h2)
  refine evb (b1.1 q1) (evp rfl ?_)
  by_cases q2 : InR c b
  case neg => rw [if_neg (fun q : InS c a b => q2 ⟨q.1, by have := q.2; omega⟩)]; exact evb (b2.2 q2) (evn (by simp) h2)
  refine evb (b2.1 q2) (evp rfl ?_)
  by_cases q3 : a > b
  · rw [if_neg (fun q : InS c a b => by have := q.2.2; omega), decide_eq_true q3]; exact h2
  · have q : InS c a b := ⟨q1.1, q1.2, by omega, q2.2.2⟩
    rw [if_pos q, decide_eq_false q3]; exact h1 q
def greatV (R : Int) (l : List S26) (c a b : Int) : Int × Int × Int × Int := if OKT R l then (if InS c a b then G4 (mst false c a b l (frc c a l s0)) else (0, 0, 0, 2)) else (0, 0, 0, 1)
theorem greatest_ev (R : Int) (l : List S26) (hl : (l.length : Int) ≤ 65) (c a b : Int) : Ev (fun k => tariff_Greatest.f k R l c a b) (greatV R l c a b) := by
  have sp := span_ev R l c a b
  unfold greatV
  unfold spanV at sp
  by_cases ok : OKT R l
  case neg => rw [if_neg ok] at sp ⊢; exact evb sp (evn (by omega) (Ev.now _))
  rw [if_pos ok] at sp ⊢
  by_cases hs : InS c a b
  case neg => rw [if_neg hs] at sp ⊢; exact evb sp (evn (by omega) (Ev.now _))
  rw [if_pos hs] at sp ⊢
  have q := greatest_loop l hl c a b 0 (by omega) (by omega) (frc c a l s0)
  rw [show (0 : Int).toNat = 0 from rfl, List.drop_zero] at q
  exact evb sp (evp rfl (evb (force_ev R l hl c a) q))
theorem Greatest_ev (R : Int) (l : List S26) (hl : (l.length : Int) ≤ 65) (c a b : Int) : Ev (fun k => spileref46_Greatest.f k R l c a b) (greatV R l c a b) := by
  have hb := Right_B R l
  unfold greatV
  by_cases ok : OKT R l
  case neg => rw [if_neg ok]; exact evb (hb.2 ok) (evn (by simp) (Ev.now _))
  rw [if_pos ok]
  refine evb (hb.1 ok) (evp rfl ?_)
  refine spans_ev (J := fun k t => spileref46_Greatest.j0 k c a b t R l) c a b (fun hs => ?_) (Ev.step (fun k => spileref46_Greatest.j0.eq_2 ..) (evp rfl (Ev.now _)))
  have q := most_loop l hl R c a b 0 (by omega) (by omega) (frc c a l s0)
  rw [show (0 : Int).toNat = 0 from rfl, List.drop_zero, ← most_same c a b l s0 ok.2.2.2] at q
  refine Ev.step (fun k => spileref46_Greatest.j0.eq_2 ..) (evn (by simp) (evb (evb (Force_ev R l hl c a) q) ?_))
  by_cases z : (mst false c a b l (frc c a l s0)).2 = true
  · exact evp z (evr (if_pos z).symm)
  · exact evn z (evr (if_neg z).symm)
def InD (c a b : Int) (x : S26) : Prop := x.f0 = c ∧ a ≤ x.f1 ∧ x.f1 ≤ b
instance (c a b : Int) (x : S26) : Decidable (InD c a b x) := by unfold InD; infer_instance
def chg (c a b : Int) : List S26 → List Int → List Int
  | [], o => o
  | x :: r, o => chg c a b r (if InD c a b x then o ++ [x.f1] else o)
theorem chg_cons (c a b : Int) (x : S26) (r : List S26) (o : List Int) : chg c a b (x :: r) o = chg c a b r (if InD c a b x then o ++ [x.f1] else o) := rfl
theorem chg_len (c a b : Int) : ∀ (l : List S26) (o : List Int), (chg c a b l o).length ≤ o.length + l.length
  | [], o => Nat.le_refl _
  | x :: r, o => by
    rw [chg_cons]
    have := chg_len c a b r (if InD c a b x then o ++ [x.f1] else o)
    have e : (if InD c a b x then o ++ [x.f1] else o).length ≤ o.length + 1 := by split <;> simp
    simp
    omega
theorem changes_loop (l : List S26) (hl : (l.length : Int) ≤ 65) (R c lo hi : Int) : ∀ i, 0 ≤ i → i ≤ (l.length : Int) → ∀ o : List Int, (o.length : Int) ≤ i →
    Ev (fun k => tariff_Changes.l0 k c lo hi o l (l.length : Int) i) (chg c lo hi (l.drop i.toNat) o, 0) ∧ Ev (fun k => spileref46_Changes.l0 k c lo hi o i R l) (chg c lo hi (l.drop i.toNat) o, 0) := by
  refine count_up 0 (l.length : Int) _ ?_ ?_
  · intro o ho
    rw [List.drop_eq_nil_of_le (by omega)]
    exact ⟨Ev.step (fun k => tariff_Changes.l0.eq_2 ..) (evn (by omega) (Ev.now _)), Ev.step (fun k => spileref46_Changes.l0.eq_2 ..) (evn (by omega) (Ev.now _))⟩
  · intro i h0 h1 ih o ho
    have hw := w64_succ h0 h1 (by omega)
    rw [drop26 h0 h1, chg_cons]
    have bw := within_B (rd_T26 l i).f1 lo hi
    by_cases q1 : (rd_T26 l i).f0 = c
    case neg =>
      obtain ⟨a, b⟩ := ih o (by omega)
      rw [if_neg (fun z : InD c lo hi (rd_T26 l i) => q1 z.1)]
      exact ⟨Ev.step (fun k => tariff_Changes.l0.eq_2 ..) (evp h1 (evp h0 (evp h1 (evn q1 (by rw [hw]; exact a))))), Ev.step (fun k => spileref46_Changes.l0.eq_2 ..) (evp h1 (evp h0 (evn q1 (by rw [hw]; exact b))))⟩
    by_cases q2 : lo ≤ (rd_T26 l i).f1 ∧ (rd_T26 l i).f1 ≤ hi
    case neg =>
      obtain ⟨a, b⟩ := ih o (by omega)
      rw [if_neg (fun z : InD c lo hi (rd_T26 l i) => q2 z.2)]
      refine ⟨Ev.step (fun k => tariff_Changes.l0.eq_2 ..) (evp h1 (evp h0 (evp h1 (evp q1 (evb (bw.2 q2) (evn (by simp) (by rw [hw]; exact a))))))), Ev.step (fun k => spileref46_Changes.l0.eq_2 ..) (evp h1 (evp h0 (evp q1 ?_)))⟩
      by_cases q3 : (rd_T26 l i).f1 ≥ lo
      · exact evp q3 (evn (fun z => q2 ⟨q3, z⟩) (by rw [hw]; exact b))
      · exact evn q3 (by rw [hw]; exact b)
    obtain ⟨a, b⟩ := ih (o ++ [(rd_T26 l i).f1]) (by simp; omega)
    rw [if_pos (show InD c lo hi (rd_T26 l i) from ⟨q1, q2⟩)]
    exact ⟨Ev.step (fun k => tariff_Changes.l0.eq_2 ..) (evp h1 (evp h0 (evp h1 (evp q1 (evb (bw.1 q2) (evp rfl (evp (by omega) (by rw [hw]; exact a)))))))), Ev.step (fun k => spileref46_Changes.l0.eq_2 ..) (evp h1 (evp h0 (evp q1 (evp q2.1 (evp q2.2 (evp (by omega) (by rw [hw]; exact b)))))))⟩
def chgV (R : Int) (l : List S26) (c a b : Int) : List Int × Int := if OKT R l then (if InS c a b then (chg c a b l [], 0) else ([], 2)) else ([], 1)
theorem changes_ev (R : Int) (l : List S26) (hl : (l.length : Int) ≤ 65) (c a b : Int) : Ev (fun k => tariff_Changes.f k R l c a b) (chgV R l c a b) := by
  have sp := span_ev R l c a b
  unfold chgV
  unfold spanV at sp
  by_cases ok : OKT R l
  case neg => rw [if_neg ok] at sp ⊢; exact evb sp (evn (by omega) (Ev.now _))
  rw [if_pos ok] at sp ⊢
  by_cases hs : InS c a b
  case neg => rw [if_neg hs] at sp ⊢; exact evb sp (evn (by omega) (Ev.now _))
  rw [if_pos hs] at sp ⊢
  have q := (changes_loop l hl R c a b 0 (by omega) (by omega) [] (by simp)).1
  rw [show (0 : Int).toNat = 0 from rfl, List.drop_zero] at q
  exact evb sp (evp rfl q)
theorem Changes_ev (R : Int) (l : List S26) (hl : (l.length : Int) ≤ 65) (c a b : Int) : Ev (fun k => spileref46_Changes.f k R l c a b) (chgV R l c a b) := by
  have hb := Right_B R l
  unfold chgV
  by_cases ok : OKT R l
  case neg => rw [if_neg ok]; exact evb (hb.2 ok) (evn (by simp) (Ev.now _))
  rw [if_pos ok]
  refine evb (hb.1 ok) (evp rfl ?_)
  refine spans_ev (J := fun k t => spileref46_Changes.j0 k c a b t R l) c a b (fun hs => ?_) (Ev.step (fun k => spileref46_Changes.j0.eq_2 ..) (evp rfl (Ev.now _)))
  have q := (changes_loop l hl R c a b 0 (by omega) (by omega) [] (by simp)).2
  rw [show (0 : Int).toNat = 0 from rfl, List.drop_zero] at q
  exact Ev.step (fun k => spileref46_Changes.j0.eq_2 ..) (evn (by simp) q)
theorem equal_self (l : List Int) (hl : (l.length : Int) ≤ 9223372036854775807) : Ev (fun k => slices_Equal_int_int.f k l l) true := by
  refine evp rfl (count_up 0 (l.length : Int) (fun i => Ev (fun k => slices_Equal_int_int.l0 k l l (l.length : Int) i) true) ?_ ?_ 0 (Int.le_refl _) (by omega))
  · exact Ev.step (fun k => slices_Equal_int_int.l0.eq_2 ..) (evn (by omega) (Ev.now _))
  · intro i h0 h1 ih
    refine Ev.step (fun k => slices_Equal_int_int.l0.eq_2 ..) (evp h1 (evp h0 (evp h1 (evp h1 (evp rfl ?_)))))
    rw [w64_succ h0 h1 hl]
    exact ih
end Go.Proofs.YtholbmidciapdaaGreatDoor.PL
namespace Go.Proofs.YtholbmidciapdaaGreatDoor.PL
open Go Go.RowKit Go.Proofs.YtholbmidciapdaaGreatDoorW.PrintWords Go.Proofs.YtholbmidciapdaaGreatDoorW.PrintLast Go.Proofs.YtholbmidciapdaaGreatDoorW.PrintMore Go.Proofs.YtholbmidciapdaaGreatDoor.Pr Go.Proofs.YtholbmidciapdaaGreatDoor.X
theorem chgV_len (R : Int) (l : List S26) (hl : (l.length : Int) ≤ 65) (c a b : Int) : ((chgV R l c a b).1.length : Int) ≤ 65 := by
  unfold chgV
  split
  · split
    · have := chg_len c a b l []
      simp at this
      show ((chg c a b l []).length : Int) ≤ 65
      omega
    · simp
  · simp
end Go.Proofs.YtholbmidciapdaaGreatDoor.PL
namespace Go.Proofs.YtholbmidciapdaaGreatDoor.Pure
open Go Go.RowKit Go.Proofs.YtholbmidciapdaaGreatDoorW.PrintWords Go.Proofs.YtholbmidciapdaaGreatDoorW.PrintLast Go.Proofs.YtholbmidciapdaaGreatDoorW.PrintMore Go.Proofs.YtholbmidciapdaaGreatDoor.Pr Go.Proofs.YtholbmidciapdaaGreatDoor.Opn Go.Proofs.YtholbmidciapdaaGreatDoor.X Go.Proofs.YtholbmidciapdaaGreatDoor.PL
theorem TariffRates : tariffRatesPure := by
  intro R l c a b hR hl hc ha hb
  refine Ev.rounds ?_
  obtain ⟨q, hq, hq2⟩ := few_eq R l
  have haw : Ev (fun _ : Nat => spilelaw46_awake.f) true := Ev.now _
  have yes : ∀ t, t = true → Ev (fun k => spilelaw46_TariffRates.j0 k c a b t R l) true := fun t ht => Ev.step (fun k => spilelaw46_TariffRates.j0.eq_2 ..) (evp ht (evb haw (Ev.now _)))
  refine evb haw (evp rfl (evb (evc (fun _ => rfl) hq) ?_))
  cases q with
  | false => exact yes _ rfl
  | true =>
    have hn := hq2 rfl
    have hcp : Ev (fun _ : Nat => spilelaw46_cp.f R l) (R, l) := evc (fun _ => rfl) (cp_eq hn)
    have hlen := chgV_len R l hn c a b
    exact Ev.step (fun k => spilelaw46_TariffRates.j0.eq_2 ..) (evn (by simp) (evb hcp (evb (at_ev R l hn c a) (evb (At_ev R l hn c a) (evb hcp (evb (greatest_ev R l hn c a b) (evb (Greatest_ev R l hn c a b) (evb hcp (evb (changes_ev R l hn c a b) (evb (Changes_ev R l hn c a b)
      (evp (by simp) (evp rfl (evp (by simp) (evp rfl (evb (equal_self (chgV R l c a b).1 (by omega)) (evp rfl (evr (by simp))))))))))))))))))
end Go.Proofs.YtholbmidciapdaaGreatDoor.Pure
namespace Go.Proofs.YtholbmidciapdaaGreatDoor.X
open Go
variable {H : Type} {enc : TypeId × Value → H}
theorem wrap_shaped {a : Assume} {C : Checked} {os : Os} {f : FuncId} {fn : Func} {s : ChangeSpec} {conds : List PathCond} {apart fresh handsOn again : Bool} {X : World → Array Value → Prop}
    (hX : ∀ (w w' : World) (args : Array Value), w.heap = w'.heap → X w args → X w' args)
    (own : ownKnob C.prog.godebug = none) (started : os.Started) (noInit : C.prog.inits.idxOf? f = none) (hfn : C.prog.funcs[f]? = some fn)
    (witness : ∃ (w : World) (tape : Tape) (i : Input), w.os = os ∧ (w.forCall tape i).Shaped C.prog ∧ i.vars = [] ∧ Input.okWide C.prog (w.forCall tape i) .any w.heap.size f i ∧
      ((s.pre enc C.prog fn conds apart (w.forCall tape i).memory i.args ∧ X (w.forCall tape i).memory i.args) ∧ sizedMet enc C.prog fn (OpenSpec.ofChange s) apart (w.forCall tape i).memory i.args) ∧ a.holds C.prog (lone (Frame.enter C.prog f i.args .normal) [] (w.forCall tape i)))
    (walk : ∀ (W : World) (base : Nat) (args : Array Value) (ds gs : List (DataW H)) (before : List MemPlace),
      (∀ (j : Nat) t v, fn.params[j]? = some t → args[j]? = some v → Value.okWide C.prog W .any base t v) →
      DataW.Whole enc C.prog fn.params.toList s.vars apart W args.toList ds gs before → X W args → W.ShapedOpen C.prog →
      Calls C.prog f args W fun e W' => ∃ v, e = .returned v ∧ s.post enc C.prog fn apart fresh handsOn again W args v W') :
    ReturnsInHanded a C os f .any (fun w args => (s.pre enc C.prog fn conds apart w args ∧ X w args) ∧ sizedMet enc C.prog fn (OpenSpec.ofChange s) apart w args) (s.post enc C.prog fn apart fresh handsOn again) := by
  refine returnsInHanded_of_calls own started noInit witness ?_
  intro w tape i _ hsh _ hok hpre _
  obtain ⟨_, _, _, fn', hfn', _, _, _, _, hval⟩ := hok
  obtain rfl : fn' = fn := Option.some.inj (hfn'.symm.trans hfn)
  obtain ⟨⟨⟨ds, gs, before, hw, _⟩, hx⟩, _⟩ := hpre
  refine (walk (w.forCall tape i) w.heap.size i.args ds gs before hval (DataW.Whole.of_heap (w' := w.forCall tape i) (by rfl) hw) (hX _ _ _ (by rfl) hx) hsh).mono fun e W' ⟨v, he, hp⟩ => ?_
  subst he
  exact ChangeSpec.post_blind hp
end Go.Proofs.YtholbmidciapdaaGreatDoor.X
namespace Go.Proofs.YtholbmidciapdaaGreatDoor.tariffRates
open Go Go.ChangeShapes Go.WideShapes Go.ChangeAt Go.RowKit
open Go.ChangeMaps (open_string shut_string)
open Go.Proofs.YtholbmidciapdaaGreatDoorW.PrintWords Go.Proofs.YtholbmidciapdaaGreatDoor.O Go.Proofs.YtholbmidciapdaaGreatDoor.Opn Go.Proofs.YtholbmidciapdaaGreatDoor.Pr Go.Proofs.YtholbmidciapdaaGreatDoor.X
theorem own : ownKnob Tryz.prog.godebug = none := by kernel_rfl
theorem laidOut : laidOutB Tryz.prog = true := by kernel_rfl
abbrev laidL : List (String × DataW Unit) := [("math/bits.deBruijn32tab", Rows.laid_math_bits_deBruijn32tab), ("math/bits.deBruijn64tab", Rows.laid_math_bits_deBruijn64tab), ("internal/strconv.uint64pow10", Rows.laid_internal_strconv_uint64pow10), ("unicode/utf8.acceptRanges", Rows.laid_unicode_utf8_acceptRanges), ("strconv.ErrRange", Rows.laid_strconv_ErrRange), ("strconv.ErrSyntax", Rows.laid_strconv_ErrSyntax), ("spile/tariff.words", Rows.laid_spile_tariff_words), ("unicode/utf8.first", Rows.laid_unicode_utf8_first)]
set_option maxRecDepth 100000 in
theorem lifted (os : Os) (started : os.Started) (H : Type) (enc : TypeId × Value → H) :
    ReturnsInHanded {} Tryz.checked os 4 .any (fun w args => (Rows.tariffRatesSpec.pre enc Tryz.prog Tryz.f4 [] false w args ∧ laidMetH Tryz.prog laidL w) ∧ sizedMet enc Tryz.prog Tryz.f4 (OpenSpec.ofChange Rows.tariffRatesSpec) false w args)
      (Rows.tariffRatesSpec.post enc Tryz.prog Tryz.f4 false true false false) := by
  refine wrap_shaped (C := Tryz.checked) (X := (fun w _ => laidMetH Tryz.prog laidL w)) (fun _ _ _ hh h => h.of_heap hh) own started (by kernel_rfl) Tryz.func4
    (ChangeSpec.witness_shaped (enc := enc) (C := Tryz.checked) (os := os) (X := (fun w _ => laidMetH Tryz.prog laidL w)) false (World.laidAll Tryz.prog os laidL) #[.agg #[.int .i64 0, .slice none 0 0], .int .i64 0, .int .i64 0, .int .i64 0] 8 (World.laidAll_os _ _ _) (World.shaped_of_ZipB (by kernel_rfl) (by kernel_rfl)) (by kernel_rfl) (by kernel_rfl) (by kernel_rfl) (by rw [MakeChecks.laidMetH_plain _ _ _ (by kernel_rfl)]; exact laidMet_laidAll _ (by kernel_rfl) (by kernel_rfl))) ?_
  intro W base args ds gs before hval0 hW hL hsh
  have hval : ∀ (j : Nat) t v, Tryz.f4.params[j]? = some t → args[j]? = some v → Value.okWide Tryz.prog W .any base t v := hval0
  have hW' := hW
  obtain ⟨p, q, hA0, hV, rfl, hfz, hnd⟩ := hW
  have hA : DataW.TrodAll enc Tryz.prog W 0 (fun _ => true) true Tryz.f4.params.toList args.toList ds p := hA0
  rw [Tryz.params4] at hA hval
  obtain ⟨v0, vs0, d0, ds0, p0, q0, hargs, rfl, rfl, h0, r0⟩ := trodAll_cons hA
  obtain ⟨v1, vs1, d1, ds1, p1, q1, rfl, rfl, rfl, h1, r1⟩ := trodAll_cons r0
  obtain ⟨v2, vs2, d2, ds2, p2, q2, rfl, rfl, rfl, h2, r2⟩ := trodAll_cons r1
  obtain ⟨v3, vs3, d3, ds3, p3, q3, rfl, rfl, rfl, h3, r3⟩ := trodAll_cons r2
  obtain ⟨rfl, rfl, rfl⟩ := trodAll_nil r3
  obtain rfl : args = #[v0, v1, v2, v3] := by cases args; simp_all
  obtain ⟨rfl, rfl⟩ := trodVars_none hV
  obtain ⟨cs0, rfl, _⟩ := okWide_struct Tryz.underlying24 (hval 0 24 v0 rfl rfl)
  have k0 := h0
  have lt0 : ∀ x ∈ p0, x.block < W.heap.size := by obtain ⟨m, hm⟩ := k0; exact DataW.trod_lt m _ _ _ hm
  obtain ⟨x0, K0, ok0⟩ : ∃ x, k24.K W x cs0.toList ∧ ok24 x := by
    obtain ⟨fuel, hf⟩ := h0
    exact opens24.2 _ _ _ _ _ _ _ _ _ hf
  obtain ⟨A0_1, c0_1, e0, g0_1, hr0_1⟩ := k24_open K0
  obtain rfl : cs0 = #[.int .i64 (x0.f0), .slice A0_1 (x0.f1).length c0_1] := by cases cs0; simpa using e0
  obtain ⟨a1, rfl, rfl, rfl, w1⟩ := open_int Tryz.underlying3 (hval 1 3 v1 rfl rfl) h1
  obtain ⟨a2, rfl, rfl, rfl, w2⟩ := open_int Tryz.underlying3 (hval 2 3 v2 rfl rfl) h2
  obtain ⟨a3, rfl, rfl, rfl, w3⟩ := open_int Tryz.underlying3 (hval 3 3 v3 rfl rfl) h3
  clear hA0 hval0
  obtain ⟨k, hp⟩ := Pure.TariffRates (x0.f0) (x0.f1) a1 a2 a3 ok0.1 ok0.2 w1 w2 w3
  have hG : GI W := GI.of_laid laidL (by simp [laidL]) (by simp [laidL]) (by simp [laidL]) (by simp [laidL]) hL hsh
  refine (spilelaw46_TariffRates.calls k (x0.f0) _ _ (x0.f1) a1 a2 a3 true W hr0_1 g0_1 hG rfl hp).mono fun e W' ⟨he, bel⟩ => ?_
  subst he
  exact ⟨_, rfl, _, _, _, [], _, [], hW', trodAll_mk1 (shut_bool Tryz.underlying4 _), (trodAll_cons_mk (Below.trod laidOut (by kernel_rfl) (of_decide_eq_true (by kernel_rfl)) k0 bel lt0) (trodAll_cons_mk (shut_int Tryz.underlying3 w1) (trodAll_cons_mk (shut_int Tryz.underlying3 w2) (trodAll_cons_mk (shut_int Tryz.underlying3 w3) trodAll_mk0)))), rfl, bel.frame _, fun h => by cases h⟩
theorem holds : Rows.TariffRatesSaid :=
  OpenClaim.holds_of_wide 4 Tryz.f4 rfl rfl rfl rfl rfl rfl rfl ⟨rfl, rfl, rfl, rfl, rfl⟩ rfl rfl rfl rfl rfl (by kernel_rfl) Tryz.func4 (by kernel_rfl)
    (of_decide_eq_true (by kernel_rfl)) (by unfold Func.isWrapper; first | (rw [if_pos (by decide +kernel)]; kernel_rfl) | (rw [if_neg (by decide +kernel)]; exact ⟨rfl, rfl⟩))
    (fun os started H enc _ => lifted os started H enc)
theorem card : Rows.TariffRatesCardSaid :=
  Claim7.holds_tied_plain_at .later [] [.data, .data, .data, .data, .sentinel, .sentinel, .widerDeep, .pinned] true (true, "e915a9bdfe9e1389aaf186e88c341004cfdabf0ce269b5d3aa2c8944f7f7b486") true
    holds (fun _ h => by cases h) (by kernel_rfl) (fun _ h => by cases h) tariffRates_row_tie rfl ⟨rfl, rfl⟩ (by kernel_rfl) rfl
    (fun f fn hf hfn => by
      obtain rfl : f = 4 := Option.some.inj ((show Tryz.prog.funcNamed "spile/spilelaw46.TariffRates" = some 4 by kernel_rfl).symm.trans hf) |>.symm
      obtain rfl : fn = Tryz.f4 := (Option.some.inj (Tryz.func4.symm.trans hfn)).symm
      exact ⟨by kernel_rfl, fun j t ht => by
        rw [Tryz.params4] at ht
        have hm : t ∈ [24, 3, 3, 3] := by simpa using Array.mem_of_getElem? ht
        have hall : ([24, 3, 3, 3].all fun u => !Tryz.prog.wantsStandIn u) = true := by kernel_rfl
        exact (show Tryz.prog.wantsStandIn t = false by simpa using List.all_eq_true.1 hall t hm)⟩)
    (by kernel_rfl)
end Go.Proofs.YtholbmidciapdaaGreatDoor.tariffRates
namespace Go.Proofs.YtholbmidciapdaaGreatDoor
/-- The card, under a short name, for the claim. -/
theorem tariffRates_holds : Rows.TariffRatesCardSaid := tariffRates.card
#print axioms tariffRates_holds
end Go.Proofs.YtholbmidciapdaaGreatDoor
