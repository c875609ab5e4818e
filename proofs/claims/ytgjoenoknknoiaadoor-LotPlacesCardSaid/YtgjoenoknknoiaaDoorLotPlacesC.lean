/-
A part of what these laws rest on: contracts of the functions that they reach, and plain lemmas.
-/
import Derived.Test.YtgjoenoknknoiaaDoorLotPlacesB
set_option linter.unusedVariables false
set_option linter.unusedSimpArgs false
namespace Go.Proofs.YtgjoenoknknoiaaDoor.Pr
open Go.RowKit Go.Proofs.YtgjoenoknknoiaaDoorW.PrintWords Go.Proofs.YtgjoenoknknoiaaDoorW.PrintLast Go.Proofs.YtgjoenoknknoiaaDoorW.PrintMore Go.Proofs.YtgjoenoknknoiaaDoor.X
attribute [local go_sem] max2_int min2_int max_two min_two max_three min_three max_four min_four   -- for this text's walks alone
set_option linter.unusedVariables false
set_option linter.unusedSimpArgs false
def lot_right.f (k : Nat) (l0 : List (S33)) : Option (Bool) := (lot_Check.f k l0).bind fun bt133 => (some (bt133.2 == 0))
theorem lot_right.mono : ∀ a0 k, LeO (lot_right.f k a0) (lot_right.f (k + 1) a0) := by
 intro a0 k
 unfold lot_right.f
 repeat' first
   | (with_reducible exact lot_Check.mono _ _)
   | (with_reducible exact LeO.refl _)
   | (with_reducible exact LeO.none _)
   | (with_reducible refine LeO.ite ?_ ?_)
   | (with_reducible refine LeO.bind ?_ (fun _ => ?_))
   | exact lot_Check.mono _ _
   | exact LeO.none _
   | refine LeO.ite ?_ ?_
   | refine LeO.bind ?_ (fun _ => ?_)
set_option maxHeartbeats 8000000 in
set_option maxRecDepth 100000 in
theorem lot_right.calls (k : Nat) (A0 : Option Addr) (c0 : Nat) (l0 : List (S33)) (r : Bool) (w : World) (hr0 : Kd.C k33 w A0 l0.length l0) (hc0 : l0.length ≤ c0) (h : lot_right.f k l0 = some r) :
  Calls Tryd.prog 34 #[.slice A0 l0.length c0] w fun e w' => e = .returned (.bool r) ∧ Below w.heap.size w w' := by
 have HR0 := Aside0.mk hr0
 have HC0 := Aside0.mk hc0
 clear hr0 hc0
 have HB := Aside0.mk (Below.refl w.heap.size w)
 have H : ((lot_Check.f k l0).bind fun bt133 => (some (bt133.2 == 0))) = some r := h
 clear h
 replace H := Option.bind_eq_some_iff.mp H
 obtain ⟨⟨t133, t134⟩, A20, H⟩ := H
 replace H : (some (t134 == 0)) = some r := H
 have A2 := Aside0.mk A20
 clear A20
 obtain rfl := Option.some.inj H
 go_enter Tryd.func34, Tryd.ntmps34
 go_wp2_with (first | ((with_reducible refine gate_callee (f := 14) rfl ?_); refine goesL_ (some 7) rfl rfl Tryd.func14 (by kernel_rfl) rfl #[.slice A0 l0.length c0] rfl (by (try simp only [List.map_toArray, List.map_cons, List.map_nil]); first | done | rfl | (simp only [List.length_drop, List.length_take]; rfl)) ?_; (with_reducible refine (lot_Check.calls k _ _ l0 t133 t134 _ ?side1 ?side2 A2.out).mono ?_); (case side1 => repeat (first | exact HR0.out | (with_reducible refine Kd.C_alloc ?_ _) | (with_reducible refine Kd.C_drewN ?_ _) | (with_reducible refine Kd.C_drew ?_))); (case side2 => exact HC0.out); rintro e w3 ⟨rfl, hb⟩; refine ⟨_, rfl, ?_⟩; have n0_ := Aside0.mk (below_step (by repeat (first | (with_reducible first | exact HB.out | apply below_alloc | apply pw_below_drewN | apply below_drew1) | exact HB.out)) hb); clear HB; have HB := n0_; clear n0_; (try clear hb); (try clear hb2); (try clear hk); (try clear hi)))
 go_ret
 exact ⟨by first | rfl | (simp [errW_none, errW_some] <;> rfl) | (simp [*, errW_none, errW_some] <;> rfl), by repeat (first | (with_reducible first | exact HB.out | apply below_alloc | apply pw_below_drewN | apply below_drew1) | exact HB.out)⟩
mutual
def lot_Of.l0 : Nat → Int → Int → List (S33) → Int → Int → Option (Int × Int)
 | 0, _, _, _, _, _ => none
 | k + 1, x1, x6, x22, x23, x24 => if x24 < x23 then (if 0 ≤ x24 then (if x24 < (x22.length : Int) then (lot_Of.l1 k x1 x6 x22 x23 x24 ((rd_T33 x22 x24).f2) (((rd_T33 x22 x24).f2).length : Int) 0) else (none)) else (none)) else (some (x6, 0))
def lot_Of.l1 : Nat → Int → Int → List (S33) → Int → Int → List (S35) → Int → Int → Option (Int × Int)
 | 0, _, _, _, _, _, _, _, _ => none
 | k + 1, x1, x6, x22, x23, x24, x29, x30, x31 => if x31 < x30 then (if 0 ≤ x31 then (if x31 < (x29.length : Int) then (if ((rd_T35 x29 x31).f0) = x1 then (lot_Of.l1 k x1 (wrap64 (x6 + ((rd_T35 x29 x31).f1))) x22 x23 x24 x29 x30 (wrap64 (x31 + 1))) else (lot_Of.l1 k x1 x6 x22 x23 x24 x29 x30 (wrap64 (x31 + 1)))) else (none)) else (none)) else (lot_Of.l0 k x1 x6 x22 x23 (wrap64 (x24 + 1)))
end
def lot_Of.f (k : Nat) (l0 : List (S33)) (a1 : Int) : Option (Int × Int) := (lot_right.f k l0).bind fun t135 => (if t135 = true then (if a1 < 1 then (some (0, 2)) else (if a1 > 1073741824 then (some (0, 2)) else (lot_Of.l0 k a1 0 l0 (l0.length : Int) 0))) else (some (0, 1)))
theorem lot_Of.mono_l : ∀ k, (∀ y0 y1 y2 y3 y4, LeO (lot_Of.l0 k y0 y1 y2 y3 y4) (lot_Of.l0 (k + 1) y0 y1 y2 y3 y4)) ∧ (∀ y0 y1 y2 y3 y4 y5 y6 y7, LeO (lot_Of.l1 k y0 y1 y2 y3 y4 y5 y6 y7) (lot_Of.l1 (k + 1) y0 y1 y2 y3 y4 y5 y6 y7))
 | 0 => ⟨fun _ _ _ _ _ r h => by simp [lot_Of.l0] at h, fun _ _ _ _ _ _ _ _ r h => by simp [lot_Of.l1] at h⟩
 | k + 1 => by
  obtain ⟨ih0, ih1⟩ := lot_Of.mono_l k
  refine ⟨?_, ?_⟩
  ·
   intro y0 y1 y2 y3 y4
   unfold lot_Of.l0
   repeat' first
   | (with_reducible exact ih0 _ _ _ _ _)
   | (with_reducible exact ih1 _ _ _ _ _ _ _ _)
   | (with_reducible exact lot_right.mono _ _)
   | (with_reducible exact LeO.refl _)
   | (with_reducible exact LeO.none _)
   | (with_reducible refine LeO.ite ?_ ?_)
   | (with_reducible refine LeO.bind ?_ (fun _ => ?_))
   | exact ih0 _ _ _ _ _
   | exact ih1 _ _ _ _ _ _ _ _
   | exact lot_right.mono _ _
   | exact LeO.none _
   | refine LeO.ite ?_ ?_
   | refine LeO.bind ?_ (fun _ => ?_)
  ·
   intro y0 y1 y2 y3 y4 y5 y6 y7
   unfold lot_Of.l1
   repeat' first
   | (with_reducible exact ih0 _ _ _ _ _)
   | (with_reducible exact ih1 _ _ _ _ _ _ _ _)
   | (with_reducible exact lot_right.mono _ _)
   | (with_reducible exact LeO.refl _)
   | (with_reducible exact LeO.none _)
   | (with_reducible refine LeO.ite ?_ ?_)
   | (with_reducible refine LeO.bind ?_ (fun _ => ?_))
   | exact ih0 _ _ _ _ _
   | exact ih1 _ _ _ _ _ _ _ _
   | exact lot_right.mono _ _
   | exact LeO.none _
   | refine LeO.ite ?_ ?_
   | refine LeO.bind ?_ (fun _ => ?_)
theorem lot_Of.mono : ∀ a0 a1 k, LeO (lot_Of.f k a0 a1) (lot_Of.f (k + 1) a0 a1) := by
 intro a0 a1 k
 obtain ⟨ih0, ih1⟩ := lot_Of.mono_l k
 unfold lot_Of.f
 repeat' first
   | (with_reducible exact ih0 _ _ _ _ _)
   | (with_reducible exact ih1 _ _ _ _ _ _ _ _)
   | (with_reducible exact lot_right.mono _ _)
   | (with_reducible exact LeO.refl _)
   | (with_reducible exact LeO.none _)
   | (with_reducible refine LeO.ite ?_ ?_)
   | (with_reducible refine LeO.bind ?_ (fun _ => ?_))
   | exact ih0 _ _ _ _ _
   | exact ih1 _ _ _ _ _ _ _ _
   | exact lot_right.mono _ _
   | exact LeO.none _
   | refine LeO.ite ?_ ?_
   | refine LeO.bind ?_ (fun _ => ?_)
set_option maxHeartbeats 8000000 in
set_option maxRecDepth 100000 in
theorem lot_Of.calls (k : Nat) (A0 : Option Addr) (c0 : Nat) (l0 : List (S33)) (a1 : Int) (r1 : Int) (r2 : Int) (w : World) (hr0 : Kd.C k33 w A0 l0.length l0) (hc0 : l0.length ≤ c0) (h : lot_Of.f k l0 a1 = some (r1, r2)) :
  Calls Tryd.prog 13 #[.slice A0 l0.length c0, .int .i64 a1] w fun e w' => e = .returned (.tuple #[.int .i64 r1, .int .i64 r2]) ∧ Below w.heap.size w w' := by
 have hu33 := Tryd.underlying33
 have hu35 := Tryd.underlying35
 have HR0 := Aside0.mk hr0
 have HC0 := Aside0.mk hc0
 clear hr0 hc0
 have HB := Aside0.mk (Below.refl w.heap.size w)
 have H : ((lot_right.f k l0).bind fun t135 => (if t135 = true then (if a1 < 1 then (some (0, 2)) else (if a1 > 1073741824 then (some (0, 2)) else (lot_Of.l0 k a1 0 l0 (l0.length : Int) 0))) else (some (0, 1)))) = some (r1, r2) := h
 clear h
 replace H := Option.bind_eq_some_iff.mp H
 obtain ⟨t135, A30, H⟩ := H
 replace H : (if t135 = true then (if a1 < 1 then (some (0, 2)) else (if a1 > 1073741824 then (some (0, 2)) else (lot_Of.l0 k a1 0 l0 (l0.length : Int) 0))) else (some (0, 1))) = some (r1, r2) := H
 have A3 := Aside0.mk A30
 clear A30
 by_cases c4 : t135 = true
 ·
  subst c4
  have H1 : (if a1 < 1 then (some (0, 2)) else (if a1 > 1073741824 then (some (0, 2)) else (lot_Of.l0 k a1 0 l0 (l0.length : Int) 0))) = some (r1, r2) := by rw [if_pos rfl] at H; exact H
  clear H
  have H := H1
  clear H1
  by_cases c5 : a1 < 1
  ·
   rw [if_pos c5] at H
   have c5b0 : decide (a1 < 1) = true := decide_eq_true c5
   clear c5
   simp only [Option.some.injEq, Prod.mk.injEq] at H
   obtain ⟨rfl, rfl⟩ := H
   go_enter Tryd.func13, Tryd.ntmps13
   go_wp2_with (first | ((with_reducible refine gate_callee (f := 34) rfl ?_); refine goesL_ (some 13) rfl rfl Tryd.func34 (by kernel_rfl) rfl #[.slice A0 l0.length c0] rfl (by (try simp only [List.map_toArray, List.map_cons, List.map_nil]); first | done | rfl | (simp only [List.length_drop, List.length_take]; rfl)) ?_; (with_reducible refine (lot_right.calls k _ _ l0 true _ ?side1 ?side2 A3.out).mono ?_); (case side1 => repeat (first | exact HR0.out | (with_reducible refine Kd.C_alloc ?_ _) | (with_reducible refine Kd.C_drewN ?_ _) | (with_reducible refine Kd.C_drew ?_))); (case side2 => exact HC0.out); rintro e w6 ⟨rfl, hb⟩; refine ⟨_, rfl, ?_⟩; have n0_ := Aside0.mk (below_step (by repeat (first | (with_reducible first | exact HB.out | apply below_alloc | apply pw_below_drewN | apply below_drew1) | exact HB.out)) hb); clear HB; have HB := n0_; clear n0_; (try clear hb); (try clear hb2); (try clear hk); (try clear hi)))
   go_ret2
   exact ⟨by first | rfl | (simp [errW_none, errW_some] <;> rfl) | (simp [*, errW_none, errW_some] <;> rfl), by repeat (first | (with_reducible first | exact HB.out | apply below_alloc | apply pw_below_drewN | apply below_drew1) | exact HB.out)⟩
  ·
   rw [if_neg c5] at H
   have c5b0 : decide (a1 < 1) = false := decide_eq_false c5
   clear c5
   by_cases c7 : a1 > 1073741824
   ·
    rw [if_pos c7] at H
    have c7b0 : decide (1073741824 < a1) = true := decide_eq_true c7
    clear c7
    simp only [Option.some.injEq, Prod.mk.injEq] at H
    obtain ⟨rfl, rfl⟩ := H
    go_enter Tryd.func13, Tryd.ntmps13
    go_wp2_with (first | ((with_reducible refine gate_callee (f := 34) rfl ?_); refine goesL_ (some 13) rfl rfl Tryd.func34 (by kernel_rfl) rfl #[.slice A0 l0.length c0] rfl (by (try simp only [List.map_toArray, List.map_cons, List.map_nil]); first | done | rfl | (simp only [List.length_drop, List.length_take]; rfl)) ?_; (with_reducible refine (lot_right.calls k _ _ l0 true _ ?side1 ?side2 A3.out).mono ?_); (case side1 => repeat (first | exact HR0.out | (with_reducible refine Kd.C_alloc ?_ _) | (with_reducible refine Kd.C_drewN ?_ _) | (with_reducible refine Kd.C_drew ?_))); (case side2 => exact HC0.out); rintro e w8 ⟨rfl, hb⟩; refine ⟨_, rfl, ?_⟩; have n0_ := Aside0.mk (below_step (by repeat (first | (with_reducible first | exact HB.out | apply below_alloc | apply pw_below_drewN | apply below_drew1) | exact HB.out)) hb); clear HB; have HB := n0_; clear n0_; (try clear hb); (try clear hb2); (try clear hk); (try clear hi)))
    go_ret2
    exact ⟨by first | rfl | (simp [errW_none, errW_some] <;> rfl) | (simp [*, errW_none, errW_some] <;> rfl), by repeat (first | (with_reducible first | exact HB.out | apply below_alloc | apply pw_below_drewN | apply below_drew1) | exact HB.out)⟩
   ·
    rw [if_neg c7] at H
    have c7b0 : decide (1073741824 < a1) = false := decide_eq_false c7
    clear c7
    have H' := Aside0.mk H
    clear H
    go_enter Tryd.func13, Tryd.ntmps13
    go_wp2_with (first | ((with_reducible refine gate_callee (f := 34) rfl ?_); refine goesL_ (some 13) rfl rfl Tryd.func34 (by kernel_rfl) rfl #[.slice A0 l0.length c0] rfl (by (try simp only [List.map_toArray, List.map_cons, List.map_nil]); first | done | rfl | (simp only [List.length_drop, List.length_take]; rfl)) ?_; (with_reducible refine (lot_right.calls k _ _ l0 true _ ?side1 ?side2 A3.out).mono ?_); (case side1 => repeat (first | exact HR0.out | (with_reducible refine Kd.C_alloc ?_ _) | (with_reducible refine Kd.C_drewN ?_ _) | (with_reducible refine Kd.C_drew ?_))); (case side2 => exact HC0.out); rintro e w9 ⟨rfl, hb⟩; refine ⟨_, rfl, ?_⟩; have n0_ := Aside0.mk (below_step (by repeat (first | (with_reducible first | exact HB.out | apply below_alloc | apply pw_below_drewN | apply below_drew1) | exact HB.out)) hb); clear HB; have HB := n0_; clear n0_; (try clear hb); (try clear hb2); (try clear hk); (try clear hi)))
    go_loopg [6, 24] k (fun kq v6 v24 w' => ∃ (x6_1 : Int) (x24_1 : Int), v6 = .int .i64 x6_1 ∧ v24 = .int .i64 x24_1 ∧ Aside0 (lot_Of.l0 kq a1 x6_1 l0 (l0.length : Int) x24_1 = some (r1, r2)) ∧ Aside0 (kq ≤ k) ∧ Aside0 (Below w.heap.size w w'))
    case atStart => exact ⟨(0), (0), (by first | rfl | (simp; done) | (simp [*]; done)), (by first | rfl | (simp; done) | (simp [*]; done)), H', ⟨Nat.le_refl _⟩, ⟨by repeat (first | (with_reducible first | exact HB.out | apply below_alloc | apply pw_below_drewN | apply below_drew1) | exact HB.out)⟩⟩
    case round =>
     clear H'
     try clear c1
     try clear p2
     try clear c3
     try clear c4
     try clear c5
     try clear c5b0
     try clear c7
     try clear c7b0
     obtain ⟨x6_1, x24_1, rfl, rfl, HA, HK1, HB⟩ := hrel
     cases gk with
     | zero => exact absurd HA.out (by simp [lot_Of.l0])
     | succ k1 =>
      have H := HA.out
      clear HA
      simp only [lot_Of.l0] at H
      by_cases c10 : x24_1 < (l0.length : Int)
      ·
       rw [if_pos c10] at H
       have c10b0 : decide (x24_1 < (l0.length : Int)) = true := decide_eq_true c10
       clear c10
       by_cases c11 : 0 ≤ x24_1
       ·
        rw [if_pos c11] at H
        have c11b0 : decide (0 ≤ x24_1) = true := decide_eq_true c11
        clear c11
        by_cases c12 : x24_1 < (l0.length : Int)
        ·
         rw [if_pos c12] at H
         have c12b0 : decide (x24_1 < (l0.length : Int)) = true := decide_eq_true c12
         clear c12
         have H' := Aside0.mk H
         clear H
         have p136 : 0 ≤ (x24_1 : Int) := of_decide_eq_true (by first | (with_reducible assumption) | assumption)
         have q136 : x24_1 < (l0.length : Int) := of_decide_eq_true (by first | (with_reducible assumption) | assumption)
         obtain ⟨ad136, A136_3, c136_3, e136, hx136_0, hx136_1, hx136_2, hx136_3, hl136_3, hi136_3⟩ := at_T33 HR0.out x24_1 p136 q136
         cases e136
         replace hx136_0 := (HB.out.cell (World.block_lt_of_cell? w _ hx136_0)).trans hx136_0
         replace hx136_1 := (HB.out.cell (World.block_lt_of_cell? w _ hx136_1)).trans hx136_1
         replace hx136_2 := (HB.out.cell (World.block_lt_of_cell? w _ hx136_2)).trans hx136_2
         replace hx136_3 := (HB.out.cell (World.block_lt_of_cell? w _ hx136_3)).trans hx136_3
         have HR136_3 := Aside0.mk hi136_3
         have HC136_3 := Aside0.mk hl136_3
         clear hi136_3 hl136_3
         replace p136 := eq_true p136
         replace q136 := eq_true q136
         go_wp2_with (first | ((with_reducible refine gate_dst (N := 8) rfl ?_); refine box_event ?hg (N := 8) ?hd (cs := #[.int .i64 0, .int .i64 0, .int .i64 0, .slice none 0 0]) (t := 33) ?hr ?_; (case hd => rfl); (case hg => rfl); (case hr => first | (go_simp; done) | (go_simp; rfl)); intro gb137 hg w13 hbox hb; have n0_ := Aside0.mk (below_step (by repeat (first | (with_reducible first | exact HB.out | apply below_alloc | apply pw_below_drewN | apply below_drew1) | exact HB.out)) hb); have n1_ := Aside0.mk (hbox); have n2_ := Aside0.mk ((by rw [hg]; exact (below_size (by repeat (first | (with_reducible first | exact HB.out | apply below_alloc | apply pw_below_drewN | apply below_drew1) | exact HB.out))) : w.heap.size ≤ gb137)); have n3_ := Aside0.mk ((by rw [hg]; exact (below_size (by repeat (first | (with_reducible first | exact HB.out | apply below_alloc | apply pw_below_drewN | apply below_drew1) | exact HB.out))) : w.heap.size ≤ gb137)); clear HB; have HB := n0_; have BK137 := n1_; have GW137 := n2_; have GE137 := n3_; clear n0_ n1_ n2_ n3_; clear hb hbox hg; have hcz14_0 : w13.cell? ⟨gb137, 0, none⟩ = some (.int .i64 0) := (blk_cell BK137.out 0).trans rfl; have hcz14_1 : w13.cell? ⟨gb137, 1, none⟩ = some (.int .i64 0) := (blk_cell BK137.out 1).trans rfl; have hcz14_2 : w13.cell? ⟨gb137, 2, none⟩ = some (.int .i64 0) := (blk_cell BK137.out 2).trans rfl; have hcz14_3 : w13.cell? ⟨gb137, 3, none⟩ = some (.slice none 0 0) := (blk_cell BK137.out 3).trans rfl; have hfz14_0 := blk_frozen BK137.out 0; have hfz14_1 := blk_frozen BK137.out 1; have hfz14_2 := blk_frozen BK137.out 2; have hfz14_3 := blk_frozen BK137.out 3))
         go_loopg [6, 31] k1 (fun kq v6 v31 w' => ∃ (x6_2 : Int) (x31_2 : Int), v6 = .int .i64 x6_2 ∧ v31 = .int .i64 x31_2 ∧ Aside0 (lot_Of.l1 kq a1 x6_2 l0 (l0.length : Int) x24_1 ((rd_T33 l0 x24_1).f2) (((rd_T33 l0 x24_1).f2).length : Int) x31_2 = some (r1, r2)) ∧ Aside0 (kq ≤ k1) ∧ Aside0 (w'.heap[gb137]? = some (.cells #[.int .i64 ((rd_T33 l0 x24_1).f0), .int .i64 ((rd_T33 l0 x24_1).f1.f0), .int .i64 ((rd_T33 l0 x24_1).f1.f1), (.slice A136_3 ((rd_T33 l0 x24_1).f2).length c136_3)] 33 (0, 0))) ∧ Aside0 (Below w.heap.size w w'))
         case atStart => exact ⟨(x6_1), (0), (by first | rfl | (simp; done) | (simp [*]; done)), (by first | rfl | (simp; done) | (simp [*]; done)), H', ⟨Nat.le_refl _⟩, ⟨by (with_reducible repeat (first | refine blk_drewN ?_ _ | refine blk_drew ?_ | refine blk_alloc ?_ _)); refine blk_put (cs := #[.int .i64 ((rd_T33 l0 x24_1).f0), .int .i64 ((rd_T33 l0 x24_1).f1.f0), .int .i64 ((rd_T33 l0 x24_1).f1.f1), .slice none 0 0]) ?_ 3 _ rfl; (with_reducible repeat (first | refine blk_drewN ?_ _ | refine blk_drew ?_ | refine blk_alloc ?_ _)); refine blk_put (cs := #[.int .i64 ((rd_T33 l0 x24_1).f0), .int .i64 ((rd_T33 l0 x24_1).f1.f0), .int .i64 0, .slice none 0 0]) ?_ 2 _ rfl; (with_reducible repeat (first | refine blk_drewN ?_ _ | refine blk_drew ?_ | refine blk_alloc ?_ _)); refine blk_put (cs := #[.int .i64 ((rd_T33 l0 x24_1).f0), .int .i64 0, .int .i64 0, .slice none 0 0]) ?_ 1 _ rfl; (with_reducible repeat (first | refine blk_drewN ?_ _ | refine blk_drew ?_ | refine blk_alloc ?_ _)); refine blk_put (cs := #[.int .i64 0, .int .i64 0, .int .i64 0, .slice none 0 0]) ?_ 0 _ rfl; (with_reducible repeat (first | refine blk_drewN ?_ _ | refine blk_drew ?_ | refine blk_alloc ?_ _)); exact BK137.out⟩, ⟨by repeat (first | (with_reducible first | exact HB.out | apply below_alloc | apply pw_below_drewN | apply below_drew1 | refine below_set ?_ GE137.out) | exact HB.out)⟩⟩
         case round =>
          clear H'
          try clear c1
          try clear p1
          try clear q1
          try clear hx1
          try clear p2
          try clear c3
          try clear c4
          try clear c5
          try clear c5b0
          try clear c7
          try clear c7b0
          try clear c10
          try clear c10b0
          try clear c11
          try clear c11b0
          try clear c12
          try clear c12b0
          try clear c13
          try clear p13
          try clear q13
          try clear hx13
          try clear hcz14_0
          try clear hcz14_1
          try clear hcz14_2
          try clear hcz14_3
          try clear hfz14_0
          try clear hfz14_1
          try clear hfz14_2
          try clear hfz14_3
          try clear hx136_0
          try clear hx136_1
          try clear hx136_2
          try clear hx136_3
          try clear p136
          try clear p2
          try clear q136
          obtain ⟨x6_2, x31_2, rfl, rfl, HA, HK2, BK137, HB⟩ := hrel
          cases gk with
          | zero => exact absurd HA.out (by simp [lot_Of.l1])
          | succ k2 =>
           have H := HA.out
           clear HA
           simp only [lot_Of.l1] at H
           by_cases c15 : x31_2 < (((rd_T33 l0 x24_1).f2).length : Int)
           ·
            rw [if_pos c15] at H
            have c15b0 : decide (x31_2 < (((rd_T33 l0 x24_1).f2).length : Int)) = true := decide_eq_true c15
            clear c15
            by_cases c16 : 0 ≤ x31_2
            ·
             rw [if_pos c16] at H
             have c16b0 : decide (0 ≤ x31_2) = true := decide_eq_true c16
             clear c16
             by_cases c17 : x31_2 < (((rd_T33 l0 x24_1).f2).length : Int)
             ·
              rw [if_pos c17] at H
              have c17b0 : decide (x31_2 < (((rd_T33 l0 x24_1).f2).length : Int)) = true := decide_eq_true c17
              clear c17
              by_cases c18 : ((rd_T35 ((rd_T33 l0 x24_1).f2) x31_2).f0) = a1
              ·
               rw [if_pos c18] at H
               have c18b0 : (((rd_T35 ((rd_T33 l0 x24_1).f2) x31_2).f0) == a1) = true := beq_iff_eq.mpr c18
               have c18b1 : (((rd_T35 ((rd_T33 l0 x24_1).f2) x31_2).f0) != a1) = false := bne_eq_false_iff_eq.mpr c18
               clear c18
               have H' := Aside0.mk H
               clear H
               have p138 : 0 ≤ (x31_2 : Int) := of_decide_eq_true (by first | (with_reducible assumption) | assumption)
               have q138 : x31_2 < (((rd_T33 l0 x24_1).f2).length : Int) := of_decide_eq_true (by first | (with_reducible assumption) | assumption)
               obtain ⟨ad138, e138, hx138_0, hx138_1⟩ := at_T35 HR136_3.out x31_2 p138 q138
               cases e138
               replace hx138_0 := (HB.out.cell (World.block_lt_of_cell? w _ hx138_0)).trans hx138_0
               replace hx138_1 := (HB.out.cell (World.block_lt_of_cell? w _ hx138_1)).trans hx138_1
               replace p138 := eq_true p138
               replace q138 := eq_true q138
               go_wp2_with (first | ((with_reducible refine gate_dst (N := 10) rfl ?_); refine box_event ?hg (N := 10) ?hd (cs := #[.int .i64 0, .int .i64 0]) (t := 35) ?hr ?_; (case hd => rfl); (case hg => rfl); (case hr => first | (go_simp; done) | (go_simp; rfl)); intro gb139 hg w19 hbox hb; have n0_ := Aside0.mk (blk_below (g := gb137) (o := .cells #[.int .i64 ((rd_T33 l0 x24_1).f0), .int .i64 ((rd_T33 l0 x24_1).f1.f0), .int .i64 ((rd_T33 l0 x24_1).f1.f1), .slice (some ad138) ((rd_T33 l0 x24_1).f2).length c136_3] 33 (0, 0)) (by (with_reducible repeat (first | refine blk_drewN ?_ _ | refine blk_drew ?_ | refine blk_alloc ?_ _)); exact BK137.out) hb); have n1_ := Aside0.mk (below_step (by repeat (first | (with_reducible first | exact HB.out | apply below_alloc | apply pw_below_drewN | apply below_drew1 | refine below_set ?_ GE137.out) | exact HB.out)) hb); have n2_ := Aside0.mk (hbox); have n3_ := Aside0.mk ((by rw [hg]; exact (below_size (by repeat (first | (with_reducible first | exact HB.out | apply below_alloc | apply pw_below_drewN | apply below_drew1 | refine below_set ?_ GE137.out) | exact HB.out))) : w.heap.size ≤ gb139)); have n4_ := Aside0.mk ((by rw [hg]; exact (below_size (by repeat (first | (with_reducible first | exact HB.out | apply below_alloc | apply pw_below_drewN | apply below_drew1 | refine below_set ?_ GE137.out) | exact HB.out))) : w.heap.size ≤ gb139)); have n5_ := Aside0.mk ((by rw [hg]; exact Nat.ne_of_lt (blk_lt (g := gb137) (o := .cells #[.int .i64 ((rd_T33 l0 x24_1).f0), .int .i64 ((rd_T33 l0 x24_1).f1.f0), .int .i64 ((rd_T33 l0 x24_1).f1.f1), .slice (some ad138) ((rd_T33 l0 x24_1).f2).length c136_3] 33 (0, 0)) (by (with_reducible repeat (first | refine blk_drewN ?_ _ | refine blk_drew ?_ | refine blk_alloc ?_ _)); exact BK137.out)) : gb137 ≠ gb139)); have n6_ := Aside0.mk ((by rw [hg]; exact Nat.ne_of_gt (blk_lt (g := gb137) (o := .cells #[.int .i64 ((rd_T33 l0 x24_1).f0), .int .i64 ((rd_T33 l0 x24_1).f1.f0), .int .i64 ((rd_T33 l0 x24_1).f1.f1), .slice (some ad138) ((rd_T33 l0 x24_1).f2).length c136_3] 33 (0, 0)) (by (with_reducible repeat (first | refine blk_drewN ?_ _ | refine blk_drew ?_ | refine blk_alloc ?_ _)); exact BK137.out)) : gb139 ≠ gb137)); clear BK137; clear HB; have BK137 := n0_; have HB := n1_; have BK139 := n2_; have GW139 := n3_; have GE139 := n4_; have NB137_139 := n5_; have NB139_137 := n6_; clear n0_ n1_ n2_ n3_ n4_ n5_ n6_; clear hb hbox hg; have hnb20 := NB139_137.out; have hnc20 := NB137_139.out; have hcz21_0 : w19.cell? ⟨gb139, 0, none⟩ = some (.int .i64 0) := (blk_cell BK139.out 0).trans rfl; have hcz21_1 : w19.cell? ⟨gb139, 1, none⟩ = some (.int .i64 0) := (blk_cell BK139.out 1).trans rfl; have hfz21_0 := blk_frozen BK139.out 0; have hfz21_1 := blk_frozen BK139.out 1))
               go_roundg k2
               case measure => have := HK1.out; have := HK2.out; omega
               case rel => exact ⟨(wrap64 (x6_2 + ((rd_T35 ((rd_T33 l0 x24_1).f2) x31_2).f1))), (wrap64 (x31_2 + 1)), (by first | rfl | (simp; done) | (simp [*]; done)), (by first | rfl | (simp; done) | (simp [*]; done)), H', ⟨by have := HK1.out; have := HK2.out; omega⟩, ⟨by (with_reducible repeat (first | refine blk_drewN ?_ _ | refine blk_drew ?_ | refine blk_alloc ?_ _)); refine blk_far ?_ NB137_139.out _; (with_reducible repeat (first | refine blk_drewN ?_ _ | refine blk_drew ?_ | refine blk_alloc ?_ _)); refine blk_far ?_ NB137_139.out _; (with_reducible repeat (first | refine blk_drewN ?_ _ | refine blk_drew ?_ | refine blk_alloc ?_ _)); exact BK137.out⟩, ⟨by repeat (first | (with_reducible first | exact HB.out | apply below_alloc | apply pw_below_drewN | apply below_drew1 | refine below_set ?_ GE137.out | refine below_set ?_ GE139.out) | exact HB.out)⟩⟩
              ·
               rw [if_neg c18] at H
               have c18b0 : (((rd_T35 ((rd_T33 l0 x24_1).f2) x31_2).f0) == a1) = false := beq_eq_false_iff_ne.mpr c18
               have c18b1 : (((rd_T35 ((rd_T33 l0 x24_1).f2) x31_2).f0) != a1) = true := bne_iff_ne.mpr c18
               have H' := Aside0.mk H
               clear H
               have p138 : 0 ≤ (x31_2 : Int) := of_decide_eq_true (by first | (with_reducible assumption) | assumption)
               have q138 : x31_2 < (((rd_T33 l0 x24_1).f2).length : Int) := of_decide_eq_true (by first | (with_reducible assumption) | assumption)
               obtain ⟨ad138, e138, hx138_0, hx138_1⟩ := at_T35 HR136_3.out x31_2 p138 q138
               cases e138
               replace hx138_0 := (HB.out.cell (World.block_lt_of_cell? w _ hx138_0)).trans hx138_0
               replace hx138_1 := (HB.out.cell (World.block_lt_of_cell? w _ hx138_1)).trans hx138_1
               replace p138 := eq_true p138
               replace q138 := eq_true q138
               go_wp2_with (first | ((with_reducible refine gate_dst (N := 10) rfl ?_); refine box_event ?hg (N := 10) ?hd (cs := #[.int .i64 0, .int .i64 0]) (t := 35) ?hr ?_; (case hd => rfl); (case hg => rfl); (case hr => first | (go_simp; done) | (go_simp; rfl)); intro gb139 hg w22 hbox hb; have n0_ := Aside0.mk (blk_below (g := gb137) (o := .cells #[.int .i64 ((rd_T33 l0 x24_1).f0), .int .i64 ((rd_T33 l0 x24_1).f1.f0), .int .i64 ((rd_T33 l0 x24_1).f1.f1), .slice (some ad138) ((rd_T33 l0 x24_1).f2).length c136_3] 33 (0, 0)) (by (with_reducible repeat (first | refine blk_drewN ?_ _ | refine blk_drew ?_ | refine blk_alloc ?_ _)); exact BK137.out) hb); have n1_ := Aside0.mk (below_step (by repeat (first | (with_reducible first | exact HB.out | apply below_alloc | apply pw_below_drewN | apply below_drew1 | refine below_set ?_ GE137.out) | exact HB.out)) hb); have n2_ := Aside0.mk (hbox); have n3_ := Aside0.mk ((by rw [hg]; exact (below_size (by repeat (first | (with_reducible first | exact HB.out | apply below_alloc | apply pw_below_drewN | apply below_drew1 | refine below_set ?_ GE137.out) | exact HB.out))) : w.heap.size ≤ gb139)); have n4_ := Aside0.mk ((by rw [hg]; exact (below_size (by repeat (first | (with_reducible first | exact HB.out | apply below_alloc | apply pw_below_drewN | apply below_drew1 | refine below_set ?_ GE137.out) | exact HB.out))) : w.heap.size ≤ gb139)); have n5_ := Aside0.mk ((by rw [hg]; exact Nat.ne_of_lt (blk_lt (g := gb137) (o := .cells #[.int .i64 ((rd_T33 l0 x24_1).f0), .int .i64 ((rd_T33 l0 x24_1).f1.f0), .int .i64 ((rd_T33 l0 x24_1).f1.f1), .slice (some ad138) ((rd_T33 l0 x24_1).f2).length c136_3] 33 (0, 0)) (by (with_reducible repeat (first | refine blk_drewN ?_ _ | refine blk_drew ?_ | refine blk_alloc ?_ _)); exact BK137.out)) : gb137 ≠ gb139)); have n6_ := Aside0.mk ((by rw [hg]; exact Nat.ne_of_gt (blk_lt (g := gb137) (o := .cells #[.int .i64 ((rd_T33 l0 x24_1).f0), .int .i64 ((rd_T33 l0 x24_1).f1.f0), .int .i64 ((rd_T33 l0 x24_1).f1.f1), .slice (some ad138) ((rd_T33 l0 x24_1).f2).length c136_3] 33 (0, 0)) (by (with_reducible repeat (first | refine blk_drewN ?_ _ | refine blk_drew ?_ | refine blk_alloc ?_ _)); exact BK137.out)) : gb139 ≠ gb137)); clear BK137; clear HB; have BK137 := n0_; have HB := n1_; have BK139 := n2_; have GW139 := n3_; have GE139 := n4_; have NB137_139 := n5_; have NB139_137 := n6_; clear n0_ n1_ n2_ n3_ n4_ n5_ n6_; clear hb hbox hg; have hnb23 := NB139_137.out; have hnc23 := NB137_139.out; have hcz24_0 : w22.cell? ⟨gb139, 0, none⟩ = some (.int .i64 0) := (blk_cell BK139.out 0).trans rfl; have hcz24_1 : w22.cell? ⟨gb139, 1, none⟩ = some (.int .i64 0) := (blk_cell BK139.out 1).trans rfl; have hfz24_0 := blk_frozen BK139.out 0; have hfz24_1 := blk_frozen BK139.out 1))
               go_roundg k2
               case measure => have := HK1.out; have := HK2.out; omega
               case rel => exact ⟨(x6_2), (wrap64 (x31_2 + 1)), (by first | rfl | (simp; done) | (simp [*]; done)), (by first | rfl | (simp; done) | (simp [*]; done)), H', ⟨by have := HK1.out; have := HK2.out; omega⟩, ⟨by (with_reducible repeat (first | refine blk_drewN ?_ _ | refine blk_drew ?_ | refine blk_alloc ?_ _)); refine blk_far ?_ NB137_139.out _; (with_reducible repeat (first | refine blk_drewN ?_ _ | refine blk_drew ?_ | refine blk_alloc ?_ _)); refine blk_far ?_ NB137_139.out _; (with_reducible repeat (first | refine blk_drewN ?_ _ | refine blk_drew ?_ | refine blk_alloc ?_ _)); exact BK137.out⟩, ⟨by repeat (first | (with_reducible first | exact HB.out | apply below_alloc | apply pw_below_drewN | apply below_drew1 | refine below_set ?_ GE137.out | refine below_set ?_ GE139.out) | exact HB.out)⟩⟩
             ·
              rw [if_neg c17] at H
              exact absurd H (by simp)
            ·
             rw [if_neg c16] at H
             exact absurd H (by simp)
           ·
            rw [if_neg c15] at H
            have c15b0 : decide (x31_2 < (((rd_T33 l0 x24_1).f2).length : Int)) = false := decide_eq_false c15
            clear c15
            have H' := Aside0.mk H
            clear H
            go_wp2
            go_roundg k2
            case measure => have := HK1.out; have := HK2.out; omega
            case rel => exact ⟨(x6_2), (wrap64 (x24_1 + 1)), (by first | rfl | (simp; done) | (simp [*]; done)), (by first | rfl | (simp; done) | (simp [*]; done)), H', ⟨by have := HK1.out; have := HK2.out; omega⟩, ⟨by repeat (first | (with_reducible first | exact HB.out | apply below_alloc | apply pw_below_drewN | apply below_drew1 | refine below_set ?_ GE137.out) | exact HB.out)⟩⟩
        ·
         rw [if_neg c12] at H
         exact absurd H (by simp)
       ·
        rw [if_neg c11] at H
        exact absurd H (by simp)
      ·
       rw [if_neg c10] at H
       have c10b0 : decide (x24_1 < (l0.length : Int)) = false := decide_eq_false c10
       clear c10
       simp only [Option.some.injEq, Prod.mk.injEq] at H
       obtain ⟨rfl, rfl⟩ := H
       go_wp2
       go_ret2
       exact ⟨by first | rfl | (simp [errW_none, errW_some] <;> rfl) | (simp [*, errW_none, errW_some] <;> rfl), by repeat (first | (with_reducible first | exact HB.out | apply below_alloc | apply pw_below_drewN | apply below_drew1) | exact HB.out)⟩
 ·
  replace c4 := Bool.eq_false_iff.mpr c4
  subst c4
  have H1 : (some (0, 1)) = some (r1, r2) := by rw [if_neg (show ¬ (false = true) by decide)] at H; exact H
  clear H
  have H := H1
  clear H1
  simp only [Option.some.injEq, Prod.mk.injEq] at H
  obtain ⟨rfl, rfl⟩ := H
  go_enter Tryd.func13, Tryd.ntmps13
  go_wp2_with (first | ((with_reducible refine gate_callee (f := 34) rfl ?_); refine goesL_ (some 13) rfl rfl Tryd.func34 (by kernel_rfl) rfl #[.slice A0 l0.length c0] rfl (by (try simp only [List.map_toArray, List.map_cons, List.map_nil]); first | done | rfl | (simp only [List.length_drop, List.length_take]; rfl)) ?_; (with_reducible refine (lot_right.calls k _ _ l0 false _ ?side1 ?side2 A3.out).mono ?_); (case side1 => repeat (first | exact HR0.out | (with_reducible refine Kd.C_alloc ?_ _) | (with_reducible refine Kd.C_drewN ?_ _) | (with_reducible refine Kd.C_drew ?_))); (case side2 => exact HC0.out); rintro e w25 ⟨rfl, hb⟩; refine ⟨_, rfl, ?_⟩; have n0_ := Aside0.mk (below_step (by repeat (first | (with_reducible first | exact HB.out | apply below_alloc | apply pw_below_drewN | apply below_drew1) | exact HB.out)) hb); clear HB; have HB := n0_; clear n0_; (try clear hb); (try clear hb2); (try clear hk); (try clear hi)))
  go_ret2
  exact ⟨by first | rfl | (simp [errW_none, errW_some] <;> rfl) | (simp [*, errW_none, errW_some] <;> rfl), by repeat (first | (with_reducible first | exact HB.out | apply below_alloc | apply pw_below_drewN | apply below_drew1) | exact HB.out)⟩
def lot_Print.app (acc : List UInt8) (s : ByteArray) : Option (List UInt8) := if acc.length + s.size ≤ 140737488355328 then some (acc ++ s.data.toList) else none
def lot_Print.head (x : S33) : Option ByteArray := (strconv_Itoa.f x.f0).bind fun a => (strconv_Itoa.f x.f1.f1).bind fun b => if a.size ≤ 100 ∧ b.size ≤ 100 then some (((⟨#[108, 111, 116, 32]⟩ ++ a) ++ ⟨#[32, 109, 97, 115, 115, 32]⟩) ++ b) else none
def lot_Print.part (x : S35) : Option ByteArray := (strconv_Itoa.f x.f0).bind fun a => (strconv_Itoa.f x.f1).bind fun b => if a.size ≤ 100 ∧ b.size ≤ 100 then some (((⟨#[32, 102, 105, 108, 108, 32]⟩ ++ a) ++ ⟨#[32, 97, 108, 99, 111, 104, 111, 108, 32]⟩) ++ b) else none
mutual
def lot_Print.l1 : Nat → List S33 → List UInt8 → Int → Int → Option (ByteArray × Int)
 | 0, _, _, _, _ => none
 | k + 1, l, acc, i, j => if j < ((rd_T33 l i).f2.length : Int) then (if 0 ≤ j then ((lot_Print.part (rd_T35 (rd_T33 l i).f2 j)).bind fun s => (lot_Print.app acc s).bind fun acc2 => lot_Print.l1 k l acc2 i (wrap64 (j + 1))) else none) else ((lot_Print.app acc ⟨#[10]⟩).bind fun acc2 => lot_Print.l0 k l acc2 (wrap64 (i + 1)))
def lot_Print.l0 : Nat → List S33 → List UInt8 → Int → Option (ByteArray × Int)
 | 0, _, _, _ => none
 | k + 1, l, acc, i => if i < (l.length : Int) then (if 0 ≤ i then ((lot_Print.head (rd_T33 l i)).bind fun s => (lot_Print.app acc s).bind fun acc2 => lot_Print.l1 k l acc2 i 0) else none) else some (⟨acc.toArray⟩, 0)
end
def lot_Print.f (k : Nat) (l0 : List (S33)) : Option (ByteArray × Int) := (lot_right.f k l0).bind fun t => if t = true then lot_Print.l0 k l0 [] 0 else some (⟨#[]⟩, 1)
set_option maxHeartbeats 8000000 in
set_option maxRecDepth 100000 in
theorem lot_Print.calls (k : Nat) (A0 : Option Addr) (c0 : Nat) (l0 : List (S33)) (r1 : ByteArray) (r2 : Int) (w : World) (hr0 : Kd.C k33 w A0 l0.length l0) (hc0 : l0.length ≤ c0) (hG : GI w) (h : lot_Print.f k l0 = some (r1, r2)) :
  Calls Tryd.prog 30 #[.slice A0 l0.length c0] w fun e w' => e = .returned (.tuple #[.string r1, .int .i64 r2]) ∧ Below w.heap.size w w' := by
 have HR0 := Aside0.mk hr0
 have HC0 := Aside0.mk hc0
 clear hr0 hc0
 have HG := Aside0.mk hG
 clear hG
 replace h := Option.bind_eq_some_iff.mp h
 obtain ⟨t, ht, h⟩ := h
 have H1 := Aside0.mk ht
 have H2 := Aside0.mk h
 clear ht h
 go_enter Tryd.func30, Tryd.ntmps30
 go_wp2_with (go_at_call 34; refine (lot_right.calls k A0 c0 l0 t w HR0.out HC0.out H1.out).mono ?_)
 rintro e w1 ⟨rfl, hb1⟩
 have HB := Aside0.mk hb1
 clear hb1
 cases t with
 | false =>
  have H := H2.out
  rw [if_neg (by decide)] at H
  cases H
  go_wp2
  go_ret2
  exact ⟨rfl, HB.out⟩
 | true =>
  have H := H2.out
  rw [if_pos rfl] at H
  have H' := Aside0.mk H
  clear H H2
  have HBu := Aside0.mk (Lib.IsBuilderF.of (Lib.fresh_isBuilder 69 5 w1))
  have HB0 := HB
  have HB1 := HB0
  replace HB := Aside0.mk (below_alloc HB.out (.cells #[.pointer none, .slice none 0 0] 69))
  clear HB0
  go_wp2
  go_loopg [14] k (fun kq v14 w' => ∃ (x : Int) (acc : List UInt8), v14 = .int .i64 x ∧ Aside0 (lot_Print.l0 kq l0 acc x = some (r1, r2)) ∧ Aside0 (kq ≤ k) ∧ Aside0 (Lib.IsBuilderF 69 5 w1.heap.size w1.heap.size (Lib.byteCells acc) w') ∧ Aside0 (Below w.heap.size w w'))
  case atStart => exact ⟨0, [], rfl, H', ⟨Nat.le_refl _⟩, HBu, HB⟩
  case round =>
   clear H' HBu HB
   have HW1 : Aside0 (w.heap.size ≤ w1.heap.size) := ⟨HB1.out.size⟩
   obtain ⟨x, acc, rfl, HA, HK1, HBu, HB⟩ := hrel
   cases gk with
   | zero => exact absurd HA.out (by simp [lot_Print.l0])
   | succ k1 =>
    have H := HA.out
    clear HA
    simp only [lot_Print.l0] at H
    by_cases c2 : x < (l0.length : Int)
    ·
     rw [if_pos c2] at H
     have c2b : decide (x < (l0.length : Int)) = true := decide_eq_true c2
     by_cases c3 : 0 ≤ x
     ·
      rw [if_pos c3] at H
      have c3b : decide (0 ≤ x) = true := decide_eq_true c3
      obtain ⟨s, hs, H⟩ := Option.bind_eq_some_iff.mp H
      obtain ⟨acc2, ha, H⟩ := Option.bind_eq_some_iff.mp H
      obtain ⟨ta, hta, hs⟩ := Option.bind_eq_some_iff.mp hs
      obtain ⟨tb, htb, hs⟩ := Option.bind_eq_some_iff.mp hs
      by_cases hsz : ta.size ≤ 100 ∧ tb.size ≤ 100
      case neg => rw [if_neg hsz] at hs; cases hs
      rw [if_pos hsz] at hs
      obtain rfl := Option.some.inj hs
      unfold lot_Print.app at ha
      by_cases hln : acc.length + (((⟨#[108, 111, 116, 32]⟩ ++ ta) ++ ⟨#[32, 109, 97, 115, 115, 32]⟩) ++ tb : ByteArray).size ≤ 140737488355328
      case neg => rw [if_neg hln] at ha; cases ha
      rw [if_pos hln] at ha
      obtain rfl := Option.some.inj ha
      have HLEN := Aside0.mk hln
      have HSZ := Aside0.mk hsz
      clear hln hsz
      have H' := Aside0.mk H
      have HTA := Aside0.mk hta
      have HTB := Aside0.mk htb
      clear H hta htb hs ha
      obtain ⟨ad1, A1, c1, e1, hx0, hx1, hx2, hx3, hl1, hi1⟩ := at_T33 HR0.out x c3 c2
      cases e1
      replace hx0 := (HB.out.cell (World.block_lt_of_cell? w _ hx0)).trans hx0
      replace hx1 := (HB.out.cell (World.block_lt_of_cell? w _ hx1)).trans hx1
      replace hx2 := (HB.out.cell (World.block_lt_of_cell? w _ hx2)).trans hx2
      replace hx3 := (HB.out.cell (World.block_lt_of_cell? w _ hx3)).trans hx3
      have HR1 := Aside0.mk hi1
      have HC1 := Aside0.mk hl1
      clear hi1 hl1
      replace c3 := eq_true c3
      replace c2 := eq_true c2
      go_wp2_with (first | ((with_reducible refine gate_dst (N := 6) rfl ?_); refine box_event ?hg (N := 6) ?hd (cs := #[.int .i64 0, .int .i64 0, .int .i64 0, .slice none 0 0]) (t := 33) ?hr ?_; (case hd => rfl); (case hg => rfl); (case hr => first | (go_simp; done) | (go_simp; rfl)); intro gx hgx w13 hbox hb; have BK := Aside0.mk hbox; have GX := Aside0.mk hgx; have HBu13 := Aside0.mk (bld_below HBu.out hb); have Hb13 := Aside0.mk hb; clear hbox hb hgx; have hcz0 : w13.cell? ⟨gx, 0, none⟩ = some (.int .i64 0) := (blk_cell BK.out 0).trans rfl; have hcz1 : w13.cell? ⟨gx, 1, none⟩ = some (.int .i64 0) := (blk_cell BK.out 1).trans rfl; have hcz2 : w13.cell? ⟨gx, 2, none⟩ = some (.int .i64 0) := (blk_cell BK.out 2).trans rfl; have hcz3 : w13.cell? ⟨gx, 3, none⟩ = some (.slice none 0 0) := (blk_cell BK.out 3).trans rfl; have hfz0 := blk_frozen BK.out 0; have hfz1 := blk_frozen BK.out 1; have hfz2 := blk_frozen BK.out 2; have hfz3 := blk_frozen BK.out 3))
      have HbW : Aside0 (Below wr.heap.size wr ((((w13.setCell ⟨gx, 0, none⟩ (.int .i64 (rd_T33 l0 x).f0)).setCell ⟨gx, 1, none⟩ (.int .i64 (rd_T33 l0 x).f1.f0)).setCell ⟨gx, 2, none⟩ (.int .i64 (rd_T33 l0 x).f1.f1)).setCell ⟨gx, 3, none⟩ (.slice A1 (rd_T33 l0 x).f2.length c1))) :=
       ⟨(((Hb13.out.setCell (p := ⟨gx, 0, none⟩) (Nat.le_of_eq GX.out.symm) _).setCell (p := ⟨gx, 1, none⟩) (Nat.le_of_eq GX.out.symm) _).setCell (p := ⟨gx, 2, none⟩) (Nat.le_of_eq GX.out.symm) _).setCell (p := ⟨gx, 3, none⟩) (Nat.le_of_eq GX.out.symm) _⟩
      have HX : Aside0 (((((w13.setCell ⟨gx, 0, none⟩ (.int .i64 (rd_T33 l0 x).f0)).setCell ⟨gx, 1, none⟩ (.int .i64 (rd_T33 l0 x).f1.f0)).setCell ⟨gx, 2, none⟩ (.int .i64 (rd_T33 l0 x).f1.f1)).setCell ⟨gx, 3, none⟩ (.slice A1 (rd_T33 l0 x).f2.length c1)).heap[gx]? = some (.cells #[.int .i64 (rd_T33 l0 x).f0, .int .i64 (rd_T33 l0 x).f1.f0, .int .i64 (rd_T33 l0 x).f1.f1, .slice A1 (rd_T33 l0 x).f2.length c1] 33 (0, 0))) :=
       ⟨blk_put (cs := #[.int .i64 (rd_T33 l0 x).f0, .int .i64 (rd_T33 l0 x).f1.f0, .int .i64 (rd_T33 l0 x).f1.f1, .slice none 0 0]) (blk_put (cs := #[.int .i64 (rd_T33 l0 x).f0, .int .i64 (rd_T33 l0 x).f1.f0, .int .i64 0, .slice none 0 0]) (blk_put (cs := #[.int .i64 (rd_T33 l0 x).f0, .int .i64 0, .int .i64 0, .slice none 0 0]) (blk_put (cs := #[.int .i64 0, .int .i64 0, .int .i64 0, .slice none 0 0]) BK.out 0 _ rfl) 1 _ rfl) 2 _ rfl) 3 _ rfl⟩
      generalize ((((w13.setCell ⟨gx, 0, none⟩ (.int .i64 (rd_T33 l0 x).f0)).setCell ⟨gx, 1, none⟩ (.int .i64 (rd_T33 l0 x).f1.f0)).setCell ⟨gx, 2, none⟩ (.int .i64 (rd_T33 l0 x).f1.f1)).setCell ⟨gx, 3, none⟩ (.slice A1 (rd_T33 l0 x).f2.length c1)) = W at HbW HX ⊢
      have HBuW := Aside0.mk (bld_below HBu.out HbW.out)
      have HBW := Aside0.mk (below_step HB.out HbW.out)
      have GXB : Aside0 (gx ≠ w1.heap.size) := ⟨by rw [GX.out]; exact bld_ne HBu.out⟩
      clear hcz0 hcz1 hcz2 hcz3 hfz0 hfz1 hfz2 hfz3 hx0 hx1 hx2 hx3 BK HBu13 Hb13 HB HBu HbW
      have ha1 : ∀ w, (Op.stringOp .add ⟨#[108, 111, 116, 32]⟩ ta).run Tryd.prog w = .ok (.string (⟨#[108, 111, 116, 32]⟩ ++ ta)) w := fun w => run_string_add_sum _ _ _ (by have := HSZ.out.1; rw [show (⟨#[108, 111, 116, 32]⟩ : ByteArray).size = 4 from rfl]; omega)
      have ha2 : ∀ w, (Op.stringOp .add (⟨#[108, 111, 116, 32]⟩ ++ ta) ⟨#[32, 109, 97, 115, 115, 32]⟩).run Tryd.prog w = .ok (.string ((⟨#[108, 111, 116, 32]⟩ ++ ta) ++ ⟨#[32, 109, 97, 115, 115, 32]⟩)) w := fun w => run_string_add_sum _ _ _ (by have := HSZ.out.1; simp only [ByteArray.size_append]; rw [show (⟨#[108, 111, 116, 32]⟩ : ByteArray).size = 4 from rfl, show (⟨#[32, 109, 97, 115, 115, 32]⟩ : ByteArray).size = 6 from rfl]; omega)
      have ha3 : ∀ w, (Op.stringOp .add ((⟨#[108, 111, 116, 32]⟩ ++ ta) ++ ⟨#[32, 109, 97, 115, 115, 32]⟩) tb).run Tryd.prog w = .ok (.string (((⟨#[108, 111, 116, 32]⟩ ++ ta) ++ ⟨#[32, 109, 97, 115, 115, 32]⟩) ++ tb)) w := fun w => run_string_add_sum _ _ _ (by have := HSZ.out; simp only [ByteArray.size_append]; rw [show (⟨#[108, 111, 116, 32]⟩ : ByteArray).size = 4 from rfl, show (⟨#[32, 109, 97, 115, 115, 32]⟩ : ByteArray).size = 6 from rfl]; omega)
      refine start_ (n := 11) (S := fun w' => w'.cell? ⟨gx, 0, none⟩ = some (.int .i64 (rd_T33 l0 x).f0) ∧ w'.cell? ⟨gx, 2, none⟩ = some (.int .i64 (rd_T33 l0 x).f1.f1) ∧ Lib.IsBuilderF 69 5 w1.heap.size w1.heap.size (Lib.byteCells acc) w' ∧ Below w.heap.size w w' ∧ w'.heap[gx]? = some (.cells #[.int .i64 (rd_T33 l0 x).f0, .int .i64 (rd_T33 l0 x).f1.f0, .int .i64 (rd_T33 l0 x).f1.f1, .slice A1 (rd_T33 l0 x).f2.length c1] 33 (0, 0)) ∧ GI w') (ds := [10]) #[false, false, false, false, false, false, false, false, false, false, false] (by kernel_rfl) rfl rfl ⟨(blk_cell HX.out 0).trans rfl, (blk_cell HX.out 2).trans rfl, HBuW.out, (below_drew1 HBW.out), HX.out, (GI.below HG.out (below_drew1 HBW.out))⟩ (fun hHeld => ?_)
      generalize W.drew = Wd at hHeld ⊢
      refine pure_ (i := 0) (N := some 18) (v := ?_) (a' := ?_) #[true, false, false, false, false, false, false, false, false, false, false] rfl rfl (by kernel_rfl) (fun _ _ _ h => h) (Or.inl ⟨by rfl, ?_⟩) ?_ ?_
      rotate_left
      ·
       intro w'
       go_simp
       with_reducible rfl
      rotate_left
      ·
       simp only [Act.put, List.setIfInBounds_toArray, List.set_cons_zero, List.set_cons_succ, i64_w, i32_w]
       rfl
      refine pure_ (i := 5) (N := some 23) (v := ?_) (a' := ?_) #[true, false, false, false, false, true, false, false, false, false, false] rfl rfl (by kernel_rfl) (fun _ _ _ h => h) (Or.inl ⟨by rfl, ?_⟩) ?_ ?_
      rotate_left
      ·
       intro w'
       go_simp
       with_reducible rfl
      rotate_left
      ·
       simp only [Act.put, List.setIfInBounds_toArray, List.set_cons_zero, List.set_cons_succ, i64_w, i32_w]
       rfl
      refine pure_ (i := 6) (N := some 24) (v := ?_) (a' := ?_) #[true, false, false, false, false, true, true, false, false, false, false] rfl rfl (by kernel_rfl) (fun _ _ _ h => h) (Or.inl ⟨by rfl, ?_⟩) ?_ ?_
      rotate_left
      ·
       intro w'
       go_simp
       with_reducible rfl
      rotate_left
      ·
       simp only [Act.put, List.setIfInBounds_toArray, List.set_cons_zero, List.set_cons_succ, i64_w, i32_w]
       rfl
      refine take_ (i := 1) (N := some 19) (v := ?_) (a' := ?_) #[true, true, false, false, false, true, true, false, false, false, false] rfl rfl (by kernel_rfl) (fun _ _ _ h => h) (Or.inl ⟨by rfl, ?_⟩) hHeld ?_ ?_
      rotate_left
      ·
       rintro w' ⟨s0, s1, s2, s3, s4, s5⟩
       go_simp
       with_reducible rfl
      rotate_left
      ·
       simp only [Act.put, List.setIfInBounds_toArray, List.set_cons_zero, List.set_cons_succ, i64_w, i32_w]
       rfl
      refine take_ (i := 7) (N := some 25) (v := ?_) (a' := ?_) #[true, true, false, false, false, true, true, true, false, false, false] rfl rfl (by kernel_rfl) (fun _ _ _ h => h) (Or.inl ⟨by rfl, ?_⟩) hHeld ?_ ?_
      rotate_left
      ·
       rintro w' ⟨s0, s1, s2, s3, s4, s5⟩
       go_simp
       with_reducible rfl
      rotate_left
      ·
       simp only [Act.put, List.setIfInBounds_toArray, List.set_cons_zero, List.set_cons_succ, i64_w, i32_w]
       rfl
      refine one_ (i := 2) (N := some 20) #[true, true, true, false, false, true, true, true, false, false, false] rfl rfl (by kernel_rfl) (by decide) (fun K hK => ?_)
      refine goes_ Tryd.func50 (by kernel_rfl) rfl #[.int .i64 ((rd_T33 l0 x).f0)] (by rfl) rfl rfl (by simp only [List.map_toArray, List.map_cons, List.map_nil]; rfl) ?_
      with_reducible refine (strconv_Itoa.calls _ _ _ hHeld.2.2.2.2.2 HTA.out).mono ?_
      rintro e w3 ⟨rfl, hb3⟩
      refine ⟨_, rfl, ?_⟩
      refine hK.out _ _ ⟨((hb3.cell (World.block_lt_of_cell? _ _ (hHeld.1))).trans (hHeld.1)), ((hb3.cell (World.block_lt_of_cell? _ _ (hHeld.2.1))).trans (hHeld.2.1)), bld_below (hHeld.2.2.1) hb3, below_step (hHeld.2.2.2.1) hb3, (hb3.block _ (blk_lt (hHeld.2.2.2.2.1))).trans (hHeld.2.2.2.2.1), GI.below (hHeld.2.2.2.2.2) hb3⟩ (fun hHeld => ?_)
      clear hK K
      refine norm_ (a' := ?_) ?_ ?_
      rotate_left
      ·
       show Act.put _ (some 20) _ = _
       simp only [Act.put, List.setIfInBounds_toArray, List.set_cons_zero, List.set_cons_succ, i64_w, i32_w]
       rfl
      refine pure_ (i := 3) (N := some 21) (v := ?_) (a' := ?_) #[true, true, true, true, false, true, true, true, false, false, false] rfl rfl (by kernel_rfl) (fun _ _ _ h => h) (Or.inl ⟨by rfl, ?_⟩) ?_ ?_
      rotate_left
      ·
       intro w'
       go_simp
       with_reducible rfl
      rotate_left
      ·
       simp only [Act.put, List.setIfInBounds_toArray, List.set_cons_zero, List.set_cons_succ, i64_w, i32_w]
       rfl
      refine pure_ (i := 4) (N := some 22) (v := ?_) (a' := ?_) #[true, true, true, true, true, true, true, true, false, false, false] rfl rfl (by kernel_rfl) (fun _ _ _ h => h) (Or.inl ⟨by rfl, ?_⟩) ?_ ?_
      rotate_left
      ·
       intro w'
       go_simp
       with_reducible rfl
      rotate_left
      ·
       simp only [Act.put, List.setIfInBounds_toArray, List.set_cons_zero, List.set_cons_succ, i64_w, i32_w]
       rfl
      refine one_ (i := 8) (N := some 26) #[true, true, true, true, true, true, true, true, true, false, false] rfl rfl (by kernel_rfl) (by decide) (fun K hK => ?_)
      refine goes_ Tryd.func50 (by kernel_rfl) rfl #[.int .i64 ((rd_T33 l0 x).f1.f1)] (by rfl) rfl rfl (by simp only [List.map_toArray, List.map_cons, List.map_nil]; rfl) ?_
      with_reducible refine (strconv_Itoa.calls _ _ _ hHeld.2.2.2.2.2 HTB.out).mono ?_
      rintro e w3 ⟨rfl, hb3⟩
      refine ⟨_, rfl, ?_⟩
      refine hK.out _ _ ⟨((hb3.cell (World.block_lt_of_cell? _ _ (hHeld.1))).trans (hHeld.1)), ((hb3.cell (World.block_lt_of_cell? _ _ (hHeld.2.1))).trans (hHeld.2.1)), bld_below (hHeld.2.2.1) hb3, below_step (hHeld.2.2.2.1) hb3, (hb3.block _ (blk_lt (hHeld.2.2.2.2.1))).trans (hHeld.2.2.2.2.1), GI.below (hHeld.2.2.2.2.2) hb3⟩ (fun hHeld => ?_)
      clear hK K
      refine norm_ (a' := ?_) ?_ ?_
      rotate_left
      ·
       show Act.put _ (some 26) _ = _
       simp only [Act.put, List.setIfInBounds_toArray, List.set_cons_zero, List.set_cons_succ, i64_w, i32_w]
       rfl
      refine pure_ (i := 9) (N := some 27) (v := ?_) (a' := ?_) #[true, true, true, true, true, true, true, true, true, true, false] rfl rfl (by kernel_rfl) (fun _ _ _ h => h) (Or.inl ⟨by rfl, ?_⟩) ?_ ?_
      rotate_left
      ·
       intro w'
       go_simp
       with_reducible rfl
      rotate_left
      ·
       simp only [Act.put, List.setIfInBounds_toArray, List.set_cons_zero, List.set_cons_succ, i64_w, i32_w]
       rfl
      refine last_ (i := 10) (N := some 28) #[true, true, true, true, true, true, true, true, true, true, true] rfl rfl (by kernel_rfl) (by decide) (fun K hK => ?_)
      refine goes_ Tryd.func49 (by kernel_rfl) rfl #[.pointer (some ⟨w1.heap.size, 0, none⟩), .string (((⟨#[108, 111, 116, 32]⟩ ++ ta) ++ ⟨#[32, 109, 97, 115, 115, 32]⟩) ++ tb)] (by rfl) rfl rfl (by simp only [List.map_toArray, List.map_cons, List.map_nil]; rfl) ?_
      with_reducible refine (writeBytes _ _ _ _ _ (hHeld.2.2.1) HLEN.out).mono ?_
      rintro e w3 ⟨⟨n3, rfl⟩, hbu3, hb3, hk3⟩
      have HBu2 := Aside0.mk hbu3
      have HB2 := Aside0.mk (below_mine (hHeld.2.2.2.1) hb3 HW1.out)
      have HX2 := Aside0.mk (others_blk hk3 (hHeld.2.2.2.2.1) GXB.out (by decide))
      clear hbu3 hb3 hk3
      refine ⟨_, rfl, ?_⟩
      refine hK.out _ _ ?_
      clear hK K
      refine norm_ (a' := ?_) ?_ ?_
      rotate_left
      ·
       show Act.put _ (some 28) _ = _
       simp only [Act.put, List.setIfInBounds_toArray, List.set_cons_zero, List.set_cons_succ, i64_w, i32_w]
       rfl
      refine done_ (by kernel_rfl) ?_
      clear ha1 ha2 ha3
      have hx3 : w3.cell? ⟨gx, 3, none⟩ = some (.slice A1 (rd_T33 l0 x).f2.length c1) := (blk_cell HX2.out 3).trans rfl
      go_wp2
      go_loopg [32] k1 (fun kq v32 w' => ∃ (y : Int) (acc : List UInt8), v32 = .int .i64 y ∧ Aside0 (lot_Print.l1 kq l0 acc x y = some (r1, r2)) ∧ Aside0 (kq ≤ k1) ∧ Aside0 (Lib.IsBuilderF 69 5 w1.heap.size w1.heap.size (Lib.byteCells acc) w') ∧ Aside0 (Below w.heap.size w w'))
      case atStart => exact ⟨0, _, rfl, H', ⟨Nat.le_refl _⟩, HBu2, HB2⟩
      case round =>
       clear H' HBu2 HB2 hx3 HX2 HX HBuW HBW HTA HTB HSZ HLEN
       obtain ⟨y, acc, rfl, HA, HK2, HBu, HB⟩ := hrel
       cases gk with
       | zero => exact absurd HA.out (by simp [lot_Print.l1])
       | succ k2 =>
        have H := HA.out
        clear HA
        simp only [lot_Print.l1] at H
        by_cases c4 : y < ((rd_T33 l0 x).f2.length : Int)
        ·
         rw [if_pos c4] at H
         have c4b : decide (y < ((rd_T33 l0 x).f2.length : Int)) = true := decide_eq_true c4
         by_cases c5 : 0 ≤ y
         ·
          rw [if_pos c5] at H
          have c5b : decide (0 ≤ y) = true := decide_eq_true c5
          obtain ⟨s, hs, H⟩ := Option.bind_eq_some_iff.mp H
          obtain ⟨acc2, ha, H⟩ := Option.bind_eq_some_iff.mp H
          obtain ⟨ta, hta, hs⟩ := Option.bind_eq_some_iff.mp hs
          obtain ⟨tb, htb, hs⟩ := Option.bind_eq_some_iff.mp hs
          by_cases hsz : ta.size ≤ 100 ∧ tb.size ≤ 100
          case neg => rw [if_neg hsz] at hs; cases hs
          rw [if_pos hsz] at hs
          obtain rfl := Option.some.inj hs
          unfold lot_Print.app at ha
          by_cases hln : acc.length + (((⟨#[32, 102, 105, 108, 108, 32]⟩ ++ ta) ++ ⟨#[32, 97, 108, 99, 111, 104, 111, 108, 32]⟩) ++ tb : ByteArray).size ≤ 140737488355328
          case neg => rw [if_neg hln] at ha; cases ha
          rw [if_pos hln] at ha
          obtain rfl := Option.some.inj ha
          have HLEN := Aside0.mk hln
          have HSZ := Aside0.mk hsz
          have H' := Aside0.mk H
          have HTA := Aside0.mk hta
          have HTB := Aside0.mk htb
          clear H hta htb hs ha hln hsz
          obtain ⟨ad2, e2, hy0, hy1⟩ := at_T35 HR1.out y c5 c4
          cases e2
          replace hy0 := (HB.out.cell (World.block_lt_of_cell? w _ hy0)).trans hy0
          replace hy1 := (HB.out.cell (World.block_lt_of_cell? w _ hy1)).trans hy1
          replace c4 := eq_true c4
          replace c5 := eq_true c5
          rename World => wr2
          go_wp2_with (first | ((with_reducible refine gate_dst (N := 8) rfl ?_); refine box_event ?hg (N := 8) ?hd (cs := #[.int .i64 0, .int .i64 0]) (t := 35) ?hr ?_; (case hd => rfl); (case hg => rfl); (case hr => first | (go_simp; done) | (go_simp; rfl)); intro gs hgs w14 hbox hb; have BK := Aside0.mk hbox; have GS := Aside0.mk hgs; have Hb14 := Aside0.mk hb; clear hbox hb hgs; have hcz0 : w14.cell? ⟨gs, 0, none⟩ = some (.int .i64 0) := (blk_cell BK.out 0).trans rfl; have hcz1 : w14.cell? ⟨gs, 1, none⟩ = some (.int .i64 0) := (blk_cell BK.out 1).trans rfl; have hfz0 := blk_frozen BK.out 0; have hfz1 := blk_frozen BK.out 1))
          have HbW : Aside0 (Below wr2.heap.size wr2 ((w14.setCell ⟨gs, 0, none⟩ (.int .i64 (rd_T35 (rd_T33 l0 x).f2 y).f0)).setCell ⟨gs, 1, none⟩ (.int .i64 (rd_T35 (rd_T33 l0 x).f2 y).f1))) :=
           ⟨(Hb14.out.setCell (p := ⟨gs, 0, none⟩) (Nat.le_of_eq GS.out.symm) _).setCell (p := ⟨gs, 1, none⟩) (Nat.le_of_eq GS.out.symm) _⟩
          have HX : Aside0 (((w14.setCell ⟨gs, 0, none⟩ (.int .i64 (rd_T35 (rd_T33 l0 x).f2 y).f0)).setCell ⟨gs, 1, none⟩ (.int .i64 (rd_T35 (rd_T33 l0 x).f2 y).f1)).heap[gs]? = some (.cells #[.int .i64 (rd_T35 (rd_T33 l0 x).f2 y).f0, .int .i64 (rd_T35 (rd_T33 l0 x).f2 y).f1] 35 (0, 0))) :=
           ⟨blk_put (cs := #[.int .i64 (rd_T35 (rd_T33 l0 x).f2 y).f0, .int .i64 0]) (blk_put (cs := #[.int .i64 0, .int .i64 0]) BK.out 0 _ rfl) 1 _ rfl⟩
          generalize ((w14.setCell ⟨gs, 0, none⟩ (.int .i64 (rd_T35 (rd_T33 l0 x).f2 y).f0)).setCell ⟨gs, 1, none⟩ (.int .i64 (rd_T35 (rd_T33 l0 x).f2 y).f1)) = W at HbW HX ⊢
          have HBuW := Aside0.mk (bld_below HBu.out HbW.out)
          have HBW := Aside0.mk (below_step HB.out HbW.out)
          clear hcz0 hcz1 hfz0 hfz1 hy0 hy1 BK Hb14 HB HBu HbW
          have ha1 : ∀ w, (Op.stringOp .add ⟨#[32, 102, 105, 108, 108, 32]⟩ ta).run Tryd.prog w = .ok (.string (⟨#[32, 102, 105, 108, 108, 32]⟩ ++ ta)) w := fun w => run_string_add_sum _ _ _ (by have := HSZ.out.1; rw [show (⟨#[32, 102, 105, 108, 108, 32]⟩ : ByteArray).size = 6 from rfl]; omega)
          have ha2 : ∀ w, (Op.stringOp .add (⟨#[32, 102, 105, 108, 108, 32]⟩ ++ ta) ⟨#[32, 97, 108, 99, 111, 104, 111, 108, 32]⟩).run Tryd.prog w = .ok (.string ((⟨#[32, 102, 105, 108, 108, 32]⟩ ++ ta) ++ ⟨#[32, 97, 108, 99, 111, 104, 111, 108, 32]⟩)) w := fun w => run_string_add_sum _ _ _ (by have := HSZ.out.1; simp only [ByteArray.size_append]; rw [show (⟨#[32, 102, 105, 108, 108, 32]⟩ : ByteArray).size = 6 from rfl, show (⟨#[32, 97, 108, 99, 111, 104, 111, 108, 32]⟩ : ByteArray).size = 9 from rfl]; omega)
          have ha3 : ∀ w, (Op.stringOp .add ((⟨#[32, 102, 105, 108, 108, 32]⟩ ++ ta) ++ ⟨#[32, 97, 108, 99, 111, 104, 111, 108, 32]⟩) tb).run Tryd.prog w = .ok (.string (((⟨#[32, 102, 105, 108, 108, 32]⟩ ++ ta) ++ ⟨#[32, 97, 108, 99, 111, 104, 111, 108, 32]⟩) ++ tb)) w := fun w => run_string_add_sum _ _ _ (by have := HSZ.out; simp only [ByteArray.size_append]; rw [show (⟨#[32, 102, 105, 108, 108, 32]⟩ : ByteArray).size = 6 from rfl, show (⟨#[32, 97, 108, 99, 111, 104, 111, 108, 32]⟩ : ByteArray).size = 9 from rfl]; omega)
          refine start_ (n := 10) (S := fun w' => w'.cell? ⟨gs, 0, none⟩ = some (.int .i64 (rd_T35 (rd_T33 l0 x).f2 y).f0) ∧ w'.cell? ⟨gs, 1, none⟩ = some (.int .i64 (rd_T35 (rd_T33 l0 x).f2 y).f1) ∧ Lib.IsBuilderF 69 5 w1.heap.size w1.heap.size (Lib.byteCells acc) w' ∧ Below w.heap.size w w' ∧ GI w') (ds := [9]) #[false, false, false, false, false, false, false, false, false, false] (by kernel_rfl) rfl rfl ⟨(blk_cell HX.out 0).trans rfl, (blk_cell HX.out 1).trans rfl, HBuW.out, (below_drew1 HBW.out), (GI.below HG.out (below_drew1 HBW.out))⟩ (fun hHeld => ?_)
          generalize W.drew = Wd at hHeld ⊢
          refine pure_ (i := 0) (N := some 36) (v := ?_) (a' := ?_) #[true, false, false, false, false, false, false, false, false, false] rfl rfl (by kernel_rfl) (fun _ _ _ h => h) (Or.inl ⟨by rfl, ?_⟩) ?_ ?_
          rotate_left
          ·
           intro w'
           go_simp
           with_reducible rfl
          rotate_left
          ·
           simp only [Act.put, List.setIfInBounds_toArray, List.set_cons_zero, List.set_cons_succ, i64_w, i32_w]
           rfl
          refine pure_ (i := 5) (N := some 41) (v := ?_) (a' := ?_) #[true, false, false, false, false, true, false, false, false, false] rfl rfl (by kernel_rfl) (fun _ _ _ h => h) (Or.inl ⟨by rfl, ?_⟩) ?_ ?_
          rotate_left
          ·
           intro w'
           go_simp
           with_reducible rfl
          rotate_left
          ·
           simp only [Act.put, List.setIfInBounds_toArray, List.set_cons_zero, List.set_cons_succ, i64_w, i32_w]
           rfl
          refine take_ (i := 1) (N := some 37) (v := ?_) (a' := ?_) #[true, true, false, false, false, true, false, false, false, false] rfl rfl (by kernel_rfl) (fun _ _ _ h => h) (Or.inl ⟨by rfl, ?_⟩) hHeld ?_ ?_
          rotate_left
          ·
           rintro w' ⟨s0, s1, s2, s3, s4⟩
           go_simp
           with_reducible rfl
          rotate_left
          ·
           simp only [Act.put, List.setIfInBounds_toArray, List.set_cons_zero, List.set_cons_succ, i64_w, i32_w]
           rfl
          refine take_ (i := 6) (N := some 42) (v := ?_) (a' := ?_) #[true, true, false, false, false, true, true, false, false, false] rfl rfl (by kernel_rfl) (fun _ _ _ h => h) (Or.inl ⟨by rfl, ?_⟩) hHeld ?_ ?_
          rotate_left
          ·
           rintro w' ⟨s0, s1, s2, s3, s4⟩
           go_simp
           with_reducible rfl
          rotate_left
          ·
           simp only [Act.put, List.setIfInBounds_toArray, List.set_cons_zero, List.set_cons_succ, i64_w, i32_w]
           rfl
          refine one_ (i := 2) (N := some 38) #[true, true, true, false, false, true, true, false, false, false] rfl rfl (by kernel_rfl) (by decide) (fun K hK => ?_)
          refine goes_ Tryd.func50 (by kernel_rfl) rfl #[.int .i64 ((rd_T35 (rd_T33 l0 x).f2 y).f0)] (by rfl) rfl rfl (by simp only [List.map_toArray, List.map_cons, List.map_nil]; rfl) ?_
          with_reducible refine (strconv_Itoa.calls _ _ _ hHeld.2.2.2.2 HTA.out).mono ?_
          rintro e w3 ⟨rfl, hb3⟩
          refine ⟨_, rfl, ?_⟩
          refine hK.out _ _ ⟨((hb3.cell (World.block_lt_of_cell? _ _ (hHeld.1))).trans (hHeld.1)), ((hb3.cell (World.block_lt_of_cell? _ _ (hHeld.2.1))).trans (hHeld.2.1)), bld_below (hHeld.2.2.1) hb3, below_step (hHeld.2.2.2.1) hb3, GI.below (hHeld.2.2.2.2) hb3⟩ (fun hHeld => ?_)
          clear hK K
          refine norm_ (a' := ?_) ?_ ?_
          rotate_left
          ·
           show Act.put _ (some 38) _ = _
           simp only [Act.put, List.setIfInBounds_toArray, List.set_cons_zero, List.set_cons_succ, i64_w, i32_w]
           rfl
          refine pure_ (i := 3) (N := some 39) (v := ?_) (a' := ?_) #[true, true, true, true, false, true, true, false, false, false] rfl rfl (by kernel_rfl) (fun _ _ _ h => h) (Or.inl ⟨by rfl, ?_⟩) ?_ ?_
          rotate_left
          ·
           intro w'
           go_simp
           with_reducible rfl
          rotate_left
          ·
           simp only [Act.put, List.setIfInBounds_toArray, List.set_cons_zero, List.set_cons_succ, i64_w, i32_w]
           rfl
          refine pure_ (i := 4) (N := some 40) (v := ?_) (a' := ?_) #[true, true, true, true, true, true, true, false, false, false] rfl rfl (by kernel_rfl) (fun _ _ _ h => h) (Or.inl ⟨by rfl, ?_⟩) ?_ ?_
          rotate_left
          ·
           intro w'
           go_simp
           with_reducible rfl
          rotate_left
          ·
           simp only [Act.put, List.setIfInBounds_toArray, List.set_cons_zero, List.set_cons_succ, i64_w, i32_w]
           rfl
          refine one_ (i := 7) (N := some 43) #[true, true, true, true, true, true, true, true, false, false] rfl rfl (by kernel_rfl) (by decide) (fun K hK => ?_)
          refine goes_ Tryd.func50 (by kernel_rfl) rfl #[.int .i64 ((rd_T35 (rd_T33 l0 x).f2 y).f1)] (by rfl) rfl rfl (by simp only [List.map_toArray, List.map_cons, List.map_nil]; rfl) ?_
          with_reducible refine (strconv_Itoa.calls _ _ _ hHeld.2.2.2.2 HTB.out).mono ?_
          rintro e w3 ⟨rfl, hb3⟩
          refine ⟨_, rfl, ?_⟩
          refine hK.out _ _ ⟨((hb3.cell (World.block_lt_of_cell? _ _ (hHeld.1))).trans (hHeld.1)), ((hb3.cell (World.block_lt_of_cell? _ _ (hHeld.2.1))).trans (hHeld.2.1)), bld_below (hHeld.2.2.1) hb3, below_step (hHeld.2.2.2.1) hb3, GI.below (hHeld.2.2.2.2) hb3⟩ (fun hHeld => ?_)
          clear hK K
          refine norm_ (a' := ?_) ?_ ?_
          rotate_left
          ·
           show Act.put _ (some 43) _ = _
           simp only [Act.put, List.setIfInBounds_toArray, List.set_cons_zero, List.set_cons_succ, i64_w, i32_w]
           rfl
          refine pure_ (i := 8) (N := some 44) (v := ?_) (a' := ?_) #[true, true, true, true, true, true, true, true, true, false] rfl rfl (by kernel_rfl) (fun _ _ _ h => h) (Or.inl ⟨by rfl, ?_⟩) ?_ ?_
          rotate_left
          ·
           intro w'
           go_simp
           with_reducible rfl
          rotate_left
          ·
           simp only [Act.put, List.setIfInBounds_toArray, List.set_cons_zero, List.set_cons_succ, i64_w, i32_w]
           rfl
          refine last_ (i := 9) (N := some 45) #[true, true, true, true, true, true, true, true, true, true] rfl rfl (by kernel_rfl) (by decide) (fun K hK => ?_)
          refine goes_ Tryd.func49 (by kernel_rfl) rfl #[.pointer (some ⟨w1.heap.size, 0, none⟩), .string (((⟨#[32, 102, 105, 108, 108, 32]⟩ ++ ta) ++ ⟨#[32, 97, 108, 99, 111, 104, 111, 108, 32]⟩) ++ tb)] (by rfl) rfl rfl (by simp only [List.map_toArray, List.map_cons, List.map_nil]; rfl) ?_
          with_reducible refine (writeBytes _ _ _ _ _ (hHeld.2.2.1) HLEN.out).mono ?_
          rintro e w3 ⟨⟨n3, rfl⟩, hbu3, hb3, hk3⟩
          have HBu2 := Aside0.mk hbu3
          have HB2 := Aside0.mk (below_mine (hHeld.2.2.2.1) hb3 HW1.out)
          clear hbu3 hb3 hk3
          refine ⟨_, rfl, ?_⟩
          refine hK.out _ _ ?_
          clear hK K
          refine norm_ (a' := ?_) ?_ ?_
          rotate_left
          ·
           show Act.put _ (some 45) _ = _
           simp only [Act.put, List.setIfInBounds_toArray, List.set_cons_zero, List.set_cons_succ, i64_w, i32_w]
           rfl
          refine done_ (by kernel_rfl) ?_
          clear ha1 ha2 ha3
          go_wp2
          go_roundg k2
          case measure => have := HK2.out; omega
          case rel => exact ⟨wrap64 (y + 1), _, rfl, H', ⟨by have := HK2.out; omega⟩, HBu2, HB2⟩
         ·
          rw [if_neg c5] at H
          cases H
        ·
         rw [if_neg c4] at H
         have c4b : decide (y < ((rd_T33 l0 x).f2.length : Int)) = false := decide_eq_false c4
         obtain ⟨acc2, ha, H⟩ := Option.bind_eq_some_iff.mp H
         unfold lot_Print.app at ha
         by_cases hln : acc.length + (⟨#[10]⟩ : ByteArray).size ≤ 140737488355328
         case neg => rw [if_neg hln] at ha; cases ha
         rw [if_pos hln] at ha
         obtain rfl := Option.some.inj ha
         have HLEN := Aside0.mk hln
         have H' := Aside0.mk H
         clear H ha hln c4
         go_wp2_with (go_at_call 49; refine (writeBytes _ _ _ _ _ HBu.out HLEN.out).mono ?_)
         intro e w3 n3 he hbu3 hb3 hk3
         subst he
         have HBu3 := Aside0.mk hbu3
         have HB3 := Aside0.mk (below_mine HB.out hb3 HW1.out)
         clear hbu3 hb3 hk3
         go_wp2
         go_roundg k2
         case measure => have := HK1.out; have := HK2.out; omega
         case rel => exact ⟨wrap64 (x + 1), _, rfl, H', ⟨by have := HK1.out; have := HK2.out; omega⟩, HBu3, HB3⟩
     ·
      rw [if_neg c3] at H
      cases H
    ·
     rw [if_neg c2] at H
     have c2b : decide (x < (l0.length : Int)) = false := decide_eq_false c2
     clear c2
     obtain ⟨rfl, rfl⟩ := Prod.mk.inj (Option.some.inj H)
     go_wp2_with (go_at_call 51; refine (Tryd.Builder_String_any_k _ _ acc _ HBu.out (bld_size HBu.out)).mono ?_)
     intro e w9 he hq1 hb9 hq2
     subst he
     go_wp2
     go_ret2
     exact ⟨rfl, below_mine HB.out hb9 HW1.out⟩
def spilelaw22_awake.f : Option Bool := some true
def awakeLots (a : Int) : List S33 := [⟨7, ⟨30, 100⟩, [⟨2, 10⟩, ⟨5, a⟩]⟩]
theorem awakeLots_C {w : World} {gA gB : Nat} {a : Int} (hA : w.heap[gA]? = some (.cells #[.int .i64 2, .int .i64 10, .int .i64 5, .int .i64 a] 35 (0, 0))) (hB : w.heap[gB]? = some (.cells #[.int .i64 7, .int .i64 30, .int .i64 100, .slice (some ⟨gA, 0, none⟩) 2 2] 33 (0, 0))) :
  Kd.C k33 w (some ⟨gB, 0, none⟩) (awakeLots a).length (awakeLots a) := by
 have hs : k35.C w (some ⟨gA, 0, none⟩) 2 [⟨2, 10⟩, ⟨5, a⟩] := by
  refine ⟨rfl, by decide, fun _ => ⟨_, rfl, ?_⟩⟩
  intro j p hp
  match j, hp with
  | 0, hp =>
   obtain rfl := Option.some.inj hp
   refine ⟨[.int .i64 2, .int .i64 10], rfl, k35_mk w ⟨2, 10⟩, ?_⟩
   intro i u hu
   match i, hu with
   | 0, hu => obtain rfl := Option.some.inj hu; exact (blk_cell hA 0).trans rfl
   | 1, hu => obtain rfl := Option.some.inj hu; exact (blk_cell hA 1).trans rfl
   | i + 2, hu => simp at hu
  | 1, hp =>
   obtain rfl := Option.some.inj hp
   refine ⟨[.int .i64 5, .int .i64 a], rfl, k35_mk w ⟨5, a⟩, ?_⟩
   intro i u hu
   match i, hu with
   | 0, hu => obtain rfl := Option.some.inj hu; exact (blk_cell hA 2).trans rfl
   | 1, hu => obtain rfl := Option.some.inj hu; exact (blk_cell hA 3).trans rfl
   | i + 2, hu => simp at hu
  | j + 2, hp => simp at hp
 refine ⟨rfl, (by show (1 : Nat) ≤ 9223372036854775807; decide), fun _ => ⟨_, rfl, ?_⟩⟩
 intro j p hp
 match j, hp with
 | 0, hp =>
  obtain rfl := Option.some.inj hp
  refine ⟨[.int .i64 7, .int .i64 30, .int .i64 100, .slice (some ⟨gA, 0, none⟩) 2 2], rfl, k33_mk w ⟨7, ⟨30, 100⟩, [⟨2, 10⟩, ⟨5, a⟩]⟩ (Nat.le_refl _) hs, ?_⟩
  intro i u hu
  match i, hu with
  | 0, hu => obtain rfl := Option.some.inj hu; exact (blk_cell hB 0).trans rfl
  | 1, hu => obtain rfl := Option.some.inj hu; exact (blk_cell hB 1).trans rfl
  | 2, hu => obtain rfl := Option.some.inj hu; exact (blk_cell hB 2).trans rfl
  | 3, hu => obtain rfl := Option.some.inj hu; exact (blk_cell hB 3).trans rfl
  | i + 4, hu => simp at hu
 | j + 1, hp => simp [awakeLots] at hp
set_option maxHeartbeats 8000000 in
set_option maxRecDepth 100000 in
theorem spilelaw22_awake.calls (r : Bool) (w : World) (hG : GI w) (h : spilelaw22_awake.f = some r) :
  Calls Tryd.prog 10 #[] w fun e w' => e = .returned (.bool r) ∧ Below w.heap.size w w' := by
 obtain rfl := Option.some.inj h
 clear h
 obtain ⟨W1, hW1⟩ : ∃ W1, W1 = (w.alloc (.cells #[.int .i64 2, .int .i64 10, .int .i64 5, .int .i64 20] 35)).alloc (.cells #[.int .i64 7, .int .i64 30, .int .i64 100, .slice (some ⟨w.heap.size, 0, none⟩) 2 2] 33) := ⟨_, rfl⟩
 have hb1 : Below w.heap.size w W1 := by rw [hW1]; exact below_alloc (below_alloc (Below.refl _ _) _) _
 have hA1 : W1.heap[w.heap.size]? = some (.cells #[.int .i64 2, .int .i64 10, .int .i64 5, .int .i64 20] 35 (0, 0)) := by rw [hW1]; exact blk_alloc (blk_new w _) _
 have hB1 : W1.heap[w.heap.size + 1]? = some (.cells #[.int .i64 7, .int .i64 30, .int .i64 100, .slice (some ⟨w.heap.size, 0, none⟩) 2 2] 33 (0, 0)) := by
  rw [hW1]
  have := blk_new (w.alloc (.cells #[.int .i64 2, .int .i64 10, .int .i64 5, .int .i64 20] 35)) (.cells #[.int .i64 7, .int .i64 30, .int .i64 100, .slice (some ⟨w.heap.size, 0, none⟩) 2 2] 33)
  rwa [show (w.alloc (.cells #[.int .i64 2, .int .i64 10, .int .i64 5, .int .i64 20] 35)).heap.size = w.heap.size + 1 from by first | exact Array.size_push _ | rfl | simp] at this
 have hsz1 : W1.heap.size = w.heap.size + 1 + 1 := by rw [hW1]; first | rfl | (exact (Array.size_push _).trans (congrArg (· + 1) (Array.size_push _))) | simp
 have HB1 := Aside0.mk hb1
 have HA1 := Aside0.mk hA1
 have HBB1 := Aside0.mk hB1
 have HG1 := Aside0.mk (GI.below hG hb1)
 clear hb1 hA1 hB1 hG
 have hP : lot_Print.f 400 (awakeLots 20) = some ((⟨#[108, 111, 116, 32, 55, 32, 109, 97, 115, 115, 32, 49, 48, 48, 32, 102, 105, 108, 108, 32, 50, 32, 97, 108, 99, 111, 104, 111, 108, 32, 49, 48, 32, 102, 105, 108, 108, 32, 53, 32, 97, 108, 99, 111, 104, 111, 108, 32, 50, 48, 10]⟩ : ByteArray), 0) := by kernel_rfl
 have hO : lot_Of.f 400 (awakeLots 20) 5 = some (20, 0) := by kernel_rfl
 have hK : lot_Check.f 400 (awakeLots 21) = some (0, 14) := by kernel_rfl
 have HP := Aside0.mk hP
 have HO := Aside0.mk hO
 have HK := Aside0.mk hK
 clear hP hO hK
 go_enter Tryd.func10, Tryd.ntmps10
 go_wp2_with (go_at_call 30; rw [← hW1]; refine (lot_Print.calls 400 (some ⟨w.heap.size + 1, 0, none⟩) 1 (awakeLots 20) _ _ W1 (awakeLots_C HA1.out HBB1.out) (Nat.le_refl _) HG1.out HP.out).mono ?_)
 intro e W2 he hb2
 subst he
 rw [← hW1, ← hsz1] at hb2
 have HA2 := Aside0.mk ((hb2.block _ (blk_lt HA1.out)).trans HA1.out)
 have HBB2 := Aside0.mk ((hb2.block _ (blk_lt HBB1.out)).trans HBB1.out)
 have HB2 := Aside0.mk (below_step HB1.out hb2)
 clear hb2
 go_wp2_with (go_at_call 13; refine (lot_Of.calls 400 (some ⟨w.heap.size + 1, 0, none⟩) 1 (awakeLots 20) 5 _ _ W2 (awakeLots_C HA2.out HBB2.out) (Nat.le_refl _) HO.out).mono ?_)
 rintro e W3 ⟨rfl, hb3⟩
 have hA3 := (hb3.block _ (blk_lt HA2.out)).trans HA2.out
 have hB3 := (hb3.block _ (blk_lt HBB2.out)).trans HBB2.out
 have HB3 := Aside0.mk (below_step HB2.out hb3)
 have HA3 := Aside0.mk hA3
 have HBB3 := Aside0.mk hB3
 have hc0 : W3.cell? ⟨w.heap.size + 1, 3, none⟩ = some (.slice (some ⟨w.heap.size, 0, none⟩) 2 2) := (blk_cell hB3 3).trans rfl
 have hc1 : W3.cell? ⟨w.heap.size, 3, none⟩ = some (.int .i64 20) := (blk_cell hA3 3).trans rfl
 have hf1 := blk_frozen hA3 3
 clear hb3 hA3 hB3
 have HA4 : Aside0 ((W3.setCell ⟨w.heap.size, 3, none⟩ (.int .i64 21)).heap[w.heap.size]? = some (.cells #[.int .i64 2, .int .i64 10, .int .i64 5, .int .i64 21] 35 (0, 0))) := ⟨blk_put (cs := #[.int .i64 2, .int .i64 10, .int .i64 5, .int .i64 20]) HA3.out 3 _ rfl⟩
 have HBB4 : Aside0 ((W3.setCell ⟨w.heap.size, 3, none⟩ (.int .i64 21)).heap[w.heap.size + 1]? = some (.cells #[.int .i64 7, .int .i64 30, .int .i64 100, .slice (some ⟨w.heap.size, 0, none⟩) 2 2] 33 (0, 0))) := ⟨blk_far HBB3.out (Nat.succ_ne_self _) _⟩
 have HB4 : Aside0 (Below w.heap.size w (W3.setCell ⟨w.heap.size, 3, none⟩ (.int .i64 21))) := ⟨HB3.out.setCell (p := ⟨w.heap.size, 3, none⟩) (Nat.le_refl _) _⟩
 go_wp2_with (go_at_call 14; refine (lot_Check.calls 400 (some ⟨w.heap.size + 1, 0, none⟩) 1 (awakeLots 21) _ _ (W3.setCell ⟨w.heap.size, 3, none⟩ (.int .i64 21)) (awakeLots_C HA4.out HBB4.out) (Nat.le_refl _) HK.out).mono ?_)
 rintro e W5 ⟨rfl, hb5⟩
 have HB5 := Aside0.mk (below_step HB4.out hb5)
 clear hb5 hc0 hc1 hf1
 go_wp2
 go_ret
 exact ⟨by first | rfl | (simp; done) | decide, HB5.out⟩
def spileref22_FewShares.f (l0 : List (S35)) : Option (Bool) := if (l0.length : Int) ≤ 12 then (some true) else (if (l0.length : Int) > 32 then (some (decide ((l0.length : Int) ≤ 37))) else (some false))
set_option maxHeartbeats 8000000 in
set_option maxRecDepth 100000 in
theorem spileref22_FewShares.calls (A0 : Option Addr) (c0 : Nat) (l0 : List (S35)) (r : Bool) (w : World) (hr0 : Kd.C k35 w A0 l0.length l0) (hc0 : l0.length ≤ c0) (h : spileref22_FewShares.f l0 = some r) :
  Calls Tryd.prog 21 #[.slice A0 l0.length c0] w fun e w' => e = .returned (.bool r) ∧ Drawn0 w w' := by
 have HR0 := Aside0.mk hr0
 have HC0 := Aside0.mk hc0
 clear hr0 hc0
 have H : (if (l0.length : Int) ≤ 12 then (some true) else (if (l0.length : Int) > 32 then (some (decide ((l0.length : Int) ≤ 37))) else (some false))) = some r := h
 clear h
 by_cases c2 : (l0.length : Int) ≤ 12
 ·
  rw [if_pos c2] at H
  have c2b0 : decide ((l0.length : Int) ≤ 12) = true := decide_eq_true c2
  have c2b1 : decide (l0.length ≤ 12) = true := decide_eq_true (by omega)
  clear c2
  obtain rfl := Option.some.inj H
  go_enter Tryd.func21, Tryd.ntmps21
  go_wp2
  go_ret
  exact ⟨by first | rfl | (simp; done) | (simp [*]; done), by repeat (first | exact Drawn0.refl _ | apply Drawn0.step)⟩
 ·
  rw [if_neg c2] at H
  have c2b0 : decide ((l0.length : Int) ≤ 12) = false := decide_eq_false c2
  have c2b1 : decide (l0.length ≤ 12) = false := decide_eq_false (by omega)
  clear c2
  by_cases c3 : (l0.length : Int) > 32
  ·
   rw [if_pos c3] at H
   have c3b0 : decide (32 < (l0.length : Int)) = true := decide_eq_true c3
   have c3b1 : decide (32 < l0.length) = true := decide_eq_true (by omega)
   clear c3
   obtain rfl := Option.some.inj H
   go_enter Tryd.func21, Tryd.ntmps21
   go_wp2
   go_ret
   exact ⟨by first | rfl | (simp; done) | (simp [*]; done), by repeat (first | exact Drawn0.refl _ | apply Drawn0.step)⟩
  ·
   rw [if_neg c3] at H
   have c3b0 : decide (32 < (l0.length : Int)) = false := decide_eq_false c3
   have c3b1 : decide (32 < l0.length) = false := decide_eq_false (by omega)
   clear c3
   obtain rfl := Option.some.inj H
   go_enter Tryd.func21, Tryd.ntmps21
   go_wp2
   go_ret
   exact ⟨by first | rfl | (simp; done) | (simp [*]; done), by repeat (first | exact Drawn0.refl _ | apply Drawn0.step)⟩
end Go.Proofs.YtgjoenoknknoiaaDoor.Pr
namespace Go.Proofs.YtgjoenoknknoiaaDoor.Pr
open Go.RowKit Go.Proofs.YtgjoenoknknoiaaDoorW.PrintWords Go.Proofs.YtgjoenoknknoiaaDoorW.PrintLast Go.Proofs.YtgjoenoknknoiaaDoorW.PrintMore Go.Proofs.YtgjoenoknknoiaaDoor.X
attribute [local go_sem] max2_int min2_int max_two min_two max_three min_three max_four min_four   -- for this text's walks alone
set_option linter.unusedVariables false
set_option linter.unusedSimpArgs false
mutual
def spileref22_Few.j0 : Nat → List (S33) → Bool → Option (Bool)
 | 0, _, _ => none
 | k + 1, x0, x16 => if x16 = true then (some false) else (spileref22_Few.l0 k x0 0)
def spileref22_Few.l0 : Nat → List (S33) → Int → Option (Bool)
 | 0, _, _ => none
 | k + 1, x0, x3 => if x3 < (x0.length : Int) then (if 0 ≤ x3 then ((spileref22_FewShares.f ((rd_T33 x0 x3).f2)).bind fun t141 => (if t141 = true then (spileref22_Few.l0 k x0 (wrap64 (x3 + 1))) else (some false))) else (none)) else (some true)
end
def spileref22_Few.f (k : Nat) (l0 : List (S33)) : Option (Bool) := if (l0.length : Int) > 8 then (if (l0.length : Int) ≤ 32 then (spileref22_Few.j0 k l0 true) else (spileref22_Few.j0 k l0 (decide ((l0.length : Int) > 37)))) else (spileref22_Few.j0 k l0 (decide ((l0.length : Int) > 37)))
theorem spileref22_Few.mono_l : ∀ k, (∀ y0 y1, LeO (spileref22_Few.j0 k y0 y1) (spileref22_Few.j0 (k + 1) y0 y1)) ∧ (∀ y0 y1, LeO (spileref22_Few.l0 k y0 y1) (spileref22_Few.l0 (k + 1) y0 y1))
 | 0 => ⟨fun _ _ r h => by simp [spileref22_Few.j0] at h, fun _ _ r h => by simp [spileref22_Few.l0] at h⟩
 | k + 1 => by
  obtain ⟨ih0, ih1⟩ := spileref22_Few.mono_l k
  refine ⟨?_, ?_⟩
  ·
   intro y0 y1
   unfold spileref22_Few.j0
   repeat' first
   | (with_reducible exact ih0 _ _)
   | (with_reducible exact ih1 _ _)
   | (with_reducible exact LeO.refl _)
   | (with_reducible exact LeO.none _)
   | (with_reducible refine LeO.ite ?_ ?_)
   | (with_reducible refine LeO.bind ?_ (fun _ => ?_))
   | exact ih0 _ _
   | exact ih1 _ _
   | exact LeO.none _
   | refine LeO.ite ?_ ?_
   | refine LeO.bind ?_ (fun _ => ?_)
  ·
   intro y0 y1
   unfold spileref22_Few.l0
   repeat' first
   | (with_reducible exact ih0 _ _)
   | (with_reducible exact ih1 _ _)
   | (with_reducible exact LeO.refl _)
   | (with_reducible exact LeO.none _)
   | (with_reducible refine LeO.ite ?_ ?_)
   | (with_reducible refine LeO.bind ?_ (fun _ => ?_))
   | exact ih0 _ _
   | exact ih1 _ _
   | exact LeO.none _
   | refine LeO.ite ?_ ?_
   | refine LeO.bind ?_ (fun _ => ?_)
theorem spileref22_Few.mono : ∀ a0 k, LeO (spileref22_Few.f k a0) (spileref22_Few.f (k + 1) a0) := by
 intro a0 k
 obtain ⟨ih0, ih1⟩ := spileref22_Few.mono_l k
 unfold spileref22_Few.f
 repeat' first
   | (with_reducible exact ih0 _ _)
   | (with_reducible exact ih1 _ _)
   | (with_reducible exact LeO.refl _)
   | (with_reducible exact LeO.none _)
   | (with_reducible refine LeO.ite ?_ ?_)
   | (with_reducible refine LeO.bind ?_ (fun _ => ?_))
   | exact ih0 _ _
   | exact ih1 _ _
   | exact LeO.none _
   | refine LeO.ite ?_ ?_
   | refine LeO.bind ?_ (fun _ => ?_)
set_option maxHeartbeats 8000000 in
set_option maxRecDepth 100000 in
theorem spileref22_Few.calls (k : Nat) (A0 : Option Addr) (c0 : Nat) (l0 : List (S33)) (r : Bool) (w : World) (hr0 : Kd.C k33 w A0 l0.length l0) (hc0 : l0.length ≤ c0) (h : spileref22_Few.f k l0 = some r) :
  Calls Tryd.prog 11 #[.slice A0 l0.length c0] w fun e w' => e = .returned (.bool r) ∧ Drawn0 w w' := by
 have HR0 := Aside0.mk hr0
 have HC0 := Aside0.mk hc0
 clear hr0 hc0
 have H : (if (l0.length : Int) > 8 then (if (l0.length : Int) ≤ 32 then (spileref22_Few.j0 k l0 true) else (spileref22_Few.j0 k l0 (decide ((l0.length : Int) > 37)))) else (spileref22_Few.j0 k l0 (decide ((l0.length : Int) > 37)))) = some r := h
 clear h
 have HC2 := Aside0.mk H
 clear H
 go_enter Tryd.func11, Tryd.ntmps11
 go_upto_region 1 with (fail)
 go_cut [16] (fun v16 wc => ∃ (kq : Nat) (x16_1 : Bool), v16 = .bool x16_1 ∧ Aside0 (spileref22_Few.j0 kq l0 x16_1 = some r) ∧ Aside0 (kq ≤ k) ∧ Drawn0 w wc)
 case first =>
  have H := HC2.out
  clear HC2
  by_cases c3 : (l0.length : Int) > 8
  ·
   rw [if_pos c3] at H
   have c3b0 : decide (8 < (l0.length : Int)) = true := decide_eq_true c3
   have c3b1 : decide (8 < l0.length) = true := decide_eq_true (by omega)
   clear c3
   (first | rw [c3b0] | (simp only [i64_w, i32_w]; rw [c3b0]) | skip)
   by_cases c4 : (l0.length : Int) ≤ 32
   ·
    rw [if_pos c4] at H
    have c4b0 : decide ((l0.length : Int) ≤ 32) = true := decide_eq_true c4
    have c4b1 : decide (l0.length ≤ 32) = true := decide_eq_true (by omega)
    clear c4
    have H' := Aside0.mk H
    clear H
    go_wp2
    go_meet
    case rel => exact ⟨_, (true), (by first | rfl | (simp; done) | (simp [*]; done)), H', ⟨by first | omega | exact Nat.le_refl _⟩, by repeat (first | exact Drawn0.refl _ | apply Drawn0.step)⟩
   ·
    rw [if_neg c4] at H
    have c4b0 : decide ((l0.length : Int) ≤ 32) = false := decide_eq_false c4
    have c4b1 : decide (l0.length ≤ 32) = false := decide_eq_false (by omega)
    clear c4
    have H' := Aside0.mk H
    clear H
    go_wp2
    go_meet
    case rel => exact ⟨_, (decide ((l0.length : Int) > 37)), (by first | rfl | (simp; done) | (simp [*]; done)), H', ⟨by first | omega | exact Nat.le_refl _⟩, by repeat (first | exact Drawn0.refl _ | apply Drawn0.step)⟩
  ·
   rw [if_neg c3] at H
   have c3b0 : decide (8 < (l0.length : Int)) = false := decide_eq_false c3
   have c3b1 : decide (8 < l0.length) = false := decide_eq_false (by omega)
   clear c3
   (first | rw [c3b0] | (simp only [i64_w, i32_w]; rw [c3b0]) | skip)
   have H' := Aside0.mk H
   clear H
   go_wp2
   go_meet
   case rel => exact ⟨_, (decide ((l0.length : Int) > 37)), (by first | rfl | (simp; done) | (simp [*]; done)), H', ⟨by first | omega | exact Nat.le_refl _⟩, by repeat (first | exact Drawn0.refl _ | apply Drawn0.step)⟩
 case rest =>
  clear HC2
  try clear c1
  try clear p2
  try clear c3
  try clear c3b0
  try clear c3b1
  try clear c4
  try clear c4b0
  try clear c4b1
  obtain ⟨kq, x16_1, rfl, HA, HJ1, ⟨mc1, rfl⟩⟩ := hcut
  cases kq with
  | zero => exact absurd HA.out (by simp [spileref22_Few.j0])
  | succ kj1 =>
   have H := HA.out
   clear HA
   simp only [spileref22_Few.j0] at H
   by_cases c5 : x16_1 = true
   ·
    subst c5
    have H1 : (some false) = some r := by rw [if_pos rfl] at H; exact H
    clear H
    have H := H1
    clear H1
    obtain rfl := Option.some.inj H
    go_wp2
    go_ret
    exact ⟨by first | rfl | (simp; done) | (simp [*]; done), by repeat (first | exact Drawn0.refl _ | apply Drawn0.step)⟩
   ·
    replace c5 := Bool.eq_false_iff.mpr c5
    subst c5
    have H1 : (spileref22_Few.l0 kj1 l0 0) = some r := by rw [if_neg (show ¬ (false = true) by decide)] at H; exact H
    clear H
    have H := H1
    clear H1
    have H' := Aside0.mk H
    clear H
    go_wp2
    go_loopg [3] kj1 (fun kq v3 w' => ∃ (x3_2 : Int), v3 = .int .i64 x3_2 ∧ Aside0 (spileref22_Few.l0 kq l0 x3_2 = some r) ∧ Aside0 (kq ≤ kj1) ∧ Drawn0 w w')
    case atStart => exact ⟨(0), (by first | rfl | (simp; done) | (simp [*]; done)), H', ⟨Nat.le_refl _⟩, by repeat (first | exact Drawn0.refl _ | apply Drawn0.step)⟩
    case round =>
     clear H'
     try clear c1
     try clear p2
     try clear c3
     try clear c3b0
     try clear c3b1
     try clear c4
     try clear c4b0
     try clear c4b1
     try clear c5
     try clear p2
     obtain ⟨x3_2, rfl, HA, HK2, ⟨m2, rfl⟩⟩ := hrel
     cases gk with
     | zero => exact absurd HA.out (by simp [spileref22_Few.l0])
     | succ k2 =>
      have H := HA.out
      clear HA
      simp only [spileref22_Few.l0] at H
      by_cases c6 : x3_2 < (l0.length : Int)
      ·
       rw [if_pos c6] at H
       have c6b0 : decide (x3_2 < (l0.length : Int)) = true := decide_eq_true c6
       clear c6
       by_cases c7 : 0 ≤ x3_2
       ·
        rw [if_pos c7] at H
        have c7b0 : decide (0 ≤ x3_2) = true := decide_eq_true c7
        clear c7
        replace H := Option.bind_eq_some_iff.mp H
        obtain ⟨t141, A80, H⟩ := H
        replace H : (if t141 = true then (spileref22_Few.l0 k2 l0 (wrap64 (x3_2 + 1))) else (some false)) = some r := H
        have A8 := Aside0.mk A80
        clear A80
        by_cases c9 : t141 = true
        ·
         subst c9
         have H1 : (spileref22_Few.l0 k2 l0 (wrap64 (x3_2 + 1))) = some r := by rw [if_pos rfl] at H; exact H
         clear H
         have H := H1
         clear H1
         have H' := Aside0.mk H
         clear H
         have p140 : 0 ≤ (x3_2 : Int) := of_decide_eq_true (by first | (with_reducible assumption) | assumption)
         have q140 : x3_2 < (l0.length : Int) := of_decide_eq_true (by first | (with_reducible assumption) | assumption)
         obtain ⟨ad140, A140_3, c140_3, e140, hx140_0, hx140_1, hx140_2, hx140_3, hl140_3, hi140_3⟩ := at_T33 HR0.out x3_2 p140 q140
         cases e140
         have HR140_3 := Aside0.mk hi140_3
         have HC140_3 := Aside0.mk hl140_3
         clear hi140_3 hl140_3
         replace p140 := eq_true p140
         replace q140 := eq_true q140
         go_wp2_with (first | ((with_reducible refine gate_callee (f := 21) rfl ?_); refine goesL_ (some 28) rfl rfl Tryd.func21 (by kernel_rfl) rfl #[.slice A140_3 ((rd_T33 l0 x3_2).f2).length c140_3] rfl (by (try simp only [List.map_toArray, List.map_cons, List.map_nil]); first | done | rfl | (simp only [List.length_drop, List.length_take]; rfl)) ?_; (with_reducible refine (spileref22_FewShares.calls _ _ ((rd_T33 l0 x3_2).f2) true _ ?side1 ?side2 A8.out).mono ?_); (case side1 => repeat (first | exact HR140_3.out | (with_reducible refine Kd.C_alloc ?_ _) | (with_reducible refine Kd.C_drewN ?_ _) | (with_reducible refine Kd.C_drew ?_))); (case side2 => exact HC140_3.out); rintro e w' ⟨rfl, ⟨nd, rfl⟩⟩; refine ⟨_, rfl, ?_⟩))
         go_roundg k2
         case measure => have := HJ1.out; have := HK2.out; omega
         case rel => exact ⟨(wrap64 (x3_2 + 1)), (by first | rfl | (simp; done) | (simp [*]; done)), H', ⟨by have := HJ1.out; have := HK2.out; omega⟩, by repeat (first | exact Drawn0.refl _ | apply Drawn0.step)⟩
        ·
         replace c9 := Bool.eq_false_iff.mpr c9
         subst c9
         have H1 : (some false) = some r := by rw [if_neg (show ¬ (false = true) by decide)] at H; exact H
         clear H
         have H := H1
         clear H1
         obtain rfl := Option.some.inj H
         have p140 : 0 ≤ (x3_2 : Int) := of_decide_eq_true (by first | (with_reducible assumption) | assumption)
         have q140 : x3_2 < (l0.length : Int) := of_decide_eq_true (by first | (with_reducible assumption) | assumption)
         obtain ⟨ad140, A140_3, c140_3, e140, hx140_0, hx140_1, hx140_2, hx140_3, hl140_3, hi140_3⟩ := at_T33 HR0.out x3_2 p140 q140
         cases e140
         have HR140_3 := Aside0.mk hi140_3
         have HC140_3 := Aside0.mk hl140_3
         clear hi140_3 hl140_3
         replace p140 := eq_true p140
         replace q140 := eq_true q140
         go_wp2_with (first | ((with_reducible refine gate_callee (f := 21) rfl ?_); refine goesL_ (some 28) rfl rfl Tryd.func21 (by kernel_rfl) rfl #[.slice A140_3 ((rd_T33 l0 x3_2).f2).length c140_3] rfl (by (try simp only [List.map_toArray, List.map_cons, List.map_nil]); first | done | rfl | (simp only [List.length_drop, List.length_take]; rfl)) ?_; (with_reducible refine (spileref22_FewShares.calls _ _ ((rd_T33 l0 x3_2).f2) false _ ?side1 ?side2 A8.out).mono ?_); (case side1 => repeat (first | exact HR140_3.out | (with_reducible refine Kd.C_alloc ?_ _) | (with_reducible refine Kd.C_drewN ?_ _) | (with_reducible refine Kd.C_drew ?_))); (case side2 => exact HC140_3.out); rintro e w' ⟨rfl, ⟨nd, rfl⟩⟩; refine ⟨_, rfl, ?_⟩))
         go_ret
         exact ⟨by first | rfl | (simp; done) | (simp [*]; done), by repeat (first | exact Drawn0.refl _ | apply Drawn0.step)⟩
       ·
        rw [if_neg c7] at H
        exact absurd H (by simp)
      ·
       rw [if_neg c6] at H
       have c6b0 : decide (x3_2 < (l0.length : Int)) = false := decide_eq_false c6
       clear c6
       obtain rfl := Option.some.inj H
       go_wp2
       go_ret
       exact ⟨by first | rfl | (simp; done) | (simp [*]; done), by repeat (first | exact Drawn0.refl _ | apply Drawn0.step)⟩
def lot_Total.l0 : Nat → List (S33) → Int → Int → Int → Int → Option (Int × Int × Int)
 | 0, _, _, _, _, _ => none
 | k + 1, x12, x13, x14, x145000, x145001 => if x14 < x13 then (if 0 ≤ x14 then (if x14 < (x12.length : Int) then (lot_Total.l0 k x12 x13 (wrap64 (x14 + 1)) (wrap64 (x145000 + ((rd_T33 x12 x14).f1.f0))) (wrap64 (x145001 + ((rd_T33 x12 x14).f1.f1)))) else (none)) else (none)) else ((lot_plain.f k x145000 x145001).bind fun t147 => (if t147 = true then (some (x145000, x145001, 0)) else (some (0, 0, 15))))
def lot_Total.f (k : Nat) (l0 : List (S33)) : Option (Int × Int × Int) := (lot_right.f k l0).bind fun t143 => (if t143 = true then (lot_Total.l0 k l0 (l0.length : Int) 0 0 0) else (some (0, 0, 1)))
theorem lot_Total.mono_l : ∀ k, (∀ y0 y1 y2 y3 y4, LeO (lot_Total.l0 k y0 y1 y2 y3 y4) (lot_Total.l0 (k + 1) y0 y1 y2 y3 y4))
 | 0 => fun _ _ _ _ _ r h => by simp [lot_Total.l0] at h
 | k + 1 => by
  have ih0 := lot_Total.mono_l k
  ·
   intro y0 y1 y2 y3 y4
   unfold lot_Total.l0
   repeat' first
   | (with_reducible exact ih0 _ _ _ _ _)
   | (with_reducible exact lot_plain.mono _ _ _)
   | (with_reducible exact lot_right.mono _ _)
   | (with_reducible exact LeO.refl _)
   | (with_reducible exact LeO.none _)
   | (with_reducible refine LeO.ite ?_ ?_)
   | (with_reducible refine LeO.bind ?_ (fun _ => ?_))
   | exact ih0 _ _ _ _ _
   | exact lot_plain.mono _ _ _
   | exact lot_right.mono _ _
   | exact LeO.none _
   | refine LeO.ite ?_ ?_
   | refine LeO.bind ?_ (fun _ => ?_)
theorem lot_Total.mono : ∀ a0 k, LeO (lot_Total.f k a0) (lot_Total.f (k + 1) a0) := by
 intro a0 k
 have ih0 := lot_Total.mono_l k
 unfold lot_Total.f
 repeat' first
   | (with_reducible exact ih0 _ _ _ _ _)
   | (with_reducible exact lot_plain.mono _ _ _)
   | (with_reducible exact lot_right.mono _ _)
   | (with_reducible exact LeO.refl _)
   | (with_reducible exact LeO.none _)
   | (with_reducible refine LeO.ite ?_ ?_)
   | (with_reducible refine LeO.bind ?_ (fun _ => ?_))
   | exact ih0 _ _ _ _ _
   | exact lot_plain.mono _ _ _
   | exact lot_right.mono _ _
   | exact LeO.none _
   | refine LeO.ite ?_ ?_
   | refine LeO.bind ?_ (fun _ => ?_)
def spileref22_ID.f (a0 : Int) : Option (Bool) := if a0 ≥ 1 then (some (decide (a0 ≤ 1073741824))) else (some false)
def spileref21_Plain.f (a0_0 : Int) (a0_1 : Int) : Option (Bool) := if a0_0 ≥ 0 then (if a0_0 ≤ 10737418240000 then (if a0_1 ≥ 0 then (if a0_1 ≤ 128849018880000 then (if a0_1 > 0 then (some true) else (some (a0_0 == 0))) else (some false)) else (some false)) else (some false)) else (some false)
end Go.Proofs.YtgjoenoknknoiaaDoor.Pr
namespace Go.Proofs.YtgjoenoknknoiaaDoor.Pr
open Go.RowKit Go.Proofs.YtgjoenoknknoiaaDoorW.PrintWords Go.Proofs.YtgjoenoknknoiaaDoorW.PrintLast Go.Proofs.YtgjoenoknknoiaaDoorW.PrintMore Go.Proofs.YtgjoenoknknoiaaDoor.X
attribute [local go_sem] max2_int min2_int max_two min_two max_three min_three max_four min_four   -- for this text's walks alone
set_option linter.unusedVariables false
set_option linter.unusedSimpArgs false
def spileref22_Shares.l0 : Nat → List (S35) → Int → Option (Int)
 | 0, _, _ => none
 | k + 1, x0, x3 => if x3 < (x0.length : Int) then (if 0 ≤ x3 then (if ((rd_T35 x0 x3).f0) < 1 then (some 10) else (if ((rd_T35 x0 x3).f0) > 1073741824 then (some 10) else (if ((rd_T35 x0 x3).f1) < 1 then (some 10) else (if ((rd_T35 x0 x3).f1) > 10737418240000 then (some 10) else (if x3 > 0 then (if 0 ≤ (wrap64 (x3 - 1)) then (if (wrap64 (x3 - 1)) < (x0.length : Int) then (if ((rd_T35 x0 x3).f0) ≤ ((rd_T35 x0 (wrap64 (x3 - 1))).f0) then (some 10) else (spileref22_Shares.l0 k x0 (wrap64 (x3 + 1)))) else (none)) else (none)) else (spileref22_Shares.l0 k x0 (wrap64 (x3 + 1)))))))) else (none)) else (some 0)
def spileref22_Shares.f (k : Nat) (l0 : List (S35)) : Option (Int) := if (l0.length : Int) > 32 then (some 12) else (spileref22_Shares.l0 k l0 0)
theorem spileref22_Shares.mono_l : ∀ k, (∀ y0 y1, LeO (spileref22_Shares.l0 k y0 y1) (spileref22_Shares.l0 (k + 1) y0 y1))
 | 0 => fun _ _ r h => by simp [spileref22_Shares.l0] at h
 | k + 1 => by
  have ih0 := spileref22_Shares.mono_l k
  ·
   intro y0 y1
   unfold spileref22_Shares.l0
   repeat' first
   | (with_reducible exact ih0 _ _)
   | (with_reducible exact LeO.refl _)
   | (with_reducible exact LeO.none _)
   | (with_reducible refine LeO.ite ?_ ?_)
   | (with_reducible refine LeO.bind ?_ (fun _ => ?_))
   | exact ih0 _ _
   | exact LeO.none _
   | refine LeO.ite ?_ ?_
   | refine LeO.bind ?_ (fun _ => ?_)
theorem spileref22_Shares.mono : ∀ a0 k, LeO (spileref22_Shares.f k a0) (spileref22_Shares.f (k + 1) a0) := by
 intro a0 k
 have ih0 := spileref22_Shares.mono_l k
 unfold spileref22_Shares.f
 repeat' first
   | (with_reducible exact ih0 _ _)
   | (with_reducible exact LeO.refl _)
   | (with_reducible exact LeO.none _)
   | (with_reducible refine LeO.ite ?_ ?_)
   | (with_reducible refine LeO.bind ?_ (fun _ => ?_))
   | exact ih0 _ _
   | exact LeO.none _
   | refine LeO.ite ?_ ?_
   | refine LeO.bind ?_ (fun _ => ?_)
def spileref22_Alcohol.l0 : Nat → List (S35) → Int → Int → Option (Int)
 | 0, _, _, _ => none
 | k + 1, x0, x3, x4 => if x4 < (x0.length : Int) then (if 0 ≤ x4 then (spileref22_Alcohol.l0 k x0 (wrap64 (x3 + ((rd_T35 x0 x4).f1))) (wrap64 (x4 + 1))) else (none)) else (some x3)
def spileref22_Alcohol.f (k : Nat) (l0 : List (S35)) : Option (Int) := spileref22_Alcohol.l0 k l0 0 0
theorem spileref22_Alcohol.mono_l : ∀ k, (∀ y0 y1 y2, LeO (spileref22_Alcohol.l0 k y0 y1 y2) (spileref22_Alcohol.l0 (k + 1) y0 y1 y2))
 | 0 => fun _ _ _ r h => by simp [spileref22_Alcohol.l0] at h
 | k + 1 => by
  have ih0 := spileref22_Alcohol.mono_l k
  ·
   intro y0 y1 y2
   unfold spileref22_Alcohol.l0
   repeat' first
   | (with_reducible exact ih0 _ _ _)
   | (with_reducible exact LeO.refl _)
   | (with_reducible exact LeO.none _)
   | (with_reducible refine LeO.ite ?_ ?_)
   | (with_reducible refine LeO.bind ?_ (fun _ => ?_))
   | exact ih0 _ _ _
   | exact LeO.none _
   | refine LeO.ite ?_ ?_
   | refine LeO.bind ?_ (fun _ => ?_)
theorem spileref22_Alcohol.mono : ∀ a0 k, LeO (spileref22_Alcohol.f k a0) (spileref22_Alcohol.f (k + 1) a0) := by
 intro a0 k
 have ih0 := spileref22_Alcohol.mono_l k
 unfold spileref22_Alcohol.f
 repeat' first
   | (with_reducible exact ih0 _ _ _)
   | (with_reducible exact LeO.refl _)
   | (with_reducible exact LeO.none _)
   | (with_reducible refine LeO.ite ?_ ?_)
   | (with_reducible refine LeO.bind ?_ (fun _ => ?_))
   | exact ih0 _ _ _
   | exact LeO.none _
   | refine LeO.ite ?_ ?_
   | refine LeO.bind ?_ (fun _ => ?_)
def spileref22_One.j0 : Nat → Bool → Int → Int → Int → List (S35) → Option (Int)
 | 0, _, _, _, _, _ => none
 | k + 1, x13, x163000, x163001, x163002, x163003 => if x13 = true then (some 1) else ((spileref22_Shares.f k x163003).bind fun t164 => (if t164 = 0 then ((spileref22_Alcohol.f k x163003).bind fun t165 => (if t165 = x163001 then (some 0) else (some 14))) else (some t164)))
def spileref22_One.f (k : Nat) (a0_0 : Int) (a0_1 : Int) (a0_2 : Int) (l0_3 : List (S35)) : Option (Int) := (spileref21_Plain.f a0_1 a0_2).bind fun t163 => (if t163 = true then (spileref22_One.j0 k (a0_2 == 0) a0_0 a0_1 a0_2 l0_3) else (spileref22_One.j0 k true a0_0 a0_1 a0_2 l0_3))
theorem spileref22_One.mono_l : ∀ k, (∀ y0 y1 y2 y3 y4, LeO (spileref22_One.j0 k y0 y1 y2 y3 y4) (spileref22_One.j0 (k + 1) y0 y1 y2 y3 y4))
 | 0 => fun _ _ _ _ _ r h => by simp [spileref22_One.j0] at h
 | k + 1 => by
  have ih0 := spileref22_One.mono_l k
  ·
   intro y0 y1 y2 y3 y4
   unfold spileref22_One.j0
   repeat' first
   | (with_reducible exact ih0 _ _ _ _ _)
   | (with_reducible exact spileref22_Alcohol.mono _ _)
   | (with_reducible exact spileref22_Shares.mono _ _)
   | (with_reducible exact LeO.refl _)
   | (with_reducible exact LeO.none _)
   | (with_reducible refine LeO.ite ?_ ?_)
   | (with_reducible refine LeO.bind ?_ (fun _ => ?_))
   | exact ih0 _ _ _ _ _
   | exact spileref22_Alcohol.mono _ _
   | exact spileref22_Shares.mono _ _
   | exact LeO.none _
   | refine LeO.ite ?_ ?_
   | refine LeO.bind ?_ (fun _ => ?_)
theorem spileref22_One.mono : ∀ a0 a1 a2 a3 k, LeO (spileref22_One.f k a0 a1 a2 a3) (spileref22_One.f (k + 1) a0 a1 a2 a3) := by
 intro a0 a1 a2 a3 k
 have ih0 := spileref22_One.mono_l k
 unfold spileref22_One.f
 repeat' first
   | (with_reducible exact ih0 _ _ _ _ _)
   | (with_reducible exact spileref22_Alcohol.mono _ _)
   | (with_reducible exact spileref22_Shares.mono _ _)
   | (with_reducible exact LeO.refl _)
   | (with_reducible exact LeO.none _)
   | (with_reducible refine LeO.ite ?_ ?_)
   | (with_reducible refine LeO.bind ?_ (fun _ => ?_))
   | exact ih0 _ _ _ _ _
   | exact spileref22_Alcohol.mono _ _
   | exact spileref22_Shares.mono _ _
   | exact LeO.none _
   | refine LeO.ite ?_ ?_
   | refine LeO.bind ?_ (fun _ => ?_)
end Go.Proofs.YtgjoenoknknoiaaDoor.Pr
namespace Go.Proofs.YtgjoenoknknoiaaDoor.Pr
open Go.RowKit Go.Proofs.YtgjoenoknknoiaaDoorW.PrintWords Go.Proofs.YtgjoenoknknoiaaDoorW.PrintLast Go.Proofs.YtgjoenoknknoiaaDoorW.PrintMore Go.Proofs.YtgjoenoknknoiaaDoor.X
attribute [local go_sem] max2_int min2_int max_two min_two max_three min_three max_four min_four   -- for this text's walks alone
set_option linter.unusedVariables false
set_option linter.unusedSimpArgs false
mutual
def spileref22_Check.l0 : Nat → List (S33) → Int → Option (Int × Int)
 | 0, _, _ => none
 | k + 1, x0, x4 => if x4 < (x0.length : Int) then (if 0 ≤ x4 then ((spileref22_ID.f ((rd_T33 x0 x4).f0)).bind fun t167 => (if t167 = true then (if x4 > 0 then (if 0 ≤ (wrap64 (x4 - 1)) then (if (wrap64 (x4 - 1)) < (x0.length : Int) then (spileref22_Check.j1 k x0 x4 (decide (((rd_T33 x0 x4).f0) ≤ ((rd_T33 x0 (wrap64 (x4 - 1))).f0)))) else (none)) else (none)) else (spileref22_Check.j1 k x0 x4 false)) else (some (x4, 2)))) else (none)) else (some ((-1), 0))
def spileref22_Check.j1 : Nat → List (S33) → Int → Bool → Option (Int × Int)
 | 0, _, _, _ => none
 | k + 1, x0, x4, x38 => if x38 = true then (some (x4, 5)) else (if 0 ≤ x4 then (if x4 < (x0.length : Int) then ((spileref22_One.f k ((rd_T33 x0 x4).f0) ((rd_T33 x0 x4).f1.f0) ((rd_T33 x0 x4).f1.f1) ((rd_T33 x0 x4).f2)).bind fun t171 => (if t171 = 0 then (spileref22_Check.l0 k x0 (wrap64 (x4 + 1))) else (some (x4, t171)))) else (none)) else (none))
end
def spileref22_Check.f (k : Nat) (l0 : List (S33)) : Option (Int × Int) := if (l0.length : Int) > 32 then (some ((-1), 8)) else (spileref22_Check.l0 k l0 0)
theorem spileref22_Check.mono_l : ∀ k, (∀ y0 y1, LeO (spileref22_Check.l0 k y0 y1) (spileref22_Check.l0 (k + 1) y0 y1)) ∧ (∀ y0 y1 y2, LeO (spileref22_Check.j1 k y0 y1 y2) (spileref22_Check.j1 (k + 1) y0 y1 y2))
 | 0 => ⟨fun _ _ r h => by simp [spileref22_Check.l0] at h, fun _ _ _ r h => by simp [spileref22_Check.j1] at h⟩
 | k + 1 => by
  obtain ⟨ih0, ih1⟩ := spileref22_Check.mono_l k
  refine ⟨?_, ?_⟩
  ·
   intro y0 y1
   unfold spileref22_Check.l0
   repeat' first
   | (with_reducible exact ih0 _ _)
   | (with_reducible exact ih1 _ _ _)
   | (with_reducible exact spileref22_One.mono _ _ _ _ _)
   | (with_reducible exact LeO.refl _)
   | (with_reducible exact LeO.none _)
   | (with_reducible refine LeO.ite ?_ ?_)
   | (with_reducible refine LeO.bind ?_ (fun _ => ?_))
   | exact ih0 _ _
   | exact ih1 _ _ _
   | exact spileref22_One.mono _ _ _ _ _
   | exact LeO.none _
   | refine LeO.ite ?_ ?_
   | refine LeO.bind ?_ (fun _ => ?_)
  ·
   intro y0 y1 y2
   unfold spileref22_Check.j1
   repeat' first
   | (with_reducible exact ih0 _ _)
   | (with_reducible exact ih1 _ _ _)
   | (with_reducible exact spileref22_One.mono _ _ _ _ _)
   | (with_reducible exact LeO.refl _)
   | (with_reducible exact LeO.none _)
   | (with_reducible refine LeO.ite ?_ ?_)
   | (with_reducible refine LeO.bind ?_ (fun _ => ?_))
   | exact ih0 _ _
   | exact ih1 _ _ _
   | exact spileref22_One.mono _ _ _ _ _
   | exact LeO.none _
   | refine LeO.ite ?_ ?_
   | refine LeO.bind ?_ (fun _ => ?_)
theorem spileref22_Check.mono : ∀ a0 k, LeO (spileref22_Check.f k a0) (spileref22_Check.f (k + 1) a0) := by
 intro a0 k
 obtain ⟨ih0, ih1⟩ := spileref22_Check.mono_l k
 unfold spileref22_Check.f
 repeat' first
   | (with_reducible exact ih0 _ _)
   | (with_reducible exact ih1 _ _ _)
   | (with_reducible exact spileref22_One.mono _ _ _ _ _)
   | (with_reducible exact LeO.refl _)
   | (with_reducible exact LeO.none _)
   | (with_reducible refine LeO.ite ?_ ?_)
   | (with_reducible refine LeO.bind ?_ (fun _ => ?_))
   | exact ih0 _ _
   | exact ih1 _ _ _
   | exact spileref22_One.mono _ _ _ _ _
   | exact LeO.none _
   | refine LeO.ite ?_ ?_
   | refine LeO.bind ?_ (fun _ => ?_)
def api_Share.f (l0 : List (S35)) : Option ((List (S35))) := if ([] : List (S35)).length + l0.length < 8796093022208 then (some (([] : List (S35)) ++ l0)) else (none)
set_option maxHeartbeats 8000000 in
set_option maxRecDepth 100000 in
theorem api_Share.calls (A0 : Option Addr) (c0 : Nat) (l0 : List (S35)) (r : List (S35)) (w : World) (hr0 : Kd.C k35 w A0 l0.length l0) (hc0 : l0.length ≤ c0) (h : api_Share.f l0 = some r) :
  Calls Tryd.prog 61 #[.slice A0 l0.length c0] w fun e w' => ∃ v0_ : Value, e = .returned (v0_) ∧ Kd.R k35 35 w' w.heap.size (fun _ => True) v0_ r ∧ Below w.heap.size w w' := by
 have HR0 := Aside0.mk hr0
 have HC0 := Aside0.mk hc0
 clear hr0 hc0
 have HB := Aside0.mk (Below.refl w.heap.size w)
 have H : (if ([] : List (S35)).length + l0.length < 8796093022208 then (some (([] : List (S35)) ++ l0)) else (none)) = some r := h
 clear h
 by_cases c2 : ([] : List (S35)).length + l0.length < 8796093022208
 ·
  rw [if_pos c2] at H
  have LMc2 := Aside0.mk c2
  clear c2
  obtain ⟨y172, hy172⟩ : ∃ y_ : List (S35), y_ = (([] : List (S35)) ++ l0) := ⟨_, rfl⟩
  replace H : (some y172) = some r := by first | (rw [hy172]; with_reducible exact H) | (have H2_ := (Option.bind_some _ _).symm.trans H; rw [hy172]; with_reducible exact H2_) | (have H2_ := (Option.bind_some _ _).symm.trans H; with_reducible exact H2_) | with_reducible exact H | (rw [hy172]; exact H) | exact H
  have Ny172 := Aside0.mk hy172
  clear hy172
  obtain rfl := Option.some.inj H
  go_enter Tryd.func61, Tryd.ntmps61
  go_wp2_with (first | ((with_reducible refine gate_builtin (b := .append) (xs := #[.const (.slice none 0 0), .tmp 3]) rfl ?_); at_builtin; refine Kd.R_append_rows k35 (w0 := w) w.heap.size rfl (.const (.slice none 0 0)) (.tmp 3) 31 35 (.agg #[(.int .i64 0), (.int .i64 0)]) 16 rfl Tryd.underlying31 info35 rfl (by decide) (by omega) (.slice none 0 0) ([] : List (S35)) l0 _ _ _ (fun _ => True) (fun _ => False) rfl rfl ?aO ?aR (fun _ _ h => h) (fun _ h => h.elim) ?aF ?aB ?aS ?aL ?_; (case aR => repeat (first | exact HR0.out | (with_reducible refine Kd.C_alloc ?_ _) | (with_reducible refine Kd.C_drewN ?_ _) | (with_reducible refine Kd.C_drew ?_))); (case aB => exact (by repeat (first | (with_reducible first | exact HB.out | apply below_alloc | apply pw_below_drewN | apply below_drew1) | exact HB.out))); (case aF => exact (fun _ _ => trivial)); (case aO => exact ((Kd.R_nil _ _ _ _ (fun _ => True)))); (case aS => exact (below_size (by repeat (first | (with_reducible first | exact HB.out | apply below_alloc | apply pw_below_drewN | apply below_drew1) | exact HB.out)))); (case aL => have := LMc2.out; omega); intro v173 w3 ho hb hg hat; rw [← Ny172.out] at ho; have n0_ := Aside0.mk (hb); have n1_ := Aside0.mk (ho); clear HB; have HB := n0_; have HO174 := n1_; clear n0_ n1_; clear ho hb hg hat))
  go_ret
  exact ⟨_, by first | rfl | (simp [errW_none, errW_some] <;> rfl) | (simp [*, errW_none, errW_some] <;> rfl), by (with_reducible repeat (first | apply Kd.R_alloc | apply Kd.R_drewN | apply Kd.R_drew)); exact HO174.out, by repeat (first | (with_reducible first | exact HB.out | apply below_alloc | apply pw_below_drewN | apply below_drew1) | exact HB.out)⟩
 ·
  rw [if_neg c2] at H
  exact absurd H (by simp)
def lot_own.f (a0_0 : Int) (a0_1 : Int) (a0_2 : Int) (l0_3 : List (S35)) : Option (Int × Int × Int × (List (S35))) := (api_Share.f l0_3).bind fun t177 => (some (a0_0, a0_1, a0_2, t177))
set_option maxHeartbeats 8000000 in
set_option maxRecDepth 100000 in
theorem lot_own.calls (a0_0 : Int) (a0_1 : Int) (a0_2 : Int) (A0_3 : Option Addr) (c0_3 : Nat) (l0_3 : List (S35)) (r1 : Int) (r2 : Int) (r3 : Int) (r4 : List (S35)) (w : World) (hr0_3 : Kd.C k35 w A0_3 l0_3.length l0_3) (hc0_3 : l0_3.length ≤ c0_3) (h : lot_own.f a0_0 a0_1 a0_2 l0_3 = some (r1, r2, r3, r4)) :
  Calls Tryd.prog 39 #[.agg #[.int .i64 a0_0, .int .i64 a0_1, .int .i64 a0_2, .slice A0_3 l0_3.length c0_3]] w fun e w' => ∃ v3_ : Value, e = .returned (.agg #[.int .i64 r1, .int .i64 r2, .int .i64 r3, v3_]) ∧ Kd.R k35 35 w' w.heap.size (fun _ => True) v3_ r4 ∧ Below w.heap.size w w' := by
 have hu33 := Tryd.underlying33
 have HR0_3 := Aside0.mk hr0_3
 have HC0_3 := Aside0.mk hc0_3
 clear hr0_3 hc0_3
 have HB := Aside0.mk (Below.refl w.heap.size w)
 have H : ((api_Share.f l0_3).bind fun t177 => (some (a0_0, a0_1, a0_2, t177))) = some (r1, r2, r3, r4) := h
 clear h
 replace H := Option.bind_eq_some_iff.mp H
 obtain ⟨t177, A20, H⟩ := H
 replace H : (some (a0_0, a0_1, a0_2, t177)) = some (r1, r2, r3, r4) := H
 have A2 := Aside0.mk A20
 clear A20
 simp only [Option.some.injEq, Prod.mk.injEq] at H
 obtain ⟨rfl, rfl, rfl, rfl⟩ := H
 go_enter Tryd.func39, Tryd.ntmps39
 go_wp2_with (first | ((with_reducible refine gate_dst (N := 1) rfl ?_); refine box_event ?hg (N := 1) ?hd (cs := #[.int .i64 a0_0, .int .i64 a0_1, .int .i64 a0_2, .slice A0_3 l0_3.length c0_3]) (t := 33) ?hr ?_; (case hd => rfl); (case hg => rfl); (case hr => first | (go_simp; done) | (go_simp; rfl)); intro gb175 hg w3 hbox hb; have n0_ := Aside0.mk (below_step (by repeat (first | (with_reducible first | exact HB.out | apply below_alloc | apply pw_below_drewN | apply below_drew1) | exact HB.out)) hb); have n1_ := Aside0.mk (hbox); have n2_ := Aside0.mk ((by rw [hg]; exact (below_size (by repeat (first | (with_reducible first | exact HB.out | apply below_alloc | apply pw_below_drewN | apply below_drew1) | exact HB.out))) : w.heap.size ≤ gb175)); have n3_ := Aside0.mk ((by rw [hg]; exact (below_size (by repeat (first | (with_reducible first | exact HB.out | apply below_alloc | apply pw_below_drewN | apply below_drew1) | exact HB.out))) : w.heap.size ≤ gb175)); clear HB; have HB := n0_; have BK175 := n1_; have GW175 := n2_; have GE175 := n3_; clear n0_ n1_ n2_ n3_; clear hb hbox hg) | ((with_reducible refine gate_dst (N := 2) rfl ?_); refine box_event ?hg (N := 2) ?hd (cs := #[.int .i64 0, .int .i64 0, .int .i64 0, .slice none 0 0]) (t := 33) ?hr ?_; (case hd => rfl); (case hg => rfl); (case hr => first | (go_simp; done) | (go_simp; rfl)); intro gb176 hg w4 hbox hb; have n0_ := Aside0.mk (blk_below (g := gb175) (o := .cells #[.int .i64 a0_0, .int .i64 a0_1, .int .i64 a0_2, .slice A0_3 l0_3.length c0_3] 33 (0, 0)) (by (with_reducible repeat (first | refine blk_drewN ?_ _ | refine blk_drew ?_ | refine blk_alloc ?_ _)); exact BK175.out) hb); have n1_ := Aside0.mk (below_step (by repeat (first | (with_reducible first | exact HB.out | apply below_alloc | apply pw_below_drewN | apply below_drew1 | refine below_set ?_ GE175.out) | exact HB.out)) hb); have n2_ := Aside0.mk (hbox); have n3_ := Aside0.mk ((by rw [hg]; exact (below_size (by repeat (first | (with_reducible first | exact HB.out | apply below_alloc | apply pw_below_drewN | apply below_drew1 | refine below_set ?_ GE175.out) | exact HB.out))) : w.heap.size ≤ gb176)); have n4_ := Aside0.mk ((by rw [hg]; exact (below_size (by repeat (first | (with_reducible first | exact HB.out | apply below_alloc | apply pw_below_drewN | apply below_drew1 | refine below_set ?_ GE175.out) | exact HB.out))) : w.heap.size ≤ gb176)); have n5_ := Aside0.mk ((by rw [hg]; exact Nat.ne_of_lt (blk_lt (g := gb175) (o := .cells #[.int .i64 a0_0, .int .i64 a0_1, .int .i64 a0_2, .slice A0_3 l0_3.length c0_3] 33 (0, 0)) (by (with_reducible repeat (first | refine blk_drewN ?_ _ | refine blk_drew ?_ | refine blk_alloc ?_ _)); exact BK175.out)) : gb175 ≠ gb176)); have n6_ := Aside0.mk ((by rw [hg]; exact Nat.ne_of_gt (blk_lt (g := gb175) (o := .cells #[.int .i64 a0_0, .int .i64 a0_1, .int .i64 a0_2, .slice A0_3 l0_3.length c0_3] 33 (0, 0)) (by (with_reducible repeat (first | refine blk_drewN ?_ _ | refine blk_drew ?_ | refine blk_alloc ?_ _)); exact BK175.out)) : gb176 ≠ gb175)); clear BK175; clear HB; have BK175 := n0_; have HB := n1_; have BK176 := n2_; have GW176 := n3_; have GE176 := n4_; have NB175_176 := n5_; have NB176_175 := n6_; clear n0_ n1_ n2_ n3_ n4_ n5_ n6_; clear hb hbox hg; have hnb5 := NB175_176.out; have hnc5 := NB176_175.out; have hcz6_0 : w4.cell? ⟨gb175, 0, none⟩ = some (.int .i64 a0_0) := (blk_cell BK175.out 0).trans rfl; have hcz6_1 : w4.cell? ⟨gb175, 1, none⟩ = some (.int .i64 a0_1) := (blk_cell BK175.out 1).trans rfl; have hcz6_2 : w4.cell? ⟨gb175, 2, none⟩ = some (.int .i64 a0_2) := (blk_cell BK175.out 2).trans rfl; have hcz6_3 : w4.cell? ⟨gb175, 3, none⟩ = some (.slice A0_3 l0_3.length c0_3) := (blk_cell BK175.out 3).trans rfl; have hfz6_0 := blk_frozen BK175.out 0; have hfz6_1 := blk_frozen BK175.out 1; have hfz6_2 := blk_frozen BK175.out 2; have hfz6_3 := blk_frozen BK175.out 3) | ((with_reducible refine gate_callee (f := 61) rfl ?_); refine goesL_ (some 5) rfl rfl Tryd.func61 (by kernel_rfl) rfl #[.slice A0_3 l0_3.length c0_3] rfl (by (try simp only [List.map_toArray, List.map_cons, List.map_nil]); first | done | rfl | (simp only [List.length_drop, List.length_take]; rfl)) ?_; (with_reducible refine (api_Share.calls _ _ l0_3 t177 _ ?side1 ?side2 A2.out).mono ?_); (case side1 => repeat (first | exact (Kd.C_below HR0_3.out HB.out) | (with_reducible refine Kd.C_alloc ?_ _) | (with_reducible refine Kd.C_drewN ?_ _) | (with_reducible refine Kd.C_drew ?_))); (case side2 => exact HC0_3.out); rintro e w7 ⟨v178, rfl, ho0, hb⟩; refine ⟨_, rfl, ?_⟩; have n0_ := Aside0.mk (Kd.R_lower ho0 (below_size (by repeat (first | (with_reducible first | exact HB.out | apply below_alloc | apply pw_below_drewN | apply below_drew1 | refine below_set ?_ GE175.out | refine below_set ?_ GE176.out) | exact HB.out)))); have n1_ := Aside0.mk (blk_below (g := gb175) (o := .cells #[.int .i64 a0_0, .int .i64 a0_1, .int .i64 a0_2, .slice A0_3 l0_3.length c0_3] 33 (0, 0)) (by (with_reducible repeat (first | refine blk_drewN ?_ _ | refine blk_drew ?_ | refine blk_alloc ?_ _)); exact BK175.out) hb); have n2_ := Aside0.mk (blk_below (g := gb176) (o := .cells #[.int .i64 0, .int .i64 0, .int .i64 0, .slice none 0 0] 33 (0, 0)) (by (with_reducible repeat (first | refine blk_drewN ?_ _ | refine blk_drew ?_ | refine blk_alloc ?_ _)); exact BK176.out) hb); have n3_ := Aside0.mk (below_step (by repeat (first | (with_reducible first | exact HB.out | apply below_alloc | apply pw_below_drewN | apply below_drew1 | refine below_set ?_ GE175.out | refine below_set ?_ GE176.out) | exact HB.out)) hb); clear BK175; clear BK176; clear HB; have HO179 := n0_; have BK175 := n1_; have BK176 := n2_; have HB := n3_; clear n0_ n1_ n2_ n3_; (try clear hb); (try clear hb2); (try clear hk); (try clear hi); (try clear ho0); obtain ⟨Ao8, co8, eo8⟩ := Kd.R_slice HO179.out; subst eo8; have hcz9_0 : w7.cell? ⟨gb175, 0, none⟩ = some (.int .i64 a0_0) := (blk_cell BK175.out 0).trans rfl; have hcz9_1 : w7.cell? ⟨gb175, 1, none⟩ = some (.int .i64 a0_1) := (blk_cell BK175.out 1).trans rfl; have hcz9_2 : w7.cell? ⟨gb175, 2, none⟩ = some (.int .i64 a0_2) := (blk_cell BK175.out 2).trans rfl; have hcz9_3 : w7.cell? ⟨gb175, 3, none⟩ = some (.slice A0_3 l0_3.length c0_3) := (blk_cell BK175.out 3).trans rfl; have hfz9_0 := blk_frozen BK175.out 0; have hfz9_1 := blk_frozen BK175.out 1; have hfz9_2 := blk_frozen BK175.out 2; have hfz9_3 := blk_frozen BK175.out 3; have hcz10_0 : w7.cell? ⟨gb176, 0, none⟩ = some (.int .i64 0) := (blk_cell BK176.out 0).trans rfl; have hcz10_1 : w7.cell? ⟨gb176, 1, none⟩ = some (.int .i64 0) := (blk_cell BK176.out 1).trans rfl; have hcz10_2 : w7.cell? ⟨gb176, 2, none⟩ = some (.int .i64 0) := (blk_cell BK176.out 2).trans rfl; have hcz10_3 : w7.cell? ⟨gb176, 3, none⟩ = some (.slice none 0 0) := (blk_cell BK176.out 3).trans rfl; have hfz10_0 := blk_frozen BK176.out 0; have hfz10_1 := blk_frozen BK176.out 1; have hfz10_2 := blk_frozen BK176.out 2; have hfz10_3 := blk_frozen BK176.out 3))
 refine bodyPost_ret (results_cell_row rfl _ _ gb176 33 #[.int .i64 a0_0, .int .i64 a0_1, .int .i64 a0_2, .slice Ao8 t177.length co8] (0, 0) _ rfl (by (with_reducible repeat (first | refine blk_drewN ?_ _ | refine blk_drew ?_ | refine blk_alloc ?_ _)); refine blk_put (cs := #[.int .i64 a0_0, .int .i64 a0_1, .int .i64 a0_2, .slice none 0 0]) ?_ 3 _ rfl; (with_reducible repeat (first | refine blk_drewN ?_ _ | refine blk_drew ?_ | refine blk_alloc ?_ _)); refine blk_put (cs := #[.int .i64 a0_0, .int .i64 a0_1, .int .i64 0, .slice none 0 0]) ?_ 2 _ rfl; (with_reducible repeat (first | refine blk_drewN ?_ _ | refine blk_drew ?_ | refine blk_alloc ?_ _)); refine blk_put (cs := #[.int .i64 a0_0, .int .i64 0, .int .i64 0, .slice none 0 0]) ?_ 1 _ rfl; (with_reducible repeat (first | refine blk_drewN ?_ _ | refine blk_drew ?_ | refine blk_alloc ?_ _)); refine blk_put (cs := #[.int .i64 0, .int .i64 0, .int .i64 0, .slice none 0 0]) ?_ 0 _ rfl; (with_reducible repeat (first | refine blk_drewN ?_ _ | refine blk_drew ?_ | refine blk_alloc ?_ _)); refine blk_far ?_ NB176_175.out _; (with_reducible repeat (first | refine blk_drewN ?_ _ | refine blk_drew ?_ | refine blk_alloc ?_ _)); exact BK176.out) Tryd.underlying33 rfl (by kernel_rfl)) rfl ?_
 exact ⟨_, by first | rfl | (simp [errW_none, errW_some] <;> rfl) | (simp [*, errW_none, errW_some] <;> rfl), by (with_reducible repeat (first | apply Kd.R_alloc | apply Kd.R_drewN | apply Kd.R_drew)); exact Kd.R_mono (Kd.R_far (p := ⟨gb176, 3, none⟩) (Kd.R_far (p := ⟨gb176, 2, none⟩) (Kd.R_far (p := ⟨gb176, 1, none⟩) (Kd.R_far (p := ⟨gb176, 0, none⟩) (Kd.R_far (p := ⟨gb175, 3, none⟩) (Kd.R_types (Kd.R_types HO179.out BK175.out (by decide)) BK176.out (by decide)) (fun _ hk => hk.1.2) (.slice Ao8 t177.length co8)) (fun _ hk => hk.2) (.int .i64 a0_0)) (fun _ hk => hk.2) (.int .i64 a0_1)) (fun _ hk => hk.2) (.int .i64 a0_2)) (fun _ hk => hk.2) (.slice Ao8 t177.length co8)) (fun _ hk => trivial), by repeat (first | (with_reducible first | exact HB.out | apply below_alloc | apply pw_below_drewN | apply below_drew1 | refine below_set ?_ GE175.out | refine below_set ?_ GE176.out) | exact HB.out)⟩
def lot_Find.l0 : Nat → Int → List (S33) → Int → Int → Option (Int × Int × Int × (List (S35)) × Bool)
 | 0, _, _, _, _ => none
 | k + 1, x1, x8, x9, x10 => if x10 < x9 then (if 0 ≤ x10 then (if x10 < (x8.length : Int) then (if ((rd_T33 x8 x10).f0) = x1 then ((lot_own.f ((rd_T33 x8 x10).f0) ((rd_T33 x8 x10).f1.f0) ((rd_T33 x8 x10).f1.f1) ((rd_T33 x8 x10).f2)).bind fun bt183 => (some (bt183.1, bt183.2.1, bt183.2.2.1, bt183.2.2.2, true))) else (lot_Find.l0 k x1 x8 x9 (wrap64 (x10 + 1)))) else (none)) else (none)) else (some (0, 0, 0, ([] : List (S35)), false))
def lot_Find.f (k : Nat) (l0 : List (S33)) (a1 : Int) : Option (Int × Int × Int × (List (S35)) × Bool) := lot_Find.l0 k a1 l0 (l0.length : Int) 0
theorem lot_Find.mono_l : ∀ k, (∀ y0 y1 y2 y3, LeO (lot_Find.l0 k y0 y1 y2 y3) (lot_Find.l0 (k + 1) y0 y1 y2 y3))
 | 0 => fun _ _ _ _ r h => by simp [lot_Find.l0] at h
 | k + 1 => by
  have ih0 := lot_Find.mono_l k
  ·
   intro y0 y1 y2 y3
   unfold lot_Find.l0
   repeat' first
   | (with_reducible exact ih0 _ _ _ _)
   | (with_reducible exact LeO.refl _)
   | (with_reducible exact LeO.none _)
   | (with_reducible refine LeO.ite ?_ ?_)
   | (with_reducible refine LeO.bind ?_ (fun _ => ?_))
   | exact ih0 _ _ _ _
   | exact LeO.none _
   | refine LeO.ite ?_ ?_
   | refine LeO.bind ?_ (fun _ => ?_)
theorem lot_Find.mono : ∀ a0 a1 k, LeO (lot_Find.f k a0 a1) (lot_Find.f (k + 1) a0 a1) := by
 intro a0 a1 k
 have ih0 := lot_Find.mono_l k
 unfold lot_Find.f
 repeat' first
   | (with_reducible exact ih0 _ _ _ _)
   | (with_reducible exact LeO.refl _)
   | (with_reducible exact LeO.none _)
   | (with_reducible refine LeO.ite ?_ ?_)
   | (with_reducible refine LeO.bind ?_ (fun _ => ?_))
   | exact ih0 _ _ _ _
   | exact LeO.none _
   | refine LeO.ite ?_ ?_
   | refine LeO.bind ?_ (fun _ => ?_)
set_option maxHeartbeats 8000000 in
set_option maxRecDepth 100000 in
theorem lot_Find.calls (k : Nat) (A0 : Option Addr) (c0 : Nat) (l0 : List (S33)) (a1 : Int) (r1 : Int) (r2 : Int) (r3 : Int) (r4 : List (S35)) (r5 : Bool) (w : World) (hr0 : Kd.C k33 w A0 l0.length l0) (hc0 : l0.length ≤ c0) (h : lot_Find.f k l0 a1 = some (r1, r2, r3, r4, r5)) :
  Calls Tryd.prog 16 #[.slice A0 l0.length c0, .int .i64 a1] w fun e w' => ∃ v3_ : Value, e = .returned (.tuple #[.agg #[.int .i64 r1, .int .i64 r2, .int .i64 r3, v3_], .bool r5]) ∧ Kd.R k35 35 w' w.heap.size (fun _ => True) v3_ r4 ∧ Below w.heap.size w w' := by
 have hu33 := Tryd.underlying33
 have HR0 := Aside0.mk hr0
 have HC0 := Aside0.mk hc0
 clear hr0 hc0
 have HB := Aside0.mk (Below.refl w.heap.size w)
 have H : (lot_Find.l0 k a1 l0 (l0.length : Int) 0) = some (r1, r2, r3, r4, r5) := h
 clear h
 have H' := Aside0.mk H
 clear H
 go_enter Tryd.func16, Tryd.ntmps16
 go_wp2_with (first | ((with_reducible refine gate_dst (N := 4) rfl ?_); refine box_event ?hg (N := 4) ?hd (cs := #[.int .i64 0, .int .i64 0, .int .i64 0, .slice none 0 0]) (t := 33) ?hr ?_; (case hd => rfl); (case hg => rfl); (case hr => first | (go_simp; done) | (go_simp; rfl)); intro gb180 hg w3 hbox hb; have n0_ := Aside0.mk (below_step (by repeat (first | (with_reducible first | exact HB.out | apply below_alloc | apply pw_below_drewN | apply below_drew1) | exact HB.out)) hb); have n1_ := Aside0.mk (hbox); have n2_ := Aside0.mk ((by rw [hg]; exact (below_size (by repeat (first | (with_reducible first | exact HB.out | apply below_alloc | apply pw_below_drewN | apply below_drew1) | exact HB.out))) : w.heap.size ≤ gb180)); have n3_ := Aside0.mk ((by rw [hg]; exact (below_size (by repeat (first | (with_reducible first | exact HB.out | apply below_alloc | apply pw_below_drewN | apply below_drew1) | exact HB.out))) : w.heap.size ≤ gb180)); clear HB; have HB := n0_; have BK180 := n1_; have GW180 := n2_; have GE180 := n3_; clear n0_ n1_ n2_ n3_; clear hb hbox hg))
 go_loopg [10] k (fun kq v10 w' => ∃ (x10_1 : Int) (x181000_1 : Int) (x181001_1 : Int) (x181002_1 : Int), v10 = .int .i64 x10_1 ∧ Aside0 (lot_Find.l0 kq a1 l0 (l0.length : Int) x10_1 = some (r1, r2, r3, r4, r5)) ∧ Aside0 (kq ≤ k) ∧ Aside0 (w'.heap[gb180]? = some (.cells #[.int .i64 x181000_1, .int .i64 x181001_1, .int .i64 x181002_1, (.slice none 0 0)] 33 (0, 0))) ∧ Aside0 (Below w.heap.size w w'))
 case atStart => exact ⟨(0), (0), (0), (0), (by first | rfl | (simp; done) | (simp [*]; done)), H', ⟨Nat.le_refl _⟩, ⟨by (with_reducible repeat (first | refine blk_drewN ?_ _ | refine blk_drew ?_ | refine blk_alloc ?_ _)); exact BK180.out⟩, ⟨by repeat (first | (with_reducible first | exact HB.out | apply below_alloc | apply pw_below_drewN | apply below_drew1 | refine below_set ?_ GE180.out) | exact HB.out)⟩⟩
 case round =>
  clear H'
  try clear c1
  try clear p2
  obtain ⟨x10_1, x181000_1, x181001_1, x181002_1, rfl, HA, HK1, BK180, HB⟩ := hrel
  cases gk with
  | zero => exact absurd HA.out (by simp [lot_Find.l0])
  | succ k1 =>
   have H := HA.out
   clear HA
   simp only [lot_Find.l0] at H
   by_cases c4 : x10_1 < (l0.length : Int)
   ·
    rw [if_pos c4] at H
    have c4b0 : decide (x10_1 < (l0.length : Int)) = true := decide_eq_true c4
    clear c4
    by_cases c5 : 0 ≤ x10_1
    ·
     rw [if_pos c5] at H
     have c5b0 : decide (0 ≤ x10_1) = true := decide_eq_true c5
     clear c5
     by_cases c6 : x10_1 < (l0.length : Int)
     ·
      rw [if_pos c6] at H
      have c6b0 : decide (x10_1 < (l0.length : Int)) = true := decide_eq_true c6
      clear c6
      by_cases c7 : ((rd_T33 l0 x10_1).f0) = a1
      ·
       rw [if_pos c7] at H
       have c7b0 : (((rd_T33 l0 x10_1).f0) == a1) = true := beq_iff_eq.mpr c7
       have c7b1 : (((rd_T33 l0 x10_1).f0) != a1) = false := bne_eq_false_iff_eq.mpr c7
       clear c7
       replace H := Option.bind_eq_some_iff.mp H
       obtain ⟨⟨t183, t184, t185, t186⟩, A80, H⟩ := H
       replace H : (some (t183, t184, t185, t186, true)) = some (r1, r2, r3, r4, r5) := H
       have A8 := Aside0.mk A80
       clear A80
       simp only [Option.some.injEq, Prod.mk.injEq] at H
       obtain ⟨rfl, rfl, rfl, rfl, rfl⟩ := H
       have p181 : 0 ≤ (x10_1 : Int) := of_decide_eq_true (by first | (with_reducible assumption) | assumption)
       have q181 : x10_1 < (l0.length : Int) := of_decide_eq_true (by first | (with_reducible assumption) | assumption)
       obtain ⟨ad181, A181_3, c181_3, e181, hx181_0, hx181_1, hx181_2, hx181_3, hl181_3, hi181_3⟩ := at_T33 HR0.out x10_1 p181 q181
       cases e181
       replace hx181_0 := (HB.out.cell (World.block_lt_of_cell? w _ hx181_0)).trans hx181_0
       replace hx181_1 := (HB.out.cell (World.block_lt_of_cell? w _ hx181_1)).trans hx181_1
       replace hx181_2 := (HB.out.cell (World.block_lt_of_cell? w _ hx181_2)).trans hx181_2
       replace hx181_3 := (HB.out.cell (World.block_lt_of_cell? w _ hx181_3)).trans hx181_3
       have HR181_3 := Aside0.mk hi181_3
       have HC181_3 := Aside0.mk hl181_3
       clear hi181_3 hl181_3
       replace p181 := eq_true p181
       replace q181 := eq_true q181
       go_wp2_with (first | ((with_reducible refine gate_dst (N := 7) rfl ?_); refine box_event ?hg (N := 7) ?hd (cs := #[.int .i64 0, .int .i64 0, .int .i64 0, .slice none 0 0]) (t := 33) ?hr ?_; (case hd => rfl); (case hg => rfl); (case hr => first | (go_simp; done) | (go_simp; rfl)); intro gb182 hg w9 hbox hb; have n0_ := Aside0.mk (blk_below (g := gb180) (o := .cells #[.int .i64 x181000_1, .int .i64 x181001_1, .int .i64 x181002_1, .slice none 0 0] 33 (0, 0)) (by (with_reducible repeat (first | refine blk_drewN ?_ _ | refine blk_drew ?_ | refine blk_alloc ?_ _)); exact BK180.out) hb); have n1_ := Aside0.mk (below_step (by repeat (first | (with_reducible first | exact HB.out | apply below_alloc | apply pw_below_drewN | apply below_drew1 | refine below_set ?_ GE180.out) | exact HB.out)) hb); have n2_ := Aside0.mk (hbox); have n3_ := Aside0.mk ((by rw [hg]; exact (below_size (by repeat (first | (with_reducible first | exact HB.out | apply below_alloc | apply pw_below_drewN | apply below_drew1 | refine below_set ?_ GE180.out) | exact HB.out))) : w.heap.size ≤ gb182)); have n4_ := Aside0.mk ((by rw [hg]; exact (below_size (by repeat (first | (with_reducible first | exact HB.out | apply below_alloc | apply pw_below_drewN | apply below_drew1 | refine below_set ?_ GE180.out) | exact HB.out))) : w.heap.size ≤ gb182)); have n5_ := Aside0.mk ((by rw [hg]; exact Nat.ne_of_lt (blk_lt (g := gb180) (o := .cells #[.int .i64 x181000_1, .int .i64 x181001_1, .int .i64 x181002_1, .slice none 0 0] 33 (0, 0)) (by (with_reducible repeat (first | refine blk_drewN ?_ _ | refine blk_drew ?_ | refine blk_alloc ?_ _)); exact BK180.out)) : gb180 ≠ gb182)); have n6_ := Aside0.mk ((by rw [hg]; exact Nat.ne_of_gt (blk_lt (g := gb180) (o := .cells #[.int .i64 x181000_1, .int .i64 x181001_1, .int .i64 x181002_1, .slice none 0 0] 33 (0, 0)) (by (with_reducible repeat (first | refine blk_drewN ?_ _ | refine blk_drew ?_ | refine blk_alloc ?_ _)); exact BK180.out)) : gb182 ≠ gb180)); clear BK180; clear HB; have BK180 := n0_; have HB := n1_; have BK182 := n2_; have GW182 := n3_; have GE182 := n4_; have NB180_182 := n5_; have NB182_180 := n6_; clear n0_ n1_ n2_ n3_ n4_ n5_ n6_; clear hb hbox hg; have hnb10 := NB182_180.out; have hnc10 := NB180_182.out; have hcz11_0 : w9.cell? ⟨gb182, 0, none⟩ = some (.int .i64 0) := (blk_cell BK182.out 0).trans rfl; have hcz11_1 : w9.cell? ⟨gb182, 1, none⟩ = some (.int .i64 0) := (blk_cell BK182.out 1).trans rfl; have hcz11_2 : w9.cell? ⟨gb182, 2, none⟩ = some (.int .i64 0) := (blk_cell BK182.out 2).trans rfl; have hcz11_3 : w9.cell? ⟨gb182, 3, none⟩ = some (.slice none 0 0) := (blk_cell BK182.out 3).trans rfl; have hfz11_0 := blk_frozen BK182.out 0; have hfz11_1 := blk_frozen BK182.out 1; have hfz11_2 := blk_frozen BK182.out 2; have hfz11_3 := blk_frozen BK182.out 3) | ((with_reducible refine gate_callee (f := 39) rfl ?_); refine goesL_ (some 19) rfl rfl Tryd.func39 (by kernel_rfl) rfl #[.agg #[.int .i64 ((rd_T33 l0 x10_1).f0), .int .i64 ((rd_T33 l0 x10_1).f1.f0), .int .i64 ((rd_T33 l0 x10_1).f1.f1), .slice A181_3 ((rd_T33 l0 x10_1).f2).length c181_3]] rfl (by (try simp only [List.map_toArray, List.map_cons, List.map_nil]); first | done | rfl | (simp only [List.length_drop, List.length_take]; rfl)) ?_; (with_reducible refine (lot_own.calls ((rd_T33 l0 x10_1).f0) ((rd_T33 l0 x10_1).f1.f0) ((rd_T33 l0 x10_1).f1.f1) _ _ ((rd_T33 l0 x10_1).f2) t183 t184 t185 t186 _ ?side1 ?side2 A8.out).mono ?_); (case side1 => exact Kd.C_below HR181_3.out (by repeat (first | (with_reducible first | exact HB.out | apply below_alloc | apply pw_below_drewN | apply below_drew1 | refine below_set ?_ GE180.out | refine below_set ?_ GE182.out) | exact HB.out))); (case side2 => exact HC181_3.out); rintro e w12 ⟨v187, rfl, ho0, hb⟩; refine ⟨_, rfl, ?_⟩; have n0_ := Aside0.mk (Kd.R_lower ho0 (below_size (by repeat (first | (with_reducible first | exact HB.out | apply below_alloc | apply pw_below_drewN | apply below_drew1 | refine below_set ?_ GE180.out | refine below_set ?_ GE182.out) | exact HB.out)))); have n1_ := Aside0.mk (blk_below (g := gb180) (o := .cells #[.int .i64 x181000_1, .int .i64 x181001_1, .int .i64 x181002_1, .slice none 0 0] 33 (0, 0)) (by (with_reducible repeat (first | refine blk_drewN ?_ _ | refine blk_drew ?_ | refine blk_alloc ?_ _)); refine blk_far ?_ NB180_182.out _; (with_reducible repeat (first | refine blk_drewN ?_ _ | refine blk_drew ?_ | refine blk_alloc ?_ _)); refine blk_far ?_ NB180_182.out _; (with_reducible repeat (first | refine blk_drewN ?_ _ | refine blk_drew ?_ | refine blk_alloc ?_ _)); refine blk_far ?_ NB180_182.out _; (with_reducible repeat (first | refine blk_drewN ?_ _ | refine blk_drew ?_ | refine blk_alloc ?_ _)); refine blk_far ?_ NB180_182.out _; (with_reducible repeat (first | refine blk_drewN ?_ _ | refine blk_drew ?_ | refine blk_alloc ?_ _)); exact BK180.out) hb); have n2_ := Aside0.mk (blk_below (g := gb182) (o := .cells #[.int .i64 ((rd_T33 l0 x10_1).f0), .int .i64 ((rd_T33 l0 x10_1).f1.f0), .int .i64 ((rd_T33 l0 x10_1).f1.f1), .slice A181_3 ((rd_T33 l0 x10_1).f2).length c181_3] 33 (0, 0)) (by (with_reducible repeat (first | refine blk_drewN ?_ _ | refine blk_drew ?_ | refine blk_alloc ?_ _)); refine blk_put (cs := #[.int .i64 ((rd_T33 l0 x10_1).f0), .int .i64 ((rd_T33 l0 x10_1).f1.f0), .int .i64 ((rd_T33 l0 x10_1).f1.f1), .slice none 0 0]) ?_ 3 _ rfl; (with_reducible repeat (first | refine blk_drewN ?_ _ | refine blk_drew ?_ | refine blk_alloc ?_ _)); refine blk_put (cs := #[.int .i64 ((rd_T33 l0 x10_1).f0), .int .i64 ((rd_T33 l0 x10_1).f1.f0), .int .i64 0, .slice none 0 0]) ?_ 2 _ rfl; (with_reducible repeat (first | refine blk_drewN ?_ _ | refine blk_drew ?_ | refine blk_alloc ?_ _)); refine blk_put (cs := #[.int .i64 ((rd_T33 l0 x10_1).f0), .int .i64 0, .int .i64 0, .slice none 0 0]) ?_ 1 _ rfl; (with_reducible repeat (first | refine blk_drewN ?_ _ | refine blk_drew ?_ | refine blk_alloc ?_ _)); refine blk_put (cs := #[.int .i64 0, .int .i64 0, .int .i64 0, .slice none 0 0]) ?_ 0 _ rfl; (with_reducible repeat (first | refine blk_drewN ?_ _ | refine blk_drew ?_ | refine blk_alloc ?_ _)); exact BK182.out) hb); have n3_ := Aside0.mk (below_step (by repeat (first | (with_reducible first | exact HB.out | apply below_alloc | apply pw_below_drewN | apply below_drew1 | refine below_set ?_ GE180.out | refine below_set ?_ GE182.out) | exact HB.out)) hb); clear BK180; clear BK182; clear HB; have HO188 := n0_; have BK180 := n1_; have BK182 := n2_; have HB := n3_; clear n0_ n1_ n2_ n3_; (try clear hb); (try clear hb2); (try clear hk); (try clear hi); (try clear ho0); have hcz13_0 : w12.cell? ⟨gb180, 0, none⟩ = some (.int .i64 x181000_1) := (blk_cell BK180.out 0).trans rfl; have hcz13_1 : w12.cell? ⟨gb180, 1, none⟩ = some (.int .i64 x181001_1) := (blk_cell BK180.out 1).trans rfl; have hcz13_2 : w12.cell? ⟨gb180, 2, none⟩ = some (.int .i64 x181002_1) := (blk_cell BK180.out 2).trans rfl; have hcz13_3 : w12.cell? ⟨gb180, 3, none⟩ = some (.slice none 0 0) := (blk_cell BK180.out 3).trans rfl; have hfz13_0 := blk_frozen BK180.out 0; have hfz13_1 := blk_frozen BK180.out 1; have hfz13_2 := blk_frozen BK180.out 2; have hfz13_3 := blk_frozen BK180.out 3; obtain ⟨Ao14, co14, eo14⟩ := Kd.R_slice HO188.out; subst eo14))
       refine bodyPost_ret (results_ct rfl _ _ gb180 33 #[.int .i64 t183, .int .i64 t184, .int .i64 t185, .slice Ao14 t186.length co14] (0, 0) _ rfl (by (with_reducible repeat (first | refine blk_drewN ?_ _ | refine blk_drew ?_ | refine blk_alloc ?_ _)); refine blk_put (cs := #[.int .i64 t183, .int .i64 t184, .int .i64 t185, .slice none 0 0]) ?_ 3 _ rfl; (with_reducible repeat (first | refine blk_drewN ?_ _ | refine blk_drew ?_ | refine blk_alloc ?_ _)); refine blk_put (cs := #[.int .i64 t183, .int .i64 t184, .int .i64 x181002_1, .slice none 0 0]) ?_ 2 _ rfl; (with_reducible repeat (first | refine blk_drewN ?_ _ | refine blk_drew ?_ | refine blk_alloc ?_ _)); refine blk_put (cs := #[.int .i64 t183, .int .i64 x181001_1, .int .i64 x181002_1, .slice none 0 0]) ?_ 1 _ rfl; (with_reducible repeat (first | refine blk_drewN ?_ _ | refine blk_drew ?_ | refine blk_alloc ?_ _)); refine blk_put (cs := #[.int .i64 x181000_1, .int .i64 x181001_1, .int .i64 x181002_1, .slice none 0 0]) ?_ 0 _ rfl; (with_reducible repeat (first | refine blk_drewN ?_ _ | refine blk_drew ?_ | refine blk_alloc ?_ _)); exact BK180.out) Tryd.underlying33 rfl (by kernel_rfl)) rfl ?_
       exact ⟨_, by first | rfl | (simp [errW_none, errW_some] <;> rfl) | (simp [*, errW_none, errW_some] <;> rfl), by (with_reducible repeat (first | apply Kd.R_alloc | apply Kd.R_drewN | apply Kd.R_drew)); exact Kd.R_mono (Kd.R_far (p := ⟨gb180, 3, none⟩) (Kd.R_far (p := ⟨gb180, 2, none⟩) (Kd.R_far (p := ⟨gb180, 1, none⟩) (Kd.R_far (p := ⟨gb180, 0, none⟩) (Kd.R_types HO188.out BK180.out (by decide)) (fun _ hk => hk.2) (.int .i64 t183)) (fun _ hk => hk.2) (.int .i64 t184)) (fun _ hk => hk.2) (.int .i64 t185)) (fun _ hk => hk.2) (.slice Ao14 t186.length co14)) (fun _ hk => trivial), by repeat (first | (with_reducible first | exact HB.out | apply below_alloc | apply pw_below_drewN | apply below_drew1 | refine below_set ?_ GE180.out | refine below_set ?_ GE182.out) | exact HB.out)⟩
      ·
       rw [if_neg c7] at H
       have c7b0 : (((rd_T33 l0 x10_1).f0) == a1) = false := beq_eq_false_iff_ne.mpr c7
       have c7b1 : (((rd_T33 l0 x10_1).f0) != a1) = true := bne_iff_ne.mpr c7
       have H' := Aside0.mk H
       clear H
       have p181 : 0 ≤ (x10_1 : Int) := of_decide_eq_true (by first | (with_reducible assumption) | assumption)
       have q181 : x10_1 < (l0.length : Int) := of_decide_eq_true (by first | (with_reducible assumption) | assumption)
       obtain ⟨ad181, A181_3, c181_3, e181, hx181_0, hx181_1, hx181_2, hx181_3, hl181_3, hi181_3⟩ := at_T33 HR0.out x10_1 p181 q181
       cases e181
       replace hx181_0 := (HB.out.cell (World.block_lt_of_cell? w _ hx181_0)).trans hx181_0
       replace hx181_1 := (HB.out.cell (World.block_lt_of_cell? w _ hx181_1)).trans hx181_1
       replace hx181_2 := (HB.out.cell (World.block_lt_of_cell? w _ hx181_2)).trans hx181_2
       replace hx181_3 := (HB.out.cell (World.block_lt_of_cell? w _ hx181_3)).trans hx181_3
       have HR181_3 := Aside0.mk hi181_3
       have HC181_3 := Aside0.mk hl181_3
       clear hi181_3 hl181_3
       replace p181 := eq_true p181
       replace q181 := eq_true q181
       go_wp2_with (first | ((with_reducible refine gate_dst (N := 7) rfl ?_); refine box_event ?hg (N := 7) ?hd (cs := #[.int .i64 0, .int .i64 0, .int .i64 0, .slice none 0 0]) (t := 33) ?hr ?_; (case hd => rfl); (case hg => rfl); (case hr => first | (go_simp; done) | (go_simp; rfl)); intro gb182 hg w15 hbox hb; have n0_ := Aside0.mk (blk_below (g := gb180) (o := .cells #[.int .i64 x181000_1, .int .i64 x181001_1, .int .i64 x181002_1, .slice none 0 0] 33 (0, 0)) (by (with_reducible repeat (first | refine blk_drewN ?_ _ | refine blk_drew ?_ | refine blk_alloc ?_ _)); exact BK180.out) hb); have n1_ := Aside0.mk (below_step (by repeat (first | (with_reducible first | exact HB.out | apply below_alloc | apply pw_below_drewN | apply below_drew1 | refine below_set ?_ GE180.out) | exact HB.out)) hb); have n2_ := Aside0.mk (hbox); have n3_ := Aside0.mk ((by rw [hg]; exact (below_size (by repeat (first | (with_reducible first | exact HB.out | apply below_alloc | apply pw_below_drewN | apply below_drew1 | refine below_set ?_ GE180.out) | exact HB.out))) : w.heap.size ≤ gb182)); have n4_ := Aside0.mk ((by rw [hg]; exact (below_size (by repeat (first | (with_reducible first | exact HB.out | apply below_alloc | apply pw_below_drewN | apply below_drew1 | refine below_set ?_ GE180.out) | exact HB.out))) : w.heap.size ≤ gb182)); have n5_ := Aside0.mk ((by rw [hg]; exact Nat.ne_of_lt (blk_lt (g := gb180) (o := .cells #[.int .i64 x181000_1, .int .i64 x181001_1, .int .i64 x181002_1, .slice none 0 0] 33 (0, 0)) (by (with_reducible repeat (first | refine blk_drewN ?_ _ | refine blk_drew ?_ | refine blk_alloc ?_ _)); exact BK180.out)) : gb180 ≠ gb182)); have n6_ := Aside0.mk ((by rw [hg]; exact Nat.ne_of_gt (blk_lt (g := gb180) (o := .cells #[.int .i64 x181000_1, .int .i64 x181001_1, .int .i64 x181002_1, .slice none 0 0] 33 (0, 0)) (by (with_reducible repeat (first | refine blk_drewN ?_ _ | refine blk_drew ?_ | refine blk_alloc ?_ _)); exact BK180.out)) : gb182 ≠ gb180)); clear BK180; clear HB; have BK180 := n0_; have HB := n1_; have BK182 := n2_; have GW182 := n3_; have GE182 := n4_; have NB180_182 := n5_; have NB182_180 := n6_; clear n0_ n1_ n2_ n3_ n4_ n5_ n6_; clear hb hbox hg; have hnb16 := NB182_180.out; have hnc16 := NB180_182.out; have hcz17_0 : w15.cell? ⟨gb182, 0, none⟩ = some (.int .i64 0) := (blk_cell BK182.out 0).trans rfl; have hcz17_1 : w15.cell? ⟨gb182, 1, none⟩ = some (.int .i64 0) := (blk_cell BK182.out 1).trans rfl; have hcz17_2 : w15.cell? ⟨gb182, 2, none⟩ = some (.int .i64 0) := (blk_cell BK182.out 2).trans rfl; have hcz17_3 : w15.cell? ⟨gb182, 3, none⟩ = some (.slice none 0 0) := (blk_cell BK182.out 3).trans rfl; have hfz17_0 := blk_frozen BK182.out 0; have hfz17_1 := blk_frozen BK182.out 1; have hfz17_2 := blk_frozen BK182.out 2; have hfz17_3 := blk_frozen BK182.out 3))
       go_roundg k1
       case measure => have := HK1.out; omega
       case rel => exact ⟨(wrap64 (x10_1 + 1)), (x181000_1), (x181001_1), (x181002_1), (by first | rfl | (simp; done) | (simp [*]; done)), H', ⟨by have := HK1.out; omega⟩, ⟨by (with_reducible repeat (first | refine blk_drewN ?_ _ | refine blk_drew ?_ | refine blk_alloc ?_ _)); refine blk_far ?_ NB180_182.out _; (with_reducible repeat (first | refine blk_drewN ?_ _ | refine blk_drew ?_ | refine blk_alloc ?_ _)); refine blk_far ?_ NB180_182.out _; (with_reducible repeat (first | refine blk_drewN ?_ _ | refine blk_drew ?_ | refine blk_alloc ?_ _)); refine blk_far ?_ NB180_182.out _; (with_reducible repeat (first | refine blk_drewN ?_ _ | refine blk_drew ?_ | refine blk_alloc ?_ _)); refine blk_far ?_ NB180_182.out _; (with_reducible repeat (first | refine blk_drewN ?_ _ | refine blk_drew ?_ | refine blk_alloc ?_ _)); exact BK180.out⟩, ⟨by repeat (first | (with_reducible first | exact HB.out | apply below_alloc | apply pw_below_drewN | apply below_drew1 | refine below_set ?_ GE180.out | refine below_set ?_ GE182.out) | exact HB.out)⟩⟩
     ·
      rw [if_neg c6] at H
      exact absurd H (by simp)
    ·
     rw [if_neg c5] at H
     exact absurd H (by simp)
   ·
    rw [if_neg c4] at H
    have c4b0 : decide (x10_1 < (l0.length : Int)) = false := decide_eq_false c4
    clear c4
    simp only [Option.some.injEq, Prod.mk.injEq] at H
    obtain ⟨rfl, rfl, rfl, rfl, rfl⟩ := H
    have hcz18_0 : wr.cell? ⟨gb180, 0, none⟩ = some (.int .i64 x181000_1) := (blk_cell BK180.out 0).trans rfl
    have hcz18_1 : wr.cell? ⟨gb180, 1, none⟩ = some (.int .i64 x181001_1) := (blk_cell BK180.out 1).trans rfl
    have hcz18_2 : wr.cell? ⟨gb180, 2, none⟩ = some (.int .i64 x181002_1) := (blk_cell BK180.out 2).trans rfl
    have hcz18_3 : wr.cell? ⟨gb180, 3, none⟩ = some (.slice none 0 0) := (blk_cell BK180.out 3).trans rfl
    have hfz18_0 := blk_frozen BK180.out 0
    have hfz18_1 := blk_frozen BK180.out 1
    have hfz18_2 := blk_frozen BK180.out 2
    have hfz18_3 := blk_frozen BK180.out 3
    go_wp2
    refine bodyPost_ret (results_ct rfl _ _ gb180 33 #[.int .i64 0, .int .i64 0, .int .i64 0, .slice none 0 0] (0, 0) _ rfl (by (with_reducible repeat (first | refine blk_drewN ?_ _ | refine blk_drew ?_ | refine blk_alloc ?_ _)); refine blk_put (cs := #[.int .i64 0, .int .i64 0, .int .i64 0, .slice none 0 0]) ?_ 3 _ rfl; (with_reducible repeat (first | refine blk_drewN ?_ _ | refine blk_drew ?_ | refine blk_alloc ?_ _)); refine blk_put (cs := #[.int .i64 0, .int .i64 0, .int .i64 x181002_1, .slice none 0 0]) ?_ 2 _ rfl; (with_reducible repeat (first | refine blk_drewN ?_ _ | refine blk_drew ?_ | refine blk_alloc ?_ _)); refine blk_put (cs := #[.int .i64 0, .int .i64 x181001_1, .int .i64 x181002_1, .slice none 0 0]) ?_ 1 _ rfl; (with_reducible repeat (first | refine blk_drewN ?_ _ | refine blk_drew ?_ | refine blk_alloc ?_ _)); refine blk_put (cs := #[.int .i64 x181000_1, .int .i64 x181001_1, .int .i64 x181002_1, .slice none 0 0]) ?_ 0 _ rfl; (with_reducible repeat (first | refine blk_drewN ?_ _ | refine blk_drew ?_ | refine blk_alloc ?_ _)); exact BK180.out) Tryd.underlying33 rfl (by kernel_rfl)) rfl ?_
    exact ⟨_, by first | rfl | (simp [errW_none, errW_some] <;> rfl) | (simp [*, errW_none, errW_some] <;> rfl), by first | exact Kd.R_nil _ _ _ _ _ | exact Kd.N_nil _ _ _ _ _ | exact Kd.V_nil _ _ _ _ _ | exact Kd.Q_nil _ _ _ _ _ | exact Kd.S_nil _ _ _ _ _, by repeat (first | (with_reducible first | exact HB.out | apply below_alloc | apply pw_below_drewN | apply below_drew1 | refine below_set ?_ GE180.out) | exact HB.out)⟩
def spileref22_Copy.f (a0_0 : Int) (a0_1 : Int) (a0_2 : Int) (l0_3 : List (S35)) : Option (Int × Int × Int × (List (S35))) := (some (([] : List (S35)) : List (S35))).bind fun y191 => (if y191.length + l0_3.length < 8796093022208 then (some (a0_0, a0_1, a0_2, (y191 ++ l0_3))) else (none))
def spileref22_Find.l0 : Nat → List (S33) → Int → Int → Option (Int × Int × Int × (List (S35)) × Bool)
 | 0, _, _, _ => none
 | k + 1, x0, x1, x6 => if x6 < (x0.length : Int) then (if 0 ≤ x6 then (if ((rd_T33 x0 x6).f0) = x1 then ((spileref22_Copy.f ((rd_T33 x0 x6).f0) ((rd_T33 x0 x6).f1.f0) ((rd_T33 x0 x6).f1.f1) ((rd_T33 x0 x6).f2)).bind fun bt200 => (some (bt200.1, bt200.2.1, bt200.2.2.1, bt200.2.2.2, true))) else (spileref22_Find.l0 k x0 x1 (wrap64 (x6 + 1)))) else (none)) else (some (0, 0, 0, ([] : List (S35)), false))
def spileref22_Find.f (k : Nat) (l0 : List (S33)) (a1 : Int) : Option (Int × Int × Int × (List (S35)) × Bool) := spileref22_Find.l0 k l0 a1 0
theorem spileref22_Find.mono_l : ∀ k, (∀ y0 y1 y2, LeO (spileref22_Find.l0 k y0 y1 y2) (spileref22_Find.l0 (k + 1) y0 y1 y2))
 | 0 => fun _ _ _ r h => by simp [spileref22_Find.l0] at h
 | k + 1 => by
  have ih0 := spileref22_Find.mono_l k
  ·
   intro y0 y1 y2
   unfold spileref22_Find.l0
   repeat' first
   | (with_reducible exact ih0 _ _ _)
   | (with_reducible exact LeO.refl _)
   | (with_reducible exact LeO.none _)
   | (with_reducible refine LeO.ite ?_ ?_)
   | (with_reducible refine LeO.bind ?_ (fun _ => ?_))
   | exact ih0 _ _ _
   | exact LeO.none _
   | refine LeO.ite ?_ ?_
   | refine LeO.bind ?_ (fun _ => ?_)
theorem spileref22_Find.mono : ∀ a0 a1 k, LeO (spileref22_Find.f k a0 a1) (spileref22_Find.f (k + 1) a0 a1) := by
 intro a0 a1 k
 have ih0 := spileref22_Find.mono_l k
 unfold spileref22_Find.f
 repeat' first
   | (with_reducible exact ih0 _ _ _)
   | (with_reducible exact LeO.refl _)
   | (with_reducible exact LeO.none _)
   | (with_reducible refine LeO.ite ?_ ?_)
   | (with_reducible refine LeO.bind ?_ (fun _ => ?_))
   | exact ih0 _ _ _
   | exact LeO.none _
   | refine LeO.ite ?_ ?_
   | refine LeO.bind ?_ (fun _ => ?_)
def spileref22_Right.f (k : Nat) (l0 : List (S33)) : Option (Bool) := (spileref22_Check.f k l0).bind fun bt206 => (some (bt206.2 == 0))
theorem spileref22_Right.mono : ∀ a0 k, LeO (spileref22_Right.f k a0) (spileref22_Right.f (k + 1) a0) := by
 intro a0 k
 unfold spileref22_Right.f
 repeat' first
   | (with_reducible exact spileref22_Check.mono _ _)
   | (with_reducible exact LeO.refl _)
   | (with_reducible exact LeO.none _)
   | (with_reducible refine LeO.ite ?_ ?_)
   | (with_reducible refine LeO.bind ?_ (fun _ => ?_))
   | exact spileref22_Check.mono _ _
   | exact LeO.none _
   | refine LeO.ite ?_ ?_
   | refine LeO.bind ?_ (fun _ => ?_)
def spileref21_Plus.f (a0_0 : Int) (a0_1 : Int) (a1_0 : Int) (a1_1 : Int) : Option (Int × Int) := some (wrap64 (a0_0 + a1_0), wrap64 (a0_1 + a1_1))
end Go.Proofs.YtgjoenoknknoiaaDoor.Pr
namespace Go.Proofs.YtgjoenoknknoiaaDoor.Pr
open Go.RowKit Go.Proofs.YtgjoenoknknoiaaDoorW.PrintWords Go.Proofs.YtgjoenoknknoiaaDoorW.PrintLast Go.Proofs.YtgjoenoknknoiaaDoorW.PrintMore Go.Proofs.YtgjoenoknknoiaaDoor.X
attribute [local go_sem] max2_int min2_int max_two min_two max_three min_three max_four min_four   -- for this text's walks alone
set_option linter.unusedVariables false
set_option linter.unusedSimpArgs false
theorem eqA35 (d : Nat) (w : World) (x0 y0 : Int) (x1 y1 : Int) :
  (Op.equalIn (d + 2) 35 (.agg #[.int .i64 x0, .int .i64 x1]) (.agg #[.int .i64 y0, .int .i64 y1])).run Tryd.prog w = .ok (x0 == y0 && (x1 == y1)) w := by
 refine eqA_of Tryd.underlying35 (by kernel_rfl) ?_
 refine eqf_cons (by rfl) (by go_simp; rfl) (by go_simp; rfl) (by go_simp) ?_
 exact eqf_last (by rfl) (by go_simp; rfl) (by go_simp; rfl) (by go_simp)
end Go.Proofs.YtgjoenoknknoiaaDoor.Pr
namespace Go.Proofs.YtgjoenoknknoiaaDoor.Pr
open Go.RowKit Go.Proofs.YtgjoenoknknoiaaDoorW.PrintWords Go.Proofs.YtgjoenoknknoiaaDoorW.PrintLast Go.Proofs.YtgjoenoknknoiaaDoorW.PrintMore Go.Proofs.YtgjoenoknknoiaaDoor.X
attribute [local go_sem] max2_int min2_int max_two min_two max_three min_three max_four min_four   -- for this text's walks alone
set_option linter.unusedVariables false
set_option linter.unusedSimpArgs false
attribute [local go_sem high] eqA26 eqA35
def spileref22_Total.l0 : Nat → List (S33) → Int → Int → Int → Option (Int × Int × Int)
 | 0, _, _, _, _ => none
 | k + 1, x0, x5, x214000, x214001 => if x5 < (x0.length : Int) then (if 0 ≤ x5 then ((spileref21_Plus.f x214000 x214001 ((rd_T33 x0 x5).f1.f0) ((rd_T33 x0 x5).f1.f1)).bind fun bt215 => (spileref22_Total.l0 k x0 (wrap64 (x5 + 1)) bt215.1 bt215.2)) else (none)) else ((spileref21_Plain.f x214000 x214001).bind fun t217 => (if t217 = true then (some (x214000, x214001, 0)) else (some (0, 0, 15))))
def spileref22_Total.f (k : Nat) (l0 : List (S33)) : Option (Int × Int × Int) := (spileref22_Right.f k l0).bind fun t212 => (if t212 = true then (spileref22_Total.l0 k l0 0 0 0) else (some (0, 0, 1)))
theorem spileref22_Total.mono_l : ∀ k, (∀ y0 y1 y2 y3, LeO (spileref22_Total.l0 k y0 y1 y2 y3) (spileref22_Total.l0 (k + 1) y0 y1 y2 y3))
 | 0 => fun _ _ _ _ r h => by simp [spileref22_Total.l0] at h
 | k + 1 => by
  have ih0 := spileref22_Total.mono_l k
  ·
   intro y0 y1 y2 y3
   unfold spileref22_Total.l0
   repeat' first
   | (with_reducible exact ih0 _ _ _ _)
   | (with_reducible exact spileref22_Right.mono _ _)
   | (with_reducible exact LeO.refl _)
   | (with_reducible exact LeO.none _)
   | (with_reducible refine LeO.ite ?_ ?_)
   | (with_reducible refine LeO.bind ?_ (fun _ => ?_))
   | exact ih0 _ _ _ _
   | exact spileref22_Right.mono _ _
   | exact LeO.none _
   | refine LeO.ite ?_ ?_
   | refine LeO.bind ?_ (fun _ => ?_)
theorem spileref22_Total.mono : ∀ a0 k, LeO (spileref22_Total.f k a0) (spileref22_Total.f (k + 1) a0) := by
 intro a0 k
 have ih0 := spileref22_Total.mono_l k
 unfold spileref22_Total.f
 repeat' first
   | (with_reducible exact ih0 _ _ _ _)
   | (with_reducible exact spileref22_Right.mono _ _)
   | (with_reducible exact LeO.refl _)
   | (with_reducible exact LeO.none _)
   | (with_reducible refine LeO.ite ?_ ?_)
   | (with_reducible refine LeO.bind ?_ (fun _ => ?_))
   | exact ih0 _ _ _ _
   | exact spileref22_Right.mono _ _
   | exact LeO.none _
   | refine LeO.ite ?_ ?_
   | refine LeO.bind ?_ (fun _ => ?_)
mutual
def spileref22_Of.l0 : Nat → List (S33) → Int → Int → Int → Option (Int × Int)
 | 0, _, _, _, _ => none
 | k + 1, x0, x1, x6, x7 => if x7 < (x0.length : Int) then (spileref22_Of.l1 k x0 x1 x6 x7 0) else (some (x6, 0))
def spileref22_Of.l1 : Nat → List (S33) → Int → Int → Int → Int → Option (Int × Int)
 | 0, _, _, _, _, _ => none
 | k + 1, x0, x1, x6, x7, x8 => if 0 ≤ x7 then (if x7 < (x0.length : Int) then (if x8 < (((rd_T33 x0 x7).f2).length : Int) then (if 0 ≤ x8 then (if ((rd_T35 ((rd_T33 x0 x7).f2) x8).f0) = x1 then (spileref22_Of.l1 k x0 x1 (wrap64 (x6 + ((rd_T35 ((rd_T33 x0 x7).f2) x8).f1))) x7 (wrap64 (x8 + 1))) else (spileref22_Of.l1 k x0 x1 x6 x7 (wrap64 (x8 + 1)))) else (none)) else (spileref22_Of.l0 k x0 x1 x6 (wrap64 (x7 + 1)))) else (none)) else (none)
end
def spileref22_Of.f (k : Nat) (l0 : List (S33)) (a1 : Int) : Option (Int × Int) := (spileref22_Right.f k l0).bind fun t218 => (if t218 = true then ((spileref22_ID.f a1).bind fun t219 => (if t219 = true then (spileref22_Of.l0 k l0 a1 0 0) else (some (0, 2)))) else (some (0, 1)))
theorem spileref22_Of.mono_l : ∀ k, (∀ y0 y1 y2 y3, LeO (spileref22_Of.l0 k y0 y1 y2 y3) (spileref22_Of.l0 (k + 1) y0 y1 y2 y3)) ∧ (∀ y0 y1 y2 y3 y4, LeO (spileref22_Of.l1 k y0 y1 y2 y3 y4) (spileref22_Of.l1 (k + 1) y0 y1 y2 y3 y4))
 | 0 => ⟨fun _ _ _ _ r h => by simp [spileref22_Of.l0] at h, fun _ _ _ _ _ r h => by simp [spileref22_Of.l1] at h⟩
 | k + 1 => by
  obtain ⟨ih0, ih1⟩ := spileref22_Of.mono_l k
  refine ⟨?_, ?_⟩
  ·
   intro y0 y1 y2 y3
   unfold spileref22_Of.l0
   repeat' first
   | (with_reducible exact ih0 _ _ _ _)
   | (with_reducible exact ih1 _ _ _ _ _)
   | (with_reducible exact spileref22_Right.mono _ _)
   | (with_reducible exact LeO.refl _)
   | (with_reducible exact LeO.none _)
   | (with_reducible refine LeO.ite ?_ ?_)
   | (with_reducible refine LeO.bind ?_ (fun _ => ?_))
   | exact ih0 _ _ _ _
   | exact ih1 _ _ _ _ _
   | exact spileref22_Right.mono _ _
   | exact LeO.none _
   | refine LeO.ite ?_ ?_
   | refine LeO.bind ?_ (fun _ => ?_)
  ·
   intro y0 y1 y2 y3 y4
   unfold spileref22_Of.l1
   repeat' first
   | (with_reducible exact ih0 _ _ _ _)
   | (with_reducible exact ih1 _ _ _ _ _)
   | (with_reducible exact spileref22_Right.mono _ _)
   | (with_reducible exact LeO.refl _)
   | (with_reducible exact LeO.none _)
   | (with_reducible refine LeO.ite ?_ ?_)
   | (with_reducible refine LeO.bind ?_ (fun _ => ?_))
   | exact ih0 _ _ _ _
   | exact ih1 _ _ _ _ _
   | exact spileref22_Right.mono _ _
   | exact LeO.none _
   | refine LeO.ite ?_ ?_
   | refine LeO.bind ?_ (fun _ => ?_)
theorem spileref22_Of.mono : ∀ a0 a1 k, LeO (spileref22_Of.f k a0 a1) (spileref22_Of.f (k + 1) a0 a1) := by
 intro a0 a1 k
 obtain ⟨ih0, ih1⟩ := spileref22_Of.mono_l k
 unfold spileref22_Of.f
 repeat' first
   | (with_reducible exact ih0 _ _ _ _)
   | (with_reducible exact ih1 _ _ _ _ _)
   | (with_reducible exact spileref22_Right.mono _ _)
   | (with_reducible exact LeO.refl _)
   | (with_reducible exact LeO.none _)
   | (with_reducible refine LeO.ite ?_ ?_)
   | (with_reducible refine LeO.bind ?_ (fun _ => ?_))
   | exact ih0 _ _ _ _
   | exact ih1 _ _ _ _ _
   | exact spileref22_Right.mono _ _
   | exact LeO.none _
   | refine LeO.ite ?_ ?_
   | refine LeO.bind ?_ (fun _ => ?_)
def spileref22_SameShares.l0 : Nat → List (S35) → List (S35) → Int → Option (Bool)
 | 0, _, _, _ => none
 | k + 1, x0, x1, x5 => if x5 < (x0.length : Int) then (if 0 ≤ x5 then (if x5 < (x1.length : Int) then (if (!(((rd_T35 x0 x5).f0) == ((rd_T35 x1 x5).f0)) || (!(((rd_T35 x0 x5).f1) == ((rd_T35 x1 x5).f1)))) = true then (some false) else (spileref22_SameShares.l0 k x0 x1 (wrap64 (x5 + 1)))) else (none)) else (none)) else (some true)
def spileref22_SameShares.f (k : Nat) (l0 : List (S35)) (l1 : List (S35)) : Option (Bool) := if (l0.length : Int) = (l1.length : Int) then (spileref22_SameShares.l0 k l0 l1 0) else (some false)
theorem spileref22_SameShares.mono_l : ∀ k, (∀ y0 y1 y2, LeO (spileref22_SameShares.l0 k y0 y1 y2) (spileref22_SameShares.l0 (k + 1) y0 y1 y2))
 | 0 => fun _ _ _ r h => by simp [spileref22_SameShares.l0] at h
 | k + 1 => by
  have ih0 := spileref22_SameShares.mono_l k
  ·
   intro y0 y1 y2
   unfold spileref22_SameShares.l0
   repeat' first
   | (with_reducible exact ih0 _ _ _)
   | (with_reducible exact LeO.refl _)
   | (with_reducible exact LeO.none _)
   | (with_reducible refine LeO.ite ?_ ?_)
   | (with_reducible refine LeO.bind ?_ (fun _ => ?_))
   | exact ih0 _ _ _
   | exact LeO.none _
   | refine LeO.ite ?_ ?_
   | refine LeO.bind ?_ (fun _ => ?_)
theorem spileref22_SameShares.mono : ∀ a0 a1 k, LeO (spileref22_SameShares.f k a0 a1) (spileref22_SameShares.f (k + 1) a0 a1) := by
 intro a0 a1 k
 have ih0 := spileref22_SameShares.mono_l k
 unfold spileref22_SameShares.f
 repeat' first
   | (with_reducible exact ih0 _ _ _)
   | (with_reducible exact LeO.refl _)
   | (with_reducible exact LeO.none _)
   | (with_reducible refine LeO.ite ?_ ?_)
   | (with_reducible refine LeO.bind ?_ (fun _ => ?_))
   | exact ih0 _ _ _
   | exact LeO.none _
   | refine LeO.ite ?_ ?_
   | refine LeO.bind ?_ (fun _ => ?_)
set_option maxHeartbeats 8000000 in
set_option maxRecDepth 100000 in
theorem spileref22_SameShares.calls (k : Nat) (A0 : Option Addr) (c0 : Nat) (l0 : List (S35)) (A1 : Option Addr) (c1 : Nat) (l1 : List (S35)) (r : Bool) (w : World) (hr0 : Kd.C k35 w A0 l0.length l0) (hc0 : l0.length ≤ c0) (hr1 : Kd.C k35 w A1 l1.length l1) (hc1 : l1.length ≤ c1) (h : spileref22_SameShares.f k l0 l1 = some r) :
  Calls Tryd.prog 43 #[.slice A0 l0.length c0, .slice A1 l1.length c1] w fun e w' => e = .returned (.bool r) ∧ Drawn0 w w' := by
 have hu35 := Tryd.underlying35
 have HR0 := Aside0.mk hr0
 have HC0 := Aside0.mk hc0
 clear hr0 hc0
 have HR1 := Aside0.mk hr1
 have HC1 := Aside0.mk hc1
 clear hr1 hc1
 have H : (if (l0.length : Int) = (l1.length : Int) then (spileref22_SameShares.l0 k l0 l1 0) else (some false)) = some r := h
 clear h
 by_cases c3 : (l0.length : Int) = (l1.length : Int)
 ·
  rw [if_pos c3] at H
  have c3b0 : ((l0.length : Int) == (l1.length : Int)) = true := beq_iff_eq.mpr c3
  have c3b1 : ((l0.length : Int) != (l1.length : Int)) = false := bne_eq_false_iff_eq.mpr c3
  have c3b2 : (l0.length == l1.length) = true := by first | simpa using c3 | (simp at c3 ⊢; omega)
  clear c3
  have H' := Aside0.mk H
  clear H
  go_enter Tryd.func43, Tryd.ntmps43
  go_wp2
  repeat (go_quiet (fail); try go_wp2)
  go_loopg [5] k (fun kq v5 w' => ∃ (x5_1 : Int), v5 = .int .i64 x5_1 ∧ Aside0 (spileref22_SameShares.l0 kq l0 l1 x5_1 = some r) ∧ Aside0 (kq ≤ k) ∧ Drawn0 w w')
  case atStart => exact ⟨(0), (by first | rfl | (simp; done) | (simp [*]; done)), H', ⟨Nat.le_refl _⟩, by repeat (first | exact Drawn0.refl _ | apply Drawn0.step)⟩
  case round =>
   clear H'
   try clear c1
   try clear p2
   try clear c3
   try clear c3b0
   try clear c3b1
   try clear c3b2
   obtain ⟨x5_1, rfl, HA, HK1, ⟨m1, rfl⟩⟩ := hrel
   cases gk with
   | zero => exact absurd HA.out (by simp [spileref22_SameShares.l0])
   | succ k1 =>
    have H := HA.out
    clear HA
    simp only [spileref22_SameShares.l0] at H
    by_cases c4 : x5_1 < (l0.length : Int)
    ·
     rw [if_pos c4] at H
     have c4b0 : decide (x5_1 < (l0.length : Int)) = true := decide_eq_true c4
     clear c4
     by_cases c5 : 0 ≤ x5_1
     ·
      rw [if_pos c5] at H
      have c5b0 : decide (0 ≤ x5_1) = true := decide_eq_true c5
      clear c5
      by_cases c6 : x5_1 < (l1.length : Int)
      ·
       rw [if_pos c6] at H
       have c6b0 : decide (x5_1 < (l1.length : Int)) = true := decide_eq_true c6
       clear c6
       by_cases c7 : (!(((rd_T35 l0 x5_1).f0) == ((rd_T35 l1 x5_1).f0)) || (!(((rd_T35 l0 x5_1).f1) == ((rd_T35 l1 x5_1).f1)))) = true
       ·
        rw [if_pos c7] at H
        have c7b0 : (!(((rd_T35 l0 x5_1).f0) == ((rd_T35 l1 x5_1).f0)) || (!(((rd_T35 l0 x5_1).f1) == ((rd_T35 l1 x5_1).f1)))) = true := c7
        clear c7
        obtain rfl := Option.some.inj H
        have p225 : 0 ≤ (x5_1 : Int) := of_decide_eq_true (by first | (with_reducible assumption) | assumption)
        have q225 : x5_1 < (l0.length : Int) := of_decide_eq_true (by first | (with_reducible assumption) | assumption)
        obtain ⟨ad225, e225, hx225_0, hx225_1⟩ := at_T35 HR0.out x5_1 p225 q225
        cases e225
        replace p225 := eq_true p225
        replace q225 := eq_true q225
        have p226 : 0 ≤ (x5_1 : Int) := of_decide_eq_true (by first | (with_reducible assumption) | assumption)
        have q226 : x5_1 < (l1.length : Int) := of_decide_eq_true (by first | (with_reducible assumption) | assumption)
        obtain ⟨ad226, e226, hx226_0, hx226_1⟩ := at_T35 HR1.out x5_1 p226 q226
        cases e226
        replace p226 := eq_true p226
        replace q226 := eq_true q226
        go_wp2
        repeat (go_quiet (fail); try go_wp2)
        go_ret
        exact ⟨by first | rfl | (simp; done) | (simp [*]; done), by repeat (first | exact Drawn0.refl _ | apply Drawn0.step)⟩
       ·
        rw [if_neg c7] at H
        have c7b0 : (!(((rd_T35 l0 x5_1).f0) == ((rd_T35 l1 x5_1).f0)) || (!(((rd_T35 l0 x5_1).f1) == ((rd_T35 l1 x5_1).f1)))) = false := by simpa using c7
        clear c7
        have H' := Aside0.mk H
        clear H
        have p225 : 0 ≤ (x5_1 : Int) := of_decide_eq_true (by first | (with_reducible assumption) | assumption)
        have q225 : x5_1 < (l0.length : Int) := of_decide_eq_true (by first | (with_reducible assumption) | assumption)
        obtain ⟨ad225, e225, hx225_0, hx225_1⟩ := at_T35 HR0.out x5_1 p225 q225
        cases e225
        replace p225 := eq_true p225
        replace q225 := eq_true q225
        have p226 : 0 ≤ (x5_1 : Int) := of_decide_eq_true (by first | (with_reducible assumption) | assumption)
        have q226 : x5_1 < (l1.length : Int) := of_decide_eq_true (by first | (with_reducible assumption) | assumption)
        obtain ⟨ad226, e226, hx226_0, hx226_1⟩ := at_T35 HR1.out x5_1 p226 q226
        cases e226
        replace p226 := eq_true p226
        replace q226 := eq_true q226
        go_wp2
        repeat (go_quiet (fail); try go_wp2)
        go_roundg k1
        case measure => have := HK1.out; omega
        case rel => exact ⟨(wrap64 (x5_1 + 1)), (by first | rfl | (simp; done) | (simp [*]; done)), H', ⟨by have := HK1.out; omega⟩, by repeat (first | exact Drawn0.refl _ | apply Drawn0.step)⟩
      ·
       rw [if_neg c6] at H
       exact absurd H (by simp)
     ·
      rw [if_neg c5] at H
      exact absurd H (by simp)
    ·
     rw [if_neg c4] at H
     have c4b0 : decide (x5_1 < (l0.length : Int)) = false := decide_eq_false c4
     clear c4
     obtain rfl := Option.some.inj H
     go_wp2
     repeat (go_quiet (fail); try go_wp2)
     go_ret
     exact ⟨by first | rfl | (simp; done) | (simp [*]; done), by repeat (first | exact Drawn0.refl _ | apply Drawn0.step)⟩
 ·
  rw [if_neg c3] at H
  have c3b0 : ((l0.length : Int) == (l1.length : Int)) = false := beq_eq_false_iff_ne.mpr c3
  have c3b1 : ((l0.length : Int) != (l1.length : Int)) = true := bne_iff_ne.mpr c3
  have c3b2 : (l0.length == l1.length) = false := by first | simpa using c3 | (simp at c3 ⊢; omega)
  obtain rfl := Option.some.inj H
  go_enter Tryd.func43, Tryd.ntmps43
  go_wp2
  repeat (go_quiet (fail); try go_wp2)
  go_ret
  exact ⟨by first | rfl | (simp; done) | (simp [*]; done), by repeat (first | exact Drawn0.refl _ | apply Drawn0.step)⟩
def spileref22_SameLot.f (k : Nat) (a0_0 : Int) (a0_1 : Int) (a0_2 : Int) (l0_3 : List (S35)) (a1_0 : Int) (a1_1 : Int) (a1_2 : Int) (l1_3 : List (S35)) : Option (Bool) := if a0_0 = a1_0 then (if (a0_1 == a1_1 && (a0_2 == a1_2)) = true then ((spileref22_SameShares.f k l0_3 l1_3).bind fun t229 => (some t229)) else (some false)) else (some false)
theorem spileref22_SameLot.mono : ∀ a0 a1 a2 a3 a4 a5 a6 a7 k, LeO (spileref22_SameLot.f k a0 a1 a2 a3 a4 a5 a6 a7) (spileref22_SameLot.f (k + 1) a0 a1 a2 a3 a4 a5 a6 a7) := by
 intro a0 a1 a2 a3 a4 a5 a6 a7 k
 unfold spileref22_SameLot.f
 repeat' first
   | (with_reducible exact spileref22_SameShares.mono _ _ _)
   | (with_reducible exact LeO.refl _)
   | (with_reducible exact LeO.none _)
   | (with_reducible refine LeO.ite ?_ ?_)
   | (with_reducible refine LeO.bind ?_ (fun _ => ?_))
   | exact spileref22_SameShares.mono _ _ _
   | exact LeO.none _
   | refine LeO.ite ?_ ?_
   | refine LeO.bind ?_ (fun _ => ?_)
set_option maxHeartbeats 8000000 in
set_option maxRecDepth 100000 in
theorem spileref22_SameLot.calls (k : Nat) (a0_0 : Int) (a0_1 : Int) (a0_2 : Int) (A0_3 : Option Addr) (c0_3 : Nat) (l0_3 : List (S35)) (a1_0 : Int) (a1_1 : Int) (a1_2 : Int) (A1_3 : Option Addr) (c1_3 : Nat) (l1_3 : List (S35)) (r : Bool) (w : World) (hr0_3 : Kd.C k35 w A0_3 l0_3.length l0_3) (hc0_3 : l0_3.length ≤ c0_3) (hr1_3 : Kd.C k35 w A1_3 l1_3.length l1_3) (hc1_3 : l1_3.length ≤ c1_3) (h : spileref22_SameLot.f k a0_0 a0_1 a0_2 l0_3 a1_0 a1_1 a1_2 l1_3 = some r) :
  Calls Tryd.prog 20 #[.agg #[.int .i64 a0_0, .int .i64 a0_1, .int .i64 a0_2, .slice A0_3 l0_3.length c0_3], .agg #[.int .i64 a1_0, .int .i64 a1_1, .int .i64 a1_2, .slice A1_3 l1_3.length c1_3]] w fun e w' => e = .returned (.bool r) ∧ Below w.heap.size w w' := by
 have hu33 := Tryd.underlying33
 have hu26 := Tryd.underlying26
 have HR0_3 := Aside0.mk hr0_3
 have HC0_3 := Aside0.mk hc0_3
 clear hr0_3 hc0_3
 have HR1_3 := Aside0.mk hr1_3
 have HC1_3 := Aside0.mk hc1_3
 clear hr1_3 hc1_3
 have HB := Aside0.mk (Below.refl w.heap.size w)
 have H : (if a0_0 = a1_0 then (if (a0_1 == a1_1 && (a0_2 == a1_2)) = true then ((spileref22_SameShares.f k l0_3 l1_3).bind fun t229 => (some t229)) else (some false)) else (some false)) = some r := h
 clear h
 by_cases c3 : a0_0 = a1_0
 ·
  rw [if_pos c3] at H
  have c3b0 : (a0_0 == a1_0) = true := beq_iff_eq.mpr c3
  have c3b1 : (a0_0 != a1_0) = false := bne_eq_false_iff_eq.mpr c3
  clear c3
  by_cases c4 : (a0_1 == a1_1 && (a0_2 == a1_2)) = true
  ·
   rw [if_pos c4] at H
   have c4b0 : (a0_1 == a1_1 && (a0_2 == a1_2)) = true := c4
   (try (have c4b1 : decide (a0_1 = a1_1 && (a0_2 == a1_2)) = true := by simpa using c4))
   (try (have c4b2 : (a0_1 == a1_1 && (a0_2 == a1_2)) = true := by simpa using c4))
   clear c4
   replace H := Option.bind_eq_some_iff.mp H
   obtain ⟨t229, A50, H⟩ := H
   replace H : (some t229) = some r := H
   have A5 := Aside0.mk A50
   clear A50
   obtain rfl := Option.some.inj H
   go_enter Tryd.func20, Tryd.ntmps20
   go_wp2_with (first | ((with_reducible refine gate_dst (N := 2) rfl ?_); refine box_event ?hg (N := 2) ?hd (cs := #[.int .i64 a0_0, .int .i64 a0_1, .int .i64 a0_2, .slice A0_3 l0_3.length c0_3]) (t := 33) ?hr ?_; (case hd => rfl); (case hg => rfl); (case hr => first | (go_simp; done) | (go_simp; rfl)); intro gb227 hg w6 hbox hb; have n0_ := Aside0.mk (below_step (by repeat (first | (with_reducible first | exact HB.out | apply below_alloc | apply pw_below_drewN | apply below_drew1) | exact HB.out)) hb); have n1_ := Aside0.mk (hbox); have n2_ := Aside0.mk ((by rw [hg]; exact (below_size (by repeat (first | (with_reducible first | exact HB.out | apply below_alloc | apply pw_below_drewN | apply below_drew1) | exact HB.out))) : w.heap.size ≤ gb227)); have n3_ := Aside0.mk ((by rw [hg]; exact (below_size (by repeat (first | (with_reducible first | exact HB.out | apply below_alloc | apply pw_below_drewN | apply below_drew1) | exact HB.out))) : w.heap.size ≤ gb227)); clear HB; have HB := n0_; have BK227 := n1_; have GW227 := n2_; have GE227 := n3_; clear n0_ n1_ n2_ n3_; clear hb hbox hg) | ((with_reducible refine gate_dst (N := 3) rfl ?_); refine box_event ?hg (N := 3) ?hd (cs := #[.int .i64 a1_0, .int .i64 a1_1, .int .i64 a1_2, .slice A1_3 l1_3.length c1_3]) (t := 33) ?hr ?_; (case hd => rfl); (case hg => rfl); (case hr => first | (go_simp; done) | (go_simp; rfl)); intro gb228 hg w7 hbox hb; have n0_ := Aside0.mk (blk_below (g := gb227) (o := .cells #[.int .i64 a0_0, .int .i64 a0_1, .int .i64 a0_2, .slice A0_3 l0_3.length c0_3] 33 (0, 0)) (by (with_reducible repeat (first | refine blk_drewN ?_ _ | refine blk_drew ?_ | refine blk_alloc ?_ _)); exact BK227.out) hb); have n1_ := Aside0.mk (below_step (by repeat (first | (with_reducible first | exact HB.out | apply below_alloc | apply pw_below_drewN | apply below_drew1 | refine below_set ?_ GE227.out) | exact HB.out)) hb); have n2_ := Aside0.mk (hbox); have n3_ := Aside0.mk ((by rw [hg]; exact (below_size (by repeat (first | (with_reducible first | exact HB.out | apply below_alloc | apply pw_below_drewN | apply below_drew1 | refine below_set ?_ GE227.out) | exact HB.out))) : w.heap.size ≤ gb228)); have n4_ := Aside0.mk ((by rw [hg]; exact (below_size (by repeat (first | (with_reducible first | exact HB.out | apply below_alloc | apply pw_below_drewN | apply below_drew1 | refine below_set ?_ GE227.out) | exact HB.out))) : w.heap.size ≤ gb228)); have n5_ := Aside0.mk ((by rw [hg]; exact Nat.ne_of_lt (blk_lt (g := gb227) (o := .cells #[.int .i64 a0_0, .int .i64 a0_1, .int .i64 a0_2, .slice A0_3 l0_3.length c0_3] 33 (0, 0)) (by (with_reducible repeat (first | refine blk_drewN ?_ _ | refine blk_drew ?_ | refine blk_alloc ?_ _)); exact BK227.out)) : gb227 ≠ gb228)); have n6_ := Aside0.mk ((by rw [hg]; exact Nat.ne_of_gt (blk_lt (g := gb227) (o := .cells #[.int .i64 a0_0, .int .i64 a0_1, .int .i64 a0_2, .slice A0_3 l0_3.length c0_3] 33 (0, 0)) (by (with_reducible repeat (first | refine blk_drewN ?_ _ | refine blk_drew ?_ | refine blk_alloc ?_ _)); exact BK227.out)) : gb228 ≠ gb227)); clear BK227; clear HB; have BK227 := n0_; have HB := n1_; have BK228 := n2_; have GW228 := n3_; have GE228 := n4_; have NB227_228 := n5_; have NB228_227 := n6_; clear n0_ n1_ n2_ n3_ n4_ n5_ n6_; clear hb hbox hg; have hnb8 := NB227_228.out; have hnc8 := NB228_227.out; have hcz9_0 : w7.cell? ⟨gb227, 0, none⟩ = some (.int .i64 a0_0) := (blk_cell BK227.out 0).trans rfl; have hcz9_1 : w7.cell? ⟨gb227, 1, none⟩ = some (.int .i64 a0_1) := (blk_cell BK227.out 1).trans rfl; have hcz9_2 : w7.cell? ⟨gb227, 2, none⟩ = some (.int .i64 a0_2) := (blk_cell BK227.out 2).trans rfl; have hcz9_3 : w7.cell? ⟨gb227, 3, none⟩ = some (.slice A0_3 l0_3.length c0_3) := (blk_cell BK227.out 3).trans rfl; have hfz9_0 := blk_frozen BK227.out 0; have hfz9_1 := blk_frozen BK227.out 1; have hfz9_2 := blk_frozen BK227.out 2; have hfz9_3 := blk_frozen BK227.out 3; have hcz10_0 : w7.cell? ⟨gb228, 0, none⟩ = some (.int .i64 a1_0) := (blk_cell BK228.out 0).trans rfl; have hcz10_1 : w7.cell? ⟨gb228, 1, none⟩ = some (.int .i64 a1_1) := (blk_cell BK228.out 1).trans rfl; have hcz10_2 : w7.cell? ⟨gb228, 2, none⟩ = some (.int .i64 a1_2) := (blk_cell BK228.out 2).trans rfl; have hcz10_3 : w7.cell? ⟨gb228, 3, none⟩ = some (.slice A1_3 l1_3.length c1_3) := (blk_cell BK228.out 3).trans rfl; have hfz10_0 := blk_frozen BK228.out 0; have hfz10_1 := blk_frozen BK228.out 1; have hfz10_2 := blk_frozen BK228.out 2; have hfz10_3 := blk_frozen BK228.out 3) | (go_at_call 43; (with_reducible refine (spileref22_SameShares.calls k _ _ l0_3 _ _ l1_3 t229 _ ?side1 ?side2 ?side3 ?side4 A5.out).mono ?_); (case side1 => repeat (first | exact (Kd.C_below HR0_3.out HB.out) | (with_reducible refine Kd.C_alloc ?_ _) | (with_reducible refine Kd.C_drewN ?_ _) | (with_reducible refine Kd.C_drew ?_))); (case side2 => exact HC0_3.out); (case side3 => repeat (first | exact (Kd.C_below HR1_3.out HB.out) | (with_reducible refine Kd.C_alloc ?_ _) | (with_reducible refine Kd.C_drewN ?_ _) | (with_reducible refine Kd.C_drew ?_))); (case side4 => exact HC1_3.out); rintro e w' ⟨rfl, ⟨nd, rfl⟩⟩))
   go_ret
   exact ⟨by first | rfl | (simp [errW_none, errW_some] <;> rfl) | (simp [*, errW_none, errW_some] <;> rfl), by repeat (first | (with_reducible first | exact HB.out | apply below_alloc | apply pw_below_drewN | apply below_drew1 | refine below_set ?_ GE227.out | refine below_set ?_ GE228.out) | exact HB.out)⟩
  ·
   rw [if_neg c4] at H
   have c4b0 : (a0_1 == a1_1 && (a0_2 == a1_2)) = false := by simpa using c4
   (try (have c4b1 : decide (a0_1 = a1_1 && (a0_2 == a1_2)) = false := by simpa using c4))
   (try (have c4b2 : (a0_1 == a1_1 && (a0_2 == a1_2)) = false := by simpa using c4))
   (try (have c4b3 : ¬ (a0_1 = a1_1 && (a0_2 == a1_2)) := by simpa using c4))
   clear c4
   obtain rfl := Option.some.inj H
   go_enter Tryd.func20, Tryd.ntmps20
   go_wp2_with (first | ((with_reducible refine gate_dst (N := 2) rfl ?_); refine box_event ?hg (N := 2) ?hd (cs := #[.int .i64 a0_0, .int .i64 a0_1, .int .i64 a0_2, .slice A0_3 l0_3.length c0_3]) (t := 33) ?hr ?_; (case hd => rfl); (case hg => rfl); (case hr => first | (go_simp; done) | (go_simp; rfl)); intro gb227 hg w11 hbox hb; have n0_ := Aside0.mk (below_step (by repeat (first | (with_reducible first | exact HB.out | apply below_alloc | apply pw_below_drewN | apply below_drew1) | exact HB.out)) hb); have n1_ := Aside0.mk (hbox); have n2_ := Aside0.mk ((by rw [hg]; exact (below_size (by repeat (first | (with_reducible first | exact HB.out | apply below_alloc | apply pw_below_drewN | apply below_drew1) | exact HB.out))) : w.heap.size ≤ gb227)); have n3_ := Aside0.mk ((by rw [hg]; exact (below_size (by repeat (first | (with_reducible first | exact HB.out | apply below_alloc | apply pw_below_drewN | apply below_drew1) | exact HB.out))) : w.heap.size ≤ gb227)); clear HB; have HB := n0_; have BK227 := n1_; have GW227 := n2_; have GE227 := n3_; clear n0_ n1_ n2_ n3_; clear hb hbox hg) | ((with_reducible refine gate_dst (N := 3) rfl ?_); refine box_event ?hg (N := 3) ?hd (cs := #[.int .i64 a1_0, .int .i64 a1_1, .int .i64 a1_2, .slice A1_3 l1_3.length c1_3]) (t := 33) ?hr ?_; (case hd => rfl); (case hg => rfl); (case hr => first | (go_simp; done) | (go_simp; rfl)); intro gb228 hg w12 hbox hb; have n0_ := Aside0.mk (blk_below (g := gb227) (o := .cells #[.int .i64 a0_0, .int .i64 a0_1, .int .i64 a0_2, .slice A0_3 l0_3.length c0_3] 33 (0, 0)) (by (with_reducible repeat (first | refine blk_drewN ?_ _ | refine blk_drew ?_ | refine blk_alloc ?_ _)); exact BK227.out) hb); have n1_ := Aside0.mk (below_step (by repeat (first | (with_reducible first | exact HB.out | apply below_alloc | apply pw_below_drewN | apply below_drew1 | refine below_set ?_ GE227.out) | exact HB.out)) hb); have n2_ := Aside0.mk (hbox); have n3_ := Aside0.mk ((by rw [hg]; exact (below_size (by repeat (first | (with_reducible first | exact HB.out | apply below_alloc | apply pw_below_drewN | apply below_drew1 | refine below_set ?_ GE227.out) | exact HB.out))) : w.heap.size ≤ gb228)); have n4_ := Aside0.mk ((by rw [hg]; exact (below_size (by repeat (first | (with_reducible first | exact HB.out | apply below_alloc | apply pw_below_drewN | apply below_drew1 | refine below_set ?_ GE227.out) | exact HB.out))) : w.heap.size ≤ gb228)); have n5_ := Aside0.mk ((by rw [hg]; exact Nat.ne_of_lt (blk_lt (g := gb227) (o := .cells #[.int .i64 a0_0, .int .i64 a0_1, .int .i64 a0_2, .slice A0_3 l0_3.length c0_3] 33 (0, 0)) (by (with_reducible repeat (first | refine blk_drewN ?_ _ | refine blk_drew ?_ | refine blk_alloc ?_ _)); exact BK227.out)) : gb227 ≠ gb228)); have n6_ := Aside0.mk ((by rw [hg]; exact Nat.ne_of_gt (blk_lt (g := gb227) (o := .cells #[.int .i64 a0_0, .int .i64 a0_1, .int .i64 a0_2, .slice A0_3 l0_3.length c0_3] 33 (0, 0)) (by (with_reducible repeat (first | refine blk_drewN ?_ _ | refine blk_drew ?_ | refine blk_alloc ?_ _)); exact BK227.out)) : gb228 ≠ gb227)); clear BK227; clear HB; have BK227 := n0_; have HB := n1_; have BK228 := n2_; have GW228 := n3_; have GE228 := n4_; have NB227_228 := n5_; have NB228_227 := n6_; clear n0_ n1_ n2_ n3_ n4_ n5_ n6_; clear hb hbox hg; have hnb13 := NB227_228.out; have hnc13 := NB228_227.out; have hcz14_0 : w12.cell? ⟨gb227, 0, none⟩ = some (.int .i64 a0_0) := (blk_cell BK227.out 0).trans rfl; have hcz14_1 : w12.cell? ⟨gb227, 1, none⟩ = some (.int .i64 a0_1) := (blk_cell BK227.out 1).trans rfl; have hcz14_2 : w12.cell? ⟨gb227, 2, none⟩ = some (.int .i64 a0_2) := (blk_cell BK227.out 2).trans rfl; have hcz14_3 : w12.cell? ⟨gb227, 3, none⟩ = some (.slice A0_3 l0_3.length c0_3) := (blk_cell BK227.out 3).trans rfl; have hfz14_0 := blk_frozen BK227.out 0; have hfz14_1 := blk_frozen BK227.out 1; have hfz14_2 := blk_frozen BK227.out 2; have hfz14_3 := blk_frozen BK227.out 3; have hcz15_0 : w12.cell? ⟨gb228, 0, none⟩ = some (.int .i64 a1_0) := (blk_cell BK228.out 0).trans rfl; have hcz15_1 : w12.cell? ⟨gb228, 1, none⟩ = some (.int .i64 a1_1) := (blk_cell BK228.out 1).trans rfl; have hcz15_2 : w12.cell? ⟨gb228, 2, none⟩ = some (.int .i64 a1_2) := (blk_cell BK228.out 2).trans rfl; have hcz15_3 : w12.cell? ⟨gb228, 3, none⟩ = some (.slice A1_3 l1_3.length c1_3) := (blk_cell BK228.out 3).trans rfl; have hfz15_0 := blk_frozen BK228.out 0; have hfz15_1 := blk_frozen BK228.out 1; have hfz15_2 := blk_frozen BK228.out 2; have hfz15_3 := blk_frozen BK228.out 3))
   go_ret
   exact ⟨by first | rfl | (simp [errW_none, errW_some] <;> rfl) | (simp [*, errW_none, errW_some] <;> rfl), by repeat (first | (with_reducible first | exact HB.out | apply below_alloc | apply pw_below_drewN | apply below_drew1 | refine below_set ?_ GE227.out | refine below_set ?_ GE228.out) | exact HB.out)⟩
 ·
  rw [if_neg c3] at H
  have c3b0 : (a0_0 == a1_0) = false := beq_eq_false_iff_ne.mpr c3
  have c3b1 : (a0_0 != a1_0) = true := bne_iff_ne.mpr c3
  obtain rfl := Option.some.inj H
  go_enter Tryd.func20, Tryd.ntmps20
  go_wp2_with (first | ((with_reducible refine gate_dst (N := 2) rfl ?_); refine box_event ?hg (N := 2) ?hd (cs := #[.int .i64 a0_0, .int .i64 a0_1, .int .i64 a0_2, .slice A0_3 l0_3.length c0_3]) (t := 33) ?hr ?_; (case hd => rfl); (case hg => rfl); (case hr => first | (go_simp; done) | (go_simp; rfl)); intro gb227 hg w16 hbox hb; have n0_ := Aside0.mk (below_step (by repeat (first | (with_reducible first | exact HB.out | apply below_alloc | apply pw_below_drewN | apply below_drew1) | exact HB.out)) hb); have n1_ := Aside0.mk (hbox); have n2_ := Aside0.mk ((by rw [hg]; exact (below_size (by repeat (first | (with_reducible first | exact HB.out | apply below_alloc | apply pw_below_drewN | apply below_drew1) | exact HB.out))) : w.heap.size ≤ gb227)); have n3_ := Aside0.mk ((by rw [hg]; exact (below_size (by repeat (first | (with_reducible first | exact HB.out | apply below_alloc | apply pw_below_drewN | apply below_drew1) | exact HB.out))) : w.heap.size ≤ gb227)); clear HB; have HB := n0_; have BK227 := n1_; have GW227 := n2_; have GE227 := n3_; clear n0_ n1_ n2_ n3_; clear hb hbox hg) | ((with_reducible refine gate_dst (N := 3) rfl ?_); refine box_event ?hg (N := 3) ?hd (cs := #[.int .i64 a1_0, .int .i64 a1_1, .int .i64 a1_2, .slice A1_3 l1_3.length c1_3]) (t := 33) ?hr ?_; (case hd => rfl); (case hg => rfl); (case hr => first | (go_simp; done) | (go_simp; rfl)); intro gb228 hg w17 hbox hb; have n0_ := Aside0.mk (blk_below (g := gb227) (o := .cells #[.int .i64 a0_0, .int .i64 a0_1, .int .i64 a0_2, .slice A0_3 l0_3.length c0_3] 33 (0, 0)) (by (with_reducible repeat (first | refine blk_drewN ?_ _ | refine blk_drew ?_ | refine blk_alloc ?_ _)); exact BK227.out) hb); have n1_ := Aside0.mk (below_step (by repeat (first | (with_reducible first | exact HB.out | apply below_alloc | apply pw_below_drewN | apply below_drew1 | refine below_set ?_ GE227.out) | exact HB.out)) hb); have n2_ := Aside0.mk (hbox); have n3_ := Aside0.mk ((by rw [hg]; exact (below_size (by repeat (first | (with_reducible first | exact HB.out | apply below_alloc | apply pw_below_drewN | apply below_drew1 | refine below_set ?_ GE227.out) | exact HB.out))) : w.heap.size ≤ gb228)); have n4_ := Aside0.mk ((by rw [hg]; exact (below_size (by repeat (first | (with_reducible first | exact HB.out | apply below_alloc | apply pw_below_drewN | apply below_drew1 | refine below_set ?_ GE227.out) | exact HB.out))) : w.heap.size ≤ gb228)); have n5_ := Aside0.mk ((by rw [hg]; exact Nat.ne_of_lt (blk_lt (g := gb227) (o := .cells #[.int .i64 a0_0, .int .i64 a0_1, .int .i64 a0_2, .slice A0_3 l0_3.length c0_3] 33 (0, 0)) (by (with_reducible repeat (first | refine blk_drewN ?_ _ | refine blk_drew ?_ | refine blk_alloc ?_ _)); exact BK227.out)) : gb227 ≠ gb228)); have n6_ := Aside0.mk ((by rw [hg]; exact Nat.ne_of_gt (blk_lt (g := gb227) (o := .cells #[.int .i64 a0_0, .int .i64 a0_1, .int .i64 a0_2, .slice A0_3 l0_3.length c0_3] 33 (0, 0)) (by (with_reducible repeat (first | refine blk_drewN ?_ _ | refine blk_drew ?_ | refine blk_alloc ?_ _)); exact BK227.out)) : gb228 ≠ gb227)); clear BK227; clear HB; have BK227 := n0_; have HB := n1_; have BK228 := n2_; have GW228 := n3_; have GE228 := n4_; have NB227_228 := n5_; have NB228_227 := n6_; clear n0_ n1_ n2_ n3_ n4_ n5_ n6_; clear hb hbox hg; have hnb18 := NB227_228.out; have hnc18 := NB228_227.out; have hcz19_0 : w17.cell? ⟨gb227, 0, none⟩ = some (.int .i64 a0_0) := (blk_cell BK227.out 0).trans rfl; have hcz19_1 : w17.cell? ⟨gb227, 1, none⟩ = some (.int .i64 a0_1) := (blk_cell BK227.out 1).trans rfl; have hcz19_2 : w17.cell? ⟨gb227, 2, none⟩ = some (.int .i64 a0_2) := (blk_cell BK227.out 2).trans rfl; have hcz19_3 : w17.cell? ⟨gb227, 3, none⟩ = some (.slice A0_3 l0_3.length c0_3) := (blk_cell BK227.out 3).trans rfl; have hfz19_0 := blk_frozen BK227.out 0; have hfz19_1 := blk_frozen BK227.out 1; have hfz19_2 := blk_frozen BK227.out 2; have hfz19_3 := blk_frozen BK227.out 3; have hcz20_0 : w17.cell? ⟨gb228, 0, none⟩ = some (.int .i64 a1_0) := (blk_cell BK228.out 0).trans rfl; have hcz20_1 : w17.cell? ⟨gb228, 1, none⟩ = some (.int .i64 a1_1) := (blk_cell BK228.out 1).trans rfl; have hcz20_2 : w17.cell? ⟨gb228, 2, none⟩ = some (.int .i64 a1_2) := (blk_cell BK228.out 2).trans rfl; have hcz20_3 : w17.cell? ⟨gb228, 3, none⟩ = some (.slice A1_3 l1_3.length c1_3) := (blk_cell BK228.out 3).trans rfl; have hfz20_0 := blk_frozen BK228.out 0; have hfz20_1 := blk_frozen BK228.out 1; have hfz20_2 := blk_frozen BK228.out 2; have hfz20_3 := blk_frozen BK228.out 3))
  go_ret
  exact ⟨by first | rfl | (simp [errW_none, errW_some] <;> rfl) | (simp [*, errW_none, errW_some] <;> rfl), by repeat (first | (with_reducible first | exact HB.out | apply below_alloc | apply pw_below_drewN | apply below_drew1 | refine below_set ?_ GE227.out | refine below_set ?_ GE228.out) | exact HB.out)⟩
end Go.Proofs.YtgjoenoknknoiaaDoor.Pr
namespace Go.Proofs.YtgjoenoknknoiaaDoor.Pr
open Go.RowKit Go.Proofs.YtgjoenoknknoiaaDoorW.PrintWords Go.Proofs.YtgjoenoknknoiaaDoorW.PrintLast Go.Proofs.YtgjoenoknknoiaaDoorW.PrintMore Go.Proofs.YtgjoenoknknoiaaDoor.X
attribute [local go_sem] max2_int min2_int max_two min_two max_three min_three max_four min_four   -- for this text's walks alone
set_option linter.unusedVariables false
set_option linter.unusedSimpArgs false
attribute [local go_sem high] eqA26
def spilelaw22_LotChecks.f (k : Nat) (l0 : List (S33)) (a1 : Int) (a2 : Int) : Option (Bool) := (spilelaw22_awake.f).bind fun t230 => (if t230 = true then ((spileref22_Few.f k l0).bind fun t231 => (if t231 = true then ((lot_Check.f k l0).bind fun bt232 => ((spileref22_Check.f k l0).bind fun bt234 => ((lot_Find.f k l0 a1).bind fun bt236 => ((spileref22_Find.f k l0 a1).bind fun bt244 => ((lot_Total.f k l0).bind fun bt252 => ((spileref22_Total.f k l0).bind fun bt256 => ((lot_Of.f k l0 a2).bind fun bt260 => ((spileref22_Of.f k l0 a2).bind fun bt262 => (if bt232.1 = bt234.1 then (if bt232.2 = bt234.2 then ((spileref22_SameLot.f k bt236.1 bt236.2.1 bt236.2.2.1 bt236.2.2.2.1 bt244.1 bt244.2.1 bt244.2.2.1 bt244.2.2.2.1).bind fun t264 => (if t264 = true then (if (bt236.2.2.2.2 == bt244.2.2.2.2) = true then (if (bt252.1 == bt256.1 && (bt252.2.1 == bt256.2.1)) = true then (if bt252.2.2 = bt256.2.2 then (if bt260.1 = bt262.1 then (some (bt260.2 == bt262.2)) else (some false)) else (some false)) else (some false)) else (some false)) else (some false))) else (some false)) else (some false)))))))))) else (some true))) else (some false))
theorem spilelaw22_LotChecks.mono : ∀ a0 a1 a2 k, LeO (spilelaw22_LotChecks.f k a0 a1 a2) (spilelaw22_LotChecks.f (k + 1) a0 a1 a2) := by
 intro a0 a1 a2 k
 unfold spilelaw22_LotChecks.f
 repeat' first
   | (with_reducible exact lot_Check.mono _ _)
   | (with_reducible exact lot_Find.mono _ _ _)
   | (with_reducible exact lot_Of.mono _ _ _)
   | (with_reducible exact lot_Total.mono _ _)
   | (with_reducible exact spileref22_Check.mono _ _)
   | (with_reducible exact spileref22_Few.mono _ _)
   | (with_reducible exact spileref22_Find.mono _ _ _)
   | (with_reducible exact spileref22_Of.mono _ _ _)
   | (with_reducible exact spileref22_SameLot.mono _ _ _ _ _ _ _ _ _)
   | (with_reducible exact spileref22_Total.mono _ _)
   | (with_reducible exact LeO.refl _)
   | (with_reducible exact LeO.none _)
   | (with_reducible refine LeO.ite ?_ ?_)
   | (with_reducible refine LeO.bind ?_ (fun _ => ?_))
   | exact lot_Check.mono _ _
   | exact lot_Find.mono _ _ _
   | exact lot_Of.mono _ _ _
   | exact lot_Total.mono _ _
   | exact spileref22_Check.mono _ _
   | exact spileref22_Few.mono _ _
   | exact spileref22_Find.mono _ _ _
   | exact spileref22_Of.mono _ _ _
   | exact spileref22_SameLot.mono _ _ _ _ _ _ _ _ _
   | exact spileref22_Total.mono _ _
   | exact LeO.none _
   | refine LeO.ite ?_ ?_
   | refine LeO.bind ?_ (fun _ => ?_)
def lot_Put_1.f (a0 : Int) (l1_0 : List (S33)) (a2_0 : Int) (a2_1 : Int) (a2_2 : Int) (l2_3 : List (S35)) : Option (Bool) := if 0 ≤ a0 then (if a0 < (l1_0.length : Int) then (some (decide (((rd_T33 l1_0 a0).f0) ≥ a2_0))) else (none)) else (none)
set_option maxHeartbeats 8000000 in
set_option maxRecDepth 100000 in
theorem lot_Put_1.calls (a0 : Int) (B1 : Nat) (A1_0 : Option Addr) (c1_0 : Nat) (l1_0 : List (S33)) (B2 : Nat) (a2_0 : Int) (a2_1 : Int) (a2_2 : Int) (A2_3 : Option Addr) (c2_3 : Nat) (l2_3 : List (S35)) (r : Bool) (w : World) (hr1_0 : Kd.C k33 w A1_0 l1_0.length l1_0) (hc1_0 : l1_0.length ≤ c1_0) (hr2_3 : Kd.C k35 w A2_3 l2_3.length l2_3) (hc2_3 : l2_3.length ≤ c2_3) (hb1 : w.heap[B1]? = some (.cells #[.slice A1_0 l1_0.length c1_0] 22 (0, 0))) (hb2 : w.heap[B2]? = some (.cells #[.int .i64 a2_0, .int .i64 a2_1, .int .i64 a2_2, .slice A2_3 l2_3.length c2_3] 33 (0, 0))) (h : lot_Put_1.f a0 l1_0 a2_0 a2_1 a2_2 l2_3 = some r) :
  Calls Tryd.prog 45 #[.int .i64 a0, .pointer (some ⟨B1, 0, none⟩), .pointer (some ⟨B2, 0, none⟩)] w fun e w' => e = .returned (.bool r) ∧ Drawn0 w w' := by
 have HR1_0 := Aside0.mk hr1_0
 have HC1_0 := Aside0.mk hc1_0
 clear hr1_0 hc1_0
 have HR2_3 := Aside0.mk hr2_3
 have HC2_3 := Aside0.mk hc2_3
 clear hr2_3 hc2_3
 have BK5001 := Aside0.mk hb1
 clear hb1
 have BK5002 := Aside0.mk hb2
 clear hb2
 have H : (if 0 ≤ a0 then (if a0 < (l1_0.length : Int) then (some (decide (((rd_T33 l1_0 a0).f0) ≥ a2_0))) else (none)) else (none)) = some r := h
 clear h
 by_cases c4 : 0 ≤ a0
 ·
  rw [if_pos c4] at H
  have c4b0 : decide (0 ≤ a0) = true := decide_eq_true c4
  clear c4
  by_cases c5 : a0 < (l1_0.length : Int)
  ·
   rw [if_pos c5] at H
   have c5b0 : decide (a0 < (l1_0.length : Int)) = true := decide_eq_true c5
   clear c5
   obtain rfl := Option.some.inj H
   have hcz6_0 : w.cell? ⟨B1, 0, none⟩ = some (.slice A1_0 l1_0.length c1_0) := (blk_cell BK5001.out 0).trans rfl
   have hfz6_0 := blk_frozen BK5001.out 0
   have p265 : 0 ≤ (a0 : Int) := of_decide_eq_true (by first | (with_reducible assumption) | assumption)
   have q265 : a0 < (l1_0.length : Int) := of_decide_eq_true (by first | (with_reducible assumption) | assumption)
   obtain ⟨ad265, A265_3, c265_3, e265, hx265_0, hx265_1, hx265_2, hx265_3, hl265_3, hi265_3⟩ := at_T33 HR1_0.out a0 p265 q265
   cases e265
   have HR265_3 := Aside0.mk hi265_3
   have HC265_3 := Aside0.mk hl265_3
   clear hi265_3 hl265_3
   replace p265 := eq_true p265
   replace q265 := eq_true q265
   have hcz7_0 : w.cell? ⟨B2, 0, none⟩ = some (.int .i64 a2_0) := (blk_cell BK5002.out 0).trans rfl
   have hcz7_1 : w.cell? ⟨B2, 1, none⟩ = some (.int .i64 a2_1) := (blk_cell BK5002.out 1).trans rfl
   have hcz7_2 : w.cell? ⟨B2, 2, none⟩ = some (.int .i64 a2_2) := (blk_cell BK5002.out 2).trans rfl
   have hcz7_3 : w.cell? ⟨B2, 3, none⟩ = some (.slice A2_3 l2_3.length c2_3) := (blk_cell BK5002.out 3).trans rfl
   have hfz7_0 := blk_frozen BK5002.out 0
   have hfz7_1 := blk_frozen BK5002.out 1
   have hfz7_2 := blk_frozen BK5002.out 2
   have hfz7_3 := blk_frozen BK5002.out 3
   go_enter Tryd.func45, Tryd.ntmps45
   go_wp2
   repeat (go_quiet (fail); try go_wp2)
   go_ret
   exact ⟨by first | rfl | (simp; done) | (simp [*]; done), by repeat (first | exact Drawn0.refl _ | apply Drawn0.step)⟩
  ·
   rw [if_neg c5] at H
   exact absurd H (by simp)
 ·
  rw [if_neg c4] at H
  exact absurd H (by simp)
def sort_Search_44_at_45.l0 : Nat → Int → Int → List (S33) → Int → Int → Int → List (S35) → Option (Int)
 | 0, _, _, _, _, _, _, _ => none
 | k + 1, x5, x6, x5003000, x5004000, x5004001, x5004002, x5004003 => if x5 < x6 then ((lot_Put_1.f (wrap64 ((IntKind.u64.wrap (wrap64 (x5 + x6))) / 2)) x5003000 x5004000 x5004001 x5004002 x5004003).bind fun t266 => (if t266 = true then (sort_Search_44_at_45.l0 k x5 (wrap64 ((IntKind.u64.wrap (wrap64 (x5 + x6))) / 2)) x5003000 x5004000 x5004001 x5004002 x5004003) else (sort_Search_44_at_45.l0 k (wrap64 ((wrap64 ((IntKind.u64.wrap (wrap64 (x5 + x6))) / 2)) + 1)) x6 x5003000 x5004000 x5004001 x5004002 x5004003))) else (some x5)
def sort_Search_44_at_45.f (k : Nat) (a0 : Int)  (l2_0 : List (S33)) (a3_0 : Int) (a3_1 : Int) (a3_2 : Int) (l3_3 : List (S35)) : Option (Int) := sort_Search_44_at_45.l0 k 0 a0 l2_0 a3_0 a3_1 a3_2 l3_3
theorem sort_Search_44_at_45.mono_l : ∀ k, (∀ y0 y1 y2 y3 y4 y5 y6, LeO (sort_Search_44_at_45.l0 k y0 y1 y2 y3 y4 y5 y6) (sort_Search_44_at_45.l0 (k + 1) y0 y1 y2 y3 y4 y5 y6))
 | 0 => fun _ _ _ _ _ _ _ r h => by simp [sort_Search_44_at_45.l0] at h
 | k + 1 => by
  have ih0 := sort_Search_44_at_45.mono_l k
  ·
   intro y0 y1 y2 y3 y4 y5 y6
   unfold sort_Search_44_at_45.l0
   repeat' first
   | (with_reducible exact ih0 _ _ _ _ _ _ _)
   | (with_reducible exact LeO.refl _)
   | (with_reducible exact LeO.none _)
   | (with_reducible refine LeO.ite ?_ ?_)
   | (with_reducible refine LeO.bind ?_ (fun _ => ?_))
   | exact ih0 _ _ _ _ _ _ _
   | exact LeO.none _
   | refine LeO.ite ?_ ?_
   | refine LeO.bind ?_ (fun _ => ?_)
theorem sort_Search_44_at_45.mono : ∀ a0 a1 a2 a3 a4 a5 k, LeO (sort_Search_44_at_45.f k a0 a1 a2 a3 a4 a5) (sort_Search_44_at_45.f (k + 1) a0 a1 a2 a3 a4 a5) := by
 intro a0 a1 a2 a3 a4 a5 k
 have ih0 := sort_Search_44_at_45.mono_l k
 unfold sort_Search_44_at_45.f
 repeat' first
   | (with_reducible exact ih0 _ _ _ _ _ _ _)
   | (with_reducible exact LeO.refl _)
   | (with_reducible exact LeO.none _)
   | (with_reducible refine LeO.ite ?_ ?_)
   | (with_reducible refine LeO.bind ?_ (fun _ => ?_))
   | exact ih0 _ _ _ _ _ _ _
   | exact LeO.none _
   | refine LeO.ite ?_ ?_
   | refine LeO.bind ?_ (fun _ => ?_)
set_option maxHeartbeats 8000000 in
set_option maxRecDepth 100000 in
theorem sort_Search_44_at_45.calls (k : Nat) (a0 : Int)  (B2 : Nat) (A2_0 : Option Addr) (c2_0 : Nat) (l2_0 : List (S33)) (B3 : Nat) (a3_0 : Int) (a3_1 : Int) (a3_2 : Int) (A3_3 : Option Addr) (c3_3 : Nat) (l3_3 : List (S35)) (r : Int) (w : World) (hr2_0 : Kd.C k33 w A2_0 l2_0.length l2_0) (hc2_0 : l2_0.length ≤ c2_0) (hr3_3 : Kd.C k35 w A3_3 l3_3.length l3_3) (hc3_3 : l3_3.length ≤ c3_3) (hb2 : w.heap[B2]? = some (.cells #[.slice A2_0 l2_0.length c2_0] 22 (0, 0))) (hb3 : w.heap[B3]? = some (.cells #[.int .i64 a3_0, .int .i64 a3_1, .int .i64 a3_2, .slice A3_3 l3_3.length c3_3] 33 (0, 0))) (h : sort_Search_44_at_45.f k a0 l2_0 a3_0 a3_1 a3_2 l3_3 = some r) :
  Calls Tryd.prog 44 #[.int .i64 a0, .func (.func 45) #[] #[.pointer (some ⟨B2, 0, none⟩), .pointer (some ⟨B3, 0, none⟩)]] w fun e w' => e = .returned (.int .i64 r) ∧ Drawn0 w w' := by
 have HR2_0 := Aside0.mk hr2_0
 have HC2_0 := Aside0.mk hc2_0
 clear hr2_0 hc2_0
 have HR3_3 := Aside0.mk hr3_3
 have HC3_3 := Aside0.mk hc3_3
 clear hr3_3 hc3_3
 have BK5002 := Aside0.mk hb2
 clear hb2
 have BK5003 := Aside0.mk hb3
 clear hb3
 have H : (sort_Search_44_at_45.l0 k 0 a0 l2_0 a3_0 a3_1 a3_2 l3_3) = some r := h
 clear h
 have H' := Aside0.mk H
 clear H
 go_enter Tryd.func44, Tryd.ntmps44
 go_wp2
 go_loopg [5, 6] k (fun kq v5 v6 w' => ∃ (x5_1 : Int) (x6_1 : Int), v5 = .int .i64 x5_1 ∧ v6 = .int .i64 x6_1 ∧ Aside0 (sort_Search_44_at_45.l0 kq x5_1 x6_1 l2_0 a3_0 a3_1 a3_2 l3_3 = some r) ∧ Aside0 (kq ≤ k) ∧ Aside0 (w'.heap[B2]? = some (.cells #[(.slice A2_0 l2_0.length c2_0)] 22 (0, 0))) ∧ Aside0 (w'.heap[B3]? = some (.cells #[.int .i64 a3_0, .int .i64 a3_1, .int .i64 a3_2, (.slice A3_3 l3_3.length c3_3)] 33 (0, 0))) ∧ Drawn0 w w')
 case atStart => exact ⟨(0), (a0), (by first | rfl | (simp; done) | (simp [*]; done)), (by first | rfl | (simp; done) | (simp [*]; done)), H', ⟨Nat.le_refl _⟩, ⟨by (with_reducible repeat (first | refine blk_drewN ?_ _ | refine blk_drew ?_ | refine blk_alloc ?_ _)); exact BK5002.out⟩, ⟨by (with_reducible repeat (first | refine blk_drewN ?_ _ | refine blk_drew ?_ | refine blk_alloc ?_ _)); exact BK5003.out⟩, by repeat (first | exact Drawn0.refl _ | apply Drawn0.step)⟩
 case round =>
  clear H'
  try clear c2
  try clear p2
  try clear c3
  try clear c4
  obtain ⟨x5_1, x6_1, rfl, rfl, HA, HK1, BK5002, BK5003, ⟨m1, rfl⟩⟩ := hrel
  cases gk with
  | zero => exact absurd HA.out (by simp [sort_Search_44_at_45.l0])
  | succ k1 =>
   have H := HA.out
   clear HA
   simp only [sort_Search_44_at_45.l0] at H
   by_cases c5 : x5_1 < x6_1
   ·
    rw [if_pos c5] at H
    have c5b0 : decide (x5_1 < x6_1) = true := decide_eq_true c5
    clear c5
    replace H := Option.bind_eq_some_iff.mp H
    obtain ⟨t266, A60, H⟩ := H
    replace H : (if t266 = true then (sort_Search_44_at_45.l0 k1 x5_1 (wrap64 ((IntKind.u64.wrap (wrap64 (x5_1 + x6_1))) / 2)) l2_0 a3_0 a3_1 a3_2 l3_3) else (sort_Search_44_at_45.l0 k1 (wrap64 ((wrap64 ((IntKind.u64.wrap (wrap64 (x5_1 + x6_1))) / 2)) + 1)) x6_1 l2_0 a3_0 a3_1 a3_2 l3_3)) = some r := H
    have A6 := Aside0.mk A60
    clear A60
    by_cases c7 : t266 = true
    ·
     subst c7
     have H1 : (sort_Search_44_at_45.l0 k1 x5_1 (wrap64 ((IntKind.u64.wrap (wrap64 (x5_1 + x6_1))) / 2)) l2_0 a3_0 a3_1 a3_2 l3_3) = some r := by rw [if_pos rfl] at H; exact H
     clear H
     have H := H1
     clear H1
     have H' := Aside0.mk H
     clear H
     go_wp2_with (first | (go_at_call 45; (with_reducible refine (lot_Put_1.calls (wrap64 ((IntKind.u64.wrap (wrap64 (x5_1 + x6_1))) / 2))  B2 A2_0 c2_0 l2_0 B3 a3_0 a3_1 a3_2 A3_3 c3_3 l3_3 true _ ?side1 ?side2 ?side3 ?side4 ?side5 ?side6 A6.out).mono ?_); (case side1 => repeat (first | exact HR2_0.out | (with_reducible refine Kd.C_alloc ?_ _) | (with_reducible refine Kd.C_drewN ?_ _) | (with_reducible refine Kd.C_drew ?_))); (case side2 => exact HC2_0.out); (case side3 => repeat (first | exact HR3_3.out | (with_reducible refine Kd.C_alloc ?_ _) | (with_reducible refine Kd.C_drewN ?_ _) | (with_reducible refine Kd.C_drew ?_))); (case side4 => exact HC3_3.out); (case side5 => (with_reducible repeat (first | refine blk_drewN ?_ _ | refine blk_drew ?_ | refine blk_alloc ?_ _)); exact BK5002.out); (case side6 => (with_reducible repeat (first | refine blk_drewN ?_ _ | refine blk_drew ?_ | refine blk_alloc ?_ _)); exact BK5003.out); rintro e w' ⟨rfl, ⟨nd, rfl⟩⟩))
     go_roundg k1
     case measure => have := HK1.out; omega
     case rel => exact ⟨(x5_1), (wrap64 ((IntKind.u64.wrap (wrap64 (x5_1 + x6_1))) / 2)), (by first | rfl | (simp; done) | (simp [*]; done)), (by first | rfl | (simp; done) | (simp [*]; done)), H', ⟨by have := HK1.out; omega⟩, ⟨by (with_reducible repeat (first | refine blk_drewN ?_ _ | refine blk_drew ?_ | refine blk_alloc ?_ _)); exact BK5002.out⟩, ⟨by (with_reducible repeat (first | refine blk_drewN ?_ _ | refine blk_drew ?_ | refine blk_alloc ?_ _)); exact BK5003.out⟩, by repeat (first | exact Drawn0.refl _ | apply Drawn0.step)⟩
    ·
     replace c7 := Bool.eq_false_iff.mpr c7
     subst c7
     have H1 : (sort_Search_44_at_45.l0 k1 (wrap64 ((wrap64 ((IntKind.u64.wrap (wrap64 (x5_1 + x6_1))) / 2)) + 1)) x6_1 l2_0 a3_0 a3_1 a3_2 l3_3) = some r := by rw [if_neg (show ¬ (false = true) by decide)] at H; exact H
     clear H
     have H := H1
     clear H1
     have H' := Aside0.mk H
     clear H
     go_wp2_with (first | (go_at_call 45; (with_reducible refine (lot_Put_1.calls (wrap64 ((IntKind.u64.wrap (wrap64 (x5_1 + x6_1))) / 2))  B2 A2_0 c2_0 l2_0 B3 a3_0 a3_1 a3_2 A3_3 c3_3 l3_3 false _ ?side1 ?side2 ?side3 ?side4 ?side5 ?side6 A6.out).mono ?_); (case side1 => repeat (first | exact HR2_0.out | (with_reducible refine Kd.C_alloc ?_ _) | (with_reducible refine Kd.C_drewN ?_ _) | (with_reducible refine Kd.C_drew ?_))); (case side2 => exact HC2_0.out); (case side3 => repeat (first | exact HR3_3.out | (with_reducible refine Kd.C_alloc ?_ _) | (with_reducible refine Kd.C_drewN ?_ _) | (with_reducible refine Kd.C_drew ?_))); (case side4 => exact HC3_3.out); (case side5 => (with_reducible repeat (first | refine blk_drewN ?_ _ | refine blk_drew ?_ | refine blk_alloc ?_ _)); exact BK5002.out); (case side6 => (with_reducible repeat (first | refine blk_drewN ?_ _ | refine blk_drew ?_ | refine blk_alloc ?_ _)); exact BK5003.out); rintro e w' ⟨rfl, ⟨nd, rfl⟩⟩))
     go_roundg k1
     case measure => have := HK1.out; omega
     case rel => exact ⟨(wrap64 ((wrap64 ((IntKind.u64.wrap (wrap64 (x5_1 + x6_1))) / 2)) + 1)), (x6_1), (by first | rfl | (simp; done) | (simp [*]; done)), (by first | rfl | (simp; done) | (simp [*]; done)), H', ⟨by have := HK1.out; omega⟩, ⟨by (with_reducible repeat (first | refine blk_drewN ?_ _ | refine blk_drew ?_ | refine blk_alloc ?_ _)); exact BK5002.out⟩, ⟨by (with_reducible repeat (first | refine blk_drewN ?_ _ | refine blk_drew ?_ | refine blk_alloc ?_ _)); exact BK5003.out⟩, by repeat (first | exact Drawn0.refl _ | apply Drawn0.step)⟩
   ·
    rw [if_neg c5] at H
    have c5b0 : decide (x5_1 < x6_1) = false := decide_eq_false c5
    clear c5
    obtain rfl := Option.some.inj H
    go_wp2
    go_ret
    exact ⟨by first | rfl | (simp; done) | (simp [*]; done), by repeat (first | exact Drawn0.refl _ | apply Drawn0.step)⟩
end Go.Proofs.YtgjoenoknknoiaaDoor.Pr
