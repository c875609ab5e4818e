/-
A part of what these laws rest on: contracts of the functions that they reach, and plain lemmas.
-/
import Derived.Test.YtgjoenoknknoiaaDoorLotPlacesE
set_option linter.unusedVariables false
set_option linter.unusedSimpArgs false
namespace Go.Proofs.YtgjoenoknknoiaaDoor.Pr
open Go.RowKit Go.Proofs.YtgjoenoknknoiaaDoorW.PrintWords Go.Proofs.YtgjoenoknknoiaaDoorW.PrintLast Go.Proofs.YtgjoenoknknoiaaDoorW.PrintMore Go.Proofs.YtgjoenoknknoiaaDoor.X
attribute [local go_sem] max2_int min2_int max_two min_two max_three min_three max_four min_four   -- for this text's walks alone
set_option linter.unusedVariables false
set_option linter.unusedSimpArgs false
attribute [local go_sem high] eqA26
def spileref22_Empty.f (a0_0 : Int) (a0_1 : Int) (a0_2 : Int) (l0_3 : List (S35)) : Option (Bool) := if (a0_1 == 0 && (a0_2 == 0)) = true then (some ((l0_3.length : Int) == 0)) else (some false)
mutual
def spileref22_Set.l0 : Nat → List (S33) → List (S33) → Bool → Int → Int → Int → Int → List (S35) → Option ((List (S33)))
 | 0, _, _, _, _, _, _, _, _ => none
 | k + 1, x0, x5, x6, x7, x323000, x323001, x323002, x323003 => if x7 < (x0.length : Int) then (if x6 = true then (spileref22_Set.j1 k x0 x5 x6 x7 false x323000 x323001 x323002 x323003) else (if 0 ≤ x7 then (spileref22_Set.j1 k x0 x5 x6 x7 (decide (((rd_T33 x0 x7).f0) ≥ x323000)) x323000 x323001 x323002 x323003) else (none))) else (if x6 = true then (some x5) else ((spileref22_Copy.f x323000 x323001 x323002 x323003).bind fun bt327 => (if x5.length < 2932031007402 then (some (x5 ++ [(⟨bt327.1, (⟨bt327.2.1, bt327.2.2.1⟩ : S26), bt327.2.2.2⟩ : S33)])) else (none))))
def spileref22_Set.j1 : Nat → List (S33) → List (S33) → Bool → Int → Bool → Int → Int → Int → List (S35) → Option ((List (S33)))
 | 0, _, _, _, _, _, _, _, _, _ => none
 | k + 1, x0, x5, x6, x7, x28, x323000, x323001, x323002, x323003 => if x28 = true then ((spileref22_Copy.f x323000 x323001 x323002 x323003).bind fun bt337 => (if x5.length < 2932031007402 then ((some (x5 ++ [(⟨bt337.1, (⟨bt337.2.1, bt337.2.2.1⟩ : S26), bt337.2.2.2⟩ : S33)] : List (S33))).bind fun y343 => (if 0 ≤ x7 then (if x7 < (x0.length : Int) then (if ((rd_T33 x0 x7).f0) = x323000 then (spileref22_Set.l0 k x0 y343 true (wrap64 (x7 + 1)) x323000 x323001 x323002 x323003) else ((spileref22_Copy.f ((rd_T33 x0 x7).f0) ((rd_T33 x0 x7).f1.f0) ((rd_T33 x0 x7).f1.f1) ((rd_T33 x0 x7).f2)).bind fun bt348 => (if y343.length < 2932031007402 then (spileref22_Set.l0 k x0 (y343 ++ [(⟨bt348.1, (⟨bt348.2.1, bt348.2.2.1⟩ : S26), bt348.2.2.2⟩ : S33)]) true (wrap64 (x7 + 1)) x323000 x323001 x323002 x323003) else (none)))) else (none)) else (none))) else (none))) else (if 0 ≤ x7 then (if x7 < (x0.length : Int) then (if ((rd_T33 x0 x7).f0) = x323000 then (spileref22_Set.l0 k x0 x5 x6 (wrap64 (x7 + 1)) x323000 x323001 x323002 x323003) else ((spileref22_Copy.f ((rd_T33 x0 x7).f0) ((rd_T33 x0 x7).f1.f0) ((rd_T33 x0 x7).f1.f1) ((rd_T33 x0 x7).f2)).bind fun bt359 => (if x5.length < 2932031007402 then (spileref22_Set.l0 k x0 (x5 ++ [(⟨bt359.1, (⟨bt359.2.1, bt359.2.2.1⟩ : S26), bt359.2.2.2⟩ : S33)]) x6 (wrap64 (x7 + 1)) x323000 x323001 x323002 x323003) else (none)))) else (none)) else (none))
end
def spileref22_Set.f (k : Nat) (l0 : List (S33)) (a1_0 : Int) (a1_1 : Int) (a1_2 : Int) (l1_3 : List (S35)) : Option ((List (S33))) := (spileref22_Empty.f a1_0 a1_1 a1_2 l1_3).bind fun t326 => (spileref22_Set.l0 k l0 (([] : List (S33))) t326 0 a1_0 a1_1 a1_2 l1_3)
theorem spileref22_Set.mono_l : ∀ k, (∀ y0 y1 y2 y3 y4 y5 y6 y7, LeO (spileref22_Set.l0 k y0 y1 y2 y3 y4 y5 y6 y7) (spileref22_Set.l0 (k + 1) y0 y1 y2 y3 y4 y5 y6 y7)) ∧ (∀ y0 y1 y2 y3 y4 y5 y6 y7 y8, LeO (spileref22_Set.j1 k y0 y1 y2 y3 y4 y5 y6 y7 y8) (spileref22_Set.j1 (k + 1) y0 y1 y2 y3 y4 y5 y6 y7 y8))
 | 0 => ⟨fun _ _ _ _ _ _ _ _ r h => by simp [spileref22_Set.l0] at h, fun _ _ _ _ _ _ _ _ _ r h => by simp [spileref22_Set.j1] at h⟩
 | k + 1 => by
  obtain ⟨ih0, ih1⟩ := spileref22_Set.mono_l k
  refine ⟨?_, ?_⟩
  ·
   intro y0 y1 y2 y3 y4 y5 y6 y7
   unfold spileref22_Set.l0
   repeat' first
   | (with_reducible exact ih0 _ _ _ _ _ _ _ _)
   | (with_reducible exact ih1 _ _ _ _ _ _ _ _ _)
   | (with_reducible exact LeO.refl _)
   | (with_reducible exact LeO.none _)
   | (with_reducible refine LeO.ite ?_ ?_)
   | (with_reducible refine LeO.bind ?_ (fun _ => ?_))
   | exact ih0 _ _ _ _ _ _ _ _
   | exact ih1 _ _ _ _ _ _ _ _ _
   | exact LeO.none _
   | refine LeO.ite ?_ ?_
   | refine LeO.bind ?_ (fun _ => ?_)
  ·
   intro y0 y1 y2 y3 y4 y5 y6 y7 y8
   unfold spileref22_Set.j1
   repeat' first
   | (with_reducible exact ih0 _ _ _ _ _ _ _ _)
   | (with_reducible exact ih1 _ _ _ _ _ _ _ _ _)
   | (with_reducible exact LeO.refl _)
   | (with_reducible exact LeO.none _)
   | (with_reducible refine LeO.ite ?_ ?_)
   | (with_reducible refine LeO.bind ?_ (fun _ => ?_))
   | exact ih0 _ _ _ _ _ _ _ _
   | exact ih1 _ _ _ _ _ _ _ _ _
   | exact LeO.none _
   | refine LeO.ite ?_ ?_
   | refine LeO.bind ?_ (fun _ => ?_)
theorem spileref22_Set.mono : ∀ a0 a1 a2 a3 a4 k, LeO (spileref22_Set.f k a0 a1 a2 a3 a4) (spileref22_Set.f (k + 1) a0 a1 a2 a3 a4) := by
 intro a0 a1 a2 a3 a4 k
 obtain ⟨ih0, ih1⟩ := spileref22_Set.mono_l k
 unfold spileref22_Set.f
 repeat' first
   | (with_reducible exact ih0 _ _ _ _ _ _ _ _)
   | (with_reducible exact ih1 _ _ _ _ _ _ _ _ _)
   | (with_reducible exact LeO.refl _)
   | (with_reducible exact LeO.none _)
   | (with_reducible refine LeO.ite ?_ ?_)
   | (with_reducible refine LeO.bind ?_ (fun _ => ?_))
   | exact ih0 _ _ _ _ _ _ _ _
   | exact ih1 _ _ _ _ _ _ _ _ _
   | exact LeO.none _
   | refine LeO.ite ?_ ?_
   | refine LeO.bind ?_ (fun _ => ?_)
def spileref22_Put.j0 : Nat → List (S33) → Int → Bool → Int → Int → Int → List (S35) → Option ((List (S33)) × Int)
 | 0, _, _, _, _, _, _, _ => none
 | k + 1, x0, x6, x23, x369000, x369001, x369002, x369003 => if x23 = true then (some (([] : List (S33)), x6)) else ((spileref22_Set.f k x0 x369000 x369001 x369002 x369003).bind fun t373 => (if (t373.length : Int) > 32 then (some (([] : List (S33)), 8)) else (some (t373, 0))))
def spileref22_Put.f (k : Nat) (l0 : List (S33)) (a1_0 : Int) (a1_1 : Int) (a1_2 : Int) (l1_3 : List (S35)) : Option ((List (S33)) × Int) := (spileref22_Right.f k l0).bind fun t369 => (if t369 = true then ((spileref22_ID.f a1_0).bind fun t370 => (if t370 = true then ((spileref22_One.f k a1_0 a1_1 a1_2 l1_3).bind fun t371 => (if t371 = 0 then (spileref22_Put.j0 k l0 t371 false a1_0 a1_1 a1_2 l1_3) else ((spileref22_Empty.f a1_0 a1_1 a1_2 l1_3).bind fun t372 => (spileref22_Put.j0 k l0 t371 (!t372) a1_0 a1_1 a1_2 l1_3)))) else (some (([] : List (S33)), 2)))) else (some (([] : List (S33)), 1)))
theorem spileref22_Put.mono_l : ∀ k, (∀ y0 y1 y2 y3 y4 y5 y6, LeO (spileref22_Put.j0 k y0 y1 y2 y3 y4 y5 y6) (spileref22_Put.j0 (k + 1) y0 y1 y2 y3 y4 y5 y6))
 | 0 => fun _ _ _ _ _ _ _ r h => by simp [spileref22_Put.j0] at h
 | k + 1 => by
  have ih0 := spileref22_Put.mono_l k
  ·
   intro y0 y1 y2 y3 y4 y5 y6
   unfold spileref22_Put.j0
   repeat' first
   | (with_reducible exact ih0 _ _ _ _ _ _ _)
   | (with_reducible exact spileref22_One.mono _ _ _ _ _)
   | (with_reducible exact spileref22_Right.mono _ _)
   | (with_reducible exact spileref22_Set.mono _ _ _ _ _ _)
   | (with_reducible exact LeO.refl _)
   | (with_reducible exact LeO.none _)
   | (with_reducible refine LeO.ite ?_ ?_)
   | (with_reducible refine LeO.bind ?_ (fun _ => ?_))
   | exact ih0 _ _ _ _ _ _ _
   | exact spileref22_One.mono _ _ _ _ _
   | exact spileref22_Right.mono _ _
   | exact spileref22_Set.mono _ _ _ _ _ _
   | exact LeO.none _
   | refine LeO.ite ?_ ?_
   | refine LeO.bind ?_ (fun _ => ?_)
theorem spileref22_Put.mono : ∀ a0 a1 a2 a3 a4 k, LeO (spileref22_Put.f k a0 a1 a2 a3 a4) (spileref22_Put.f (k + 1) a0 a1 a2 a3 a4) := by
 intro a0 a1 a2 a3 a4 k
 have ih0 := spileref22_Put.mono_l k
 unfold spileref22_Put.f
 repeat' first
   | (with_reducible exact ih0 _ _ _ _ _ _ _)
   | (with_reducible exact spileref22_One.mono _ _ _ _ _)
   | (with_reducible exact spileref22_Right.mono _ _)
   | (with_reducible exact spileref22_Set.mono _ _ _ _ _ _)
   | (with_reducible exact LeO.refl _)
   | (with_reducible exact LeO.none _)
   | (with_reducible refine LeO.ite ?_ ?_)
   | (with_reducible refine LeO.bind ?_ (fun _ => ?_))
   | exact ih0 _ _ _ _ _ _ _
   | exact spileref22_One.mono _ _ _ _ _
   | exact spileref22_Right.mono _ _
   | exact spileref22_Set.mono _ _ _ _ _ _
   | exact LeO.none _
   | refine LeO.ite ?_ ?_
   | refine LeO.bind ?_ (fun _ => ?_)
end Go.Proofs.YtgjoenoknknoiaaDoor.Pr
namespace Go.Proofs.YtgjoenoknknoiaaDoor.Pr
open Go.RowKit Go.Proofs.YtgjoenoknknoiaaDoorW.PrintWords Go.Proofs.YtgjoenoknknoiaaDoorW.PrintLast Go.Proofs.YtgjoenoknknoiaaDoorW.PrintMore Go.Proofs.YtgjoenoknknoiaaDoor.X
attribute [local go_sem] max2_int min2_int max_two min_two max_three min_three max_four min_four   -- for this text's walks alone
set_option linter.unusedVariables false
set_option linter.unusedSimpArgs false
def spileref22_Same.l0 : Nat → List (S33) → List (S33) → Int → Option (Bool)
 | 0, _, _, _ => none
 | k + 1, x0, x1, x5 => if x5 < (x0.length : Int) then (if 0 ≤ x5 then (if x5 < (x1.length : Int) then ((spileref22_SameLot.f k ((rd_T33 x0 x5).f0) ((rd_T33 x0 x5).f1.f0) ((rd_T33 x0 x5).f1.f1) ((rd_T33 x0 x5).f2) ((rd_T33 x1 x5).f0) ((rd_T33 x1 x5).f1.f0) ((rd_T33 x1 x5).f1.f1) ((rd_T33 x1 x5).f2)).bind fun t378 => (if t378 = true then (spileref22_Same.l0 k x0 x1 (wrap64 (x5 + 1))) else (some false))) else (none)) else (none)) else (some true)
def spileref22_Same.f (k : Nat) (l0 : List (S33)) (l1 : List (S33)) : Option (Bool) := if (l0.length : Int) = (l1.length : Int) then (spileref22_Same.l0 k l0 l1 0) else (some false)
theorem spileref22_Same.mono_l : ∀ k, (∀ y0 y1 y2, LeO (spileref22_Same.l0 k y0 y1 y2) (spileref22_Same.l0 (k + 1) y0 y1 y2))
 | 0 => fun _ _ _ r h => by simp [spileref22_Same.l0] at h
 | k + 1 => by
  have ih0 := spileref22_Same.mono_l k
  ·
   intro y0 y1 y2
   unfold spileref22_Same.l0
   repeat' first
   | (with_reducible exact ih0 _ _ _)
   | (with_reducible exact spileref22_SameLot.mono _ _ _ _ _ _ _ _ _)
   | (with_reducible exact LeO.refl _)
   | (with_reducible exact LeO.none _)
   | (with_reducible refine LeO.ite ?_ ?_)
   | (with_reducible refine LeO.bind ?_ (fun _ => ?_))
   | exact ih0 _ _ _
   | exact spileref22_SameLot.mono _ _ _ _ _ _ _ _ _
   | exact LeO.none _
   | refine LeO.ite ?_ ?_
   | refine LeO.bind ?_ (fun _ => ?_)
theorem spileref22_Same.mono : ∀ a0 a1 k, LeO (spileref22_Same.f k a0 a1) (spileref22_Same.f (k + 1) a0 a1) := by
 intro a0 a1 k
 have ih0 := spileref22_Same.mono_l k
 unfold spileref22_Same.f
 repeat' first
   | (with_reducible exact ih0 _ _ _)
   | (with_reducible exact spileref22_SameLot.mono _ _ _ _ _ _ _ _ _)
   | (with_reducible exact LeO.refl _)
   | (with_reducible exact LeO.none _)
   | (with_reducible refine LeO.ite ?_ ?_)
   | (with_reducible refine LeO.bind ?_ (fun _ => ?_))
   | exact ih0 _ _ _
   | exact spileref22_SameLot.mono _ _ _ _ _ _ _ _ _
   | exact LeO.none _
   | refine LeO.ite ?_ ?_
   | refine LeO.bind ?_ (fun _ => ?_)
def spileref22_Same.T6 : Bool × List (List Nat × List Nat) := (true, [([], []), ([], []), ([0, 1], [0, 1]), ([2], [2]), ([], []), ([], []), ([4, 5], [4, 5]), ([6], [6]), ([3, 7], [3, 7]), ([8], [8])])
def spileref22_Same.B6 : List Nat := [0, 0, 3, 7, 0, 0, 48, 112, 255, 511]
theorem spileref22_Same.tab6 : rtab .any (opsOf Tryd.f24 6) = spileref22_Same.T6 := by kernel_rfl
theorem spileref22_Same.bits6 : waitsOk spileref22_Same.T6.2 spileref22_Same.B6 = true := by kernel_rfl
set_option maxHeartbeats 8000000 in
set_option maxRecDepth 100000 in
theorem spileref22_Same.calls (k : Nat) (A0 : Option Addr) (c0 : Nat) (l0 : List (S33)) (A1 : Option Addr) (c1 : Nat) (l1 : List (S33)) (r : Bool) (w : World) (hr0 : Kd.C k33 w A0 l0.length l0) (hc0 : l0.length ≤ c0) (hr1 : Kd.C k33 w A1 l1.length l1) (hc1 : l1.length ≤ c1) (h : spileref22_Same.f k l0 l1 = some r) :
  Calls Tryd.prog 24 #[.slice A0 l0.length c0, .slice A1 l1.length c1] w fun e w' => e = .returned (.bool r) ∧ Below w.heap.size w w' := by
 have hu33 := Tryd.underlying33
 have HR0 := Aside0.mk hr0
 have HC0 := Aside0.mk hc0
 clear hr0 hc0
 have HR1 := Aside0.mk hr1
 have HC1 := Aside0.mk hc1
 clear hr1 hc1
 have HB := Aside0.mk (Below.refl w.heap.size w)
 have H : (if (l0.length : Int) = (l1.length : Int) then (spileref22_Same.l0 k l0 l1 0) else (some false)) = some r := h
 clear h
 by_cases c3 : (l0.length : Int) = (l1.length : Int)
 ·
  rw [if_pos c3] at H
  have c3b0 : ((l0.length : Int) == (l1.length : Int)) = true := beq_iff_eq.mpr c3
  have c3b1 : ((l0.length : Int) != (l1.length : Int)) = false := bne_eq_false_iff_eq.mpr c3
  have c3b2 : (l0.length == l1.length) = true := by first | simpa using c3 | (simp at c3 ⊢; omega)
  clear c3
  have H' := Aside0.mk H
  clear H
  go_enter Tryd.func24, Tryd.ntmps24
  go_wp2
  go_loopg [5] k (fun kq v5 w' => ∃ (x5_1 : Int), v5 = .int .i64 x5_1 ∧ Aside0 (spileref22_Same.l0 kq l0 l1 x5_1 = some r) ∧ Aside0 (kq ≤ k) ∧ Aside0 (Below w.heap.size w w'))
  case atStart => exact ⟨(0), (by first | rfl | (simp; done) | (simp [*]; done)), H', ⟨Nat.le_refl _⟩, ⟨by repeat (first | (with_reducible first | exact HB.out | apply below_alloc | apply pw_below_drewN | apply below_drew1) | exact HB.out)⟩⟩
  case round =>
   clear H'
   try clear c1
   try clear c2
   try clear p2
   try clear c3
   try clear c3b0
   try clear c3b1
   try clear c3b2
   obtain ⟨x5_1, rfl, HA, HK1, HB⟩ := hrel
   cases gk with
   | zero => exact absurd HA.out (by simp [spileref22_Same.l0])
   | succ k1 =>
    have H := HA.out
    clear HA
    simp only [spileref22_Same.l0] at H
    by_cases c4 : x5_1 < (l0.length : Int)
    ·
     rw [if_pos c4] at H
     have c4b0 : decide (x5_1 < (l0.length : Int)) = true := decide_eq_true c4
     clear c4
     by_cases c5 : 0 ≤ x5_1
     ·
      rw [if_pos c5] at H
      have c5b0 : decide (0 ≤ x5_1) = true := decide_eq_true c5
      clear c5
      by_cases c6 : x5_1 < (l1.length : Int)
      ·
       rw [if_pos c6] at H
       have c6b0 : decide (x5_1 < (l1.length : Int)) = true := decide_eq_true c6
       clear c6
       replace H := Option.bind_eq_some_iff.mp H
       obtain ⟨t378, A70, H⟩ := H
       replace H : (if t378 = true then (spileref22_Same.l0 k1 l0 l1 (wrap64 (x5_1 + 1))) else (some false)) = some r := H
       have A7 := Aside0.mk A70
       clear A70
       by_cases c8 : t378 = true
       ·
        subst c8
        have H1 : (spileref22_Same.l0 k1 l0 l1 (wrap64 (x5_1 + 1))) = some r := by rw [if_pos rfl] at H; exact H
        clear H
        have H := H1
        clear H1
        have H' := Aside0.mk H
        clear H
        try go_wp2
        have n0_ := Aside0.mk (below_drew1 HB.out)
        clear HB
        have HB := n0_
        clear n0_
        have p376 : 0 ≤ (x5_1 : Int) := of_decide_eq_true (by first | (with_reducible assumption) | assumption)
        have q376 : x5_1 < (l0.length : Int) := of_decide_eq_true (by first | (with_reducible assumption) | assumption)
        obtain ⟨ad376, A376_3, c376_3, e376, hx376_0, hx376_1, hx376_2, hx376_3, hl376_3, hi376_3⟩ := at_T33 HR0.out x5_1 p376 q376
        have hw376_3 := hx376_3
        have hw376_2 := hx376_2
        have hw376_1 := hx376_1
        have hw376_0 := hx376_0
        cases e376
        replace hx376_0 := (HB.out.cell (World.block_lt_of_cell? w _ hx376_0)).trans hx376_0
        replace hx376_1 := (HB.out.cell (World.block_lt_of_cell? w _ hx376_1)).trans hx376_1
        replace hx376_2 := (HB.out.cell (World.block_lt_of_cell? w _ hx376_2)).trans hx376_2
        replace hx376_3 := (HB.out.cell (World.block_lt_of_cell? w _ hx376_3)).trans hx376_3
        have HR376_3 := Aside0.mk hi376_3
        have HC376_3 := Aside0.mk hl376_3
        clear hi376_3 hl376_3
        replace p376 := eq_true p376
        replace q376 := eq_true q376
        have p377 : 0 ≤ (x5_1 : Int) := of_decide_eq_true (by first | (with_reducible assumption) | assumption)
        have q377 : x5_1 < (l1.length : Int) := of_decide_eq_true (by first | (with_reducible assumption) | assumption)
        obtain ⟨ad377, A377_3, c377_3, e377, hx377_0, hx377_1, hx377_2, hx377_3, hl377_3, hi377_3⟩ := at_T33 HR1.out x5_1 p377 q377
        have hw377_3 := hx377_3
        have hw377_2 := hx377_2
        have hw377_1 := hx377_1
        have hw377_0 := hx377_0
        cases e377
        replace hx377_0 := (HB.out.cell (World.block_lt_of_cell? w _ hx377_0)).trans hx377_0
        replace hx377_1 := (HB.out.cell (World.block_lt_of_cell? w _ hx377_1)).trans hx377_1
        replace hx377_2 := (HB.out.cell (World.block_lt_of_cell? w _ hx377_2)).trans hx377_2
        replace hx377_3 := (HB.out.cell (World.block_lt_of_cell? w _ hx377_3)).trans hx377_3
        have HR377_3 := Aside0.mk hi377_3
        have HC377_3 := Aside0.mk hl377_3
        clear hi377_3 hl377_3
        replace p377 := eq_true p377
        replace q377 := eq_true q377
        refine start_ (n := 10) (S := fun w' => w'.cell? (ad376.add ((x5_1).toNat * 4)) = some (.int .i64 ((rd_T33 l0 x5_1).f0)) ∧ w'.cell? ⟨(ad376.add ((x5_1).toNat * 4)).block, (ad376.add ((x5_1).toNat * 4)).off + 1, none⟩ = some (.int .i64 ((rd_T33 l0 x5_1).f1.f0)) ∧ w'.cell? ⟨(ad376.add ((x5_1).toNat * 4)).block, (ad376.add ((x5_1).toNat * 4)).off + 2, none⟩ = some (.int .i64 ((rd_T33 l0 x5_1).f1.f1)) ∧ w'.cell? ⟨(ad376.add ((x5_1).toNat * 4)).block, (ad376.add ((x5_1).toNat * 4)).off + 3, none⟩ = some (.slice A376_3 ((rd_T33 l0 x5_1).f2).length c376_3) ∧ w'.cell? (ad377.add ((x5_1).toNat * 4)) = some (.int .i64 ((rd_T33 l1 x5_1).f0)) ∧ w'.cell? ⟨(ad377.add ((x5_1).toNat * 4)).block, (ad377.add ((x5_1).toNat * 4)).off + 1, none⟩ = some (.int .i64 ((rd_T33 l1 x5_1).f1.f0)) ∧ w'.cell? ⟨(ad377.add ((x5_1).toNat * 4)).block, (ad377.add ((x5_1).toNat * 4)).off + 2, none⟩ = some (.int .i64 ((rd_T33 l1 x5_1).f1.f1)) ∧ w'.cell? ⟨(ad377.add ((x5_1).toNat * 4)).block, (ad377.add ((x5_1).toNat * 4)).off + 3, none⟩ = some (.slice A377_3 ((rd_T33 l1 x5_1).f2).length c377_3)) (ds := []) #[false, false, false, false, false, false, false, false, false, false] (by kernel_rfl) rfl rfl ⟨((HB.out.cell (World.block_lt_of_cell? w _ hw376_0)).trans hw376_0), ((HB.out.cell (World.block_lt_of_cell? w _ hw376_1)).trans hw376_1), ((HB.out.cell (World.block_lt_of_cell? w _ hw376_2)).trans hw376_2), ((HB.out.cell (World.block_lt_of_cell? w _ hw376_3)).trans hw376_3), ((HB.out.cell (World.block_lt_of_cell? w _ hw377_0)).trans hw377_0), ((HB.out.cell (World.block_lt_of_cell? w _ hw377_1)).trans hw377_1), ((HB.out.cell (World.block_lt_of_cell? w _ hw377_2)).trans hw377_2), ((HB.out.cell (World.block_lt_of_cell? w _ hw377_3)).trans hw377_3)⟩ (fun hHeld => ?_); refine with_tabW spileref22_Same.tab6 spileref22_Same.bits6 (fun HT_ HW_ => ?_)
        generalize wr.drew = w9 at HB HR376_3 HR377_3 hx376_0 hx376_1 hx376_2 hx376_3 hx377_0 hx377_1 hx377_2 hx377_3 hHeld ⊢
        refine pure_ (i := 0) (N := some 17) (v := ?_) (a' := ?_) #[true, false, false, false, false, false, false, false, false, false] rfl rfl (any_of HT_.out (by kernel_rfl)) (fun _ _ _ h => h) (Or.inl ⟨by rfl, ?_⟩) ?_ ?_
        rotate_left
        ·
         intro w'
         go_simp
         with_reducible rfl
        rotate_left
        ·
         simp only [Act.put, List.setIfInBounds_toArray, List.set_cons_zero, List.set_cons_succ, i64_w, i32_w]
         rfl
        refine pure_ (i := 1) (N := some 18) (v := ?_) (a' := ?_) #[true, true, false, false, false, false, false, false, false, false] rfl rfl (any_of HT_.out (by kernel_rfl)) (fun _ _ _ h => h) (Or.inl ⟨by rfl, ?_⟩) ?_ ?_
        rotate_left
        ·
         intro w'
         go_simp
         with_reducible rfl
        rotate_left
        ·
         simp only [Act.put, List.setIfInBounds_toArray, List.set_cons_zero, List.set_cons_succ, i64_w, i32_w]
         rfl
        refine pure_ (i := 2) (N := some 19) (v := ?_) (a' := ?_) #[true, true, true, false, false, false, false, false, false, false] rfl rfl (any_of HT_.out (by kernel_rfl)) (fun _ _ _ h => h) (Or.inl ⟨by rfl, ?_⟩) ?_ ?_
        rotate_left
        ·
         intro w'
         go_simp
         with_reducible rfl
        rotate_left
        ·
         simp only [Act.put, List.setIfInBounds_toArray, List.set_cons_zero, List.set_cons_succ, i64_w, i32_w]
         rfl
        refine pure_ (i := 4) (N := some 21) (v := ?_) (a' := ?_) #[true, true, true, false, true, false, false, false, false, false] rfl rfl (any_of HT_.out (by kernel_rfl)) (fun _ _ _ h => h) (Or.inl ⟨by rfl, ?_⟩) ?_ ?_
        rotate_left
        ·
         intro w'
         go_simp
         with_reducible rfl
        rotate_left
        ·
         simp only [Act.put, List.setIfInBounds_toArray, List.set_cons_zero, List.set_cons_succ, i64_w, i32_w]
         rfl
        refine pure_ (i := 5) (N := some 22) (v := ?_) (a' := ?_) #[true, true, true, false, true, true, false, false, false, false] rfl rfl (any_of HT_.out (by kernel_rfl)) (fun _ _ _ h => h) (Or.inl ⟨by rfl, ?_⟩) ?_ ?_
        rotate_left
        ·
         intro w'
         go_simp
         with_reducible rfl
        rotate_left
        ·
         simp only [Act.put, List.setIfInBounds_toArray, List.set_cons_zero, List.set_cons_succ, i64_w, i32_w]
         rfl
        refine pure_ (i := 6) (N := some 23) (v := ?_) (a' := ?_) #[true, true, true, false, true, true, true, false, false, false] rfl rfl (any_of HT_.out (by kernel_rfl)) (fun _ _ _ h => h) (Or.inl ⟨by rfl, ?_⟩) ?_ ?_
        rotate_left
        ·
         intro w'
         go_simp
         with_reducible rfl
        rotate_left
        ·
         simp only [Act.put, List.setIfInBounds_toArray, List.set_cons_zero, List.set_cons_succ, i64_w, i32_w]
         rfl
        refine take_ (i := 3) (N := some 20) (v := ?_) (a' := ?_) #[true, true, true, true, true, true, true, false, false, false] rfl rfl (take_ofW HT_.out HW_.out (by kernel_rfl)) (fun _ _ _ h => h) (Or.inl ⟨by rfl, ?_⟩) hHeld ?_ ?_
        rotate_left
        ·
         rintro w' ⟨s0, s1, s2, s3, s4, s5, s6, s7⟩
         go_simp
         with_reducible rfl
        rotate_left
        ·
         simp only [Act.put, List.setIfInBounds_toArray, List.set_cons_zero, List.set_cons_succ, i64_w, i32_w]
         rfl
        refine take_ (i := 7) (N := some 24) (v := ?_) (a' := ?_) #[true, true, true, true, true, true, true, true, false, false] rfl rfl (take_ofW HT_.out HW_.out (by kernel_rfl)) (fun _ _ _ h => h) (Or.inl ⟨by rfl, ?_⟩) hHeld ?_ ?_
        rotate_left
        ·
         rintro w' ⟨s0, s1, s2, s3, s4, s5, s6, s7⟩
         go_simp
         with_reducible rfl
        rotate_left
        ·
         simp only [Act.put, List.setIfInBounds_toArray, List.set_cons_zero, List.set_cons_succ, i64_w, i32_w]
         rfl
        refine one_ (i := 8) (N := some 25) #[true, true, true, true, true, true, true, true, true, false] rfl rfl (one_of HT_.out (by kernel_rfl)) (by decide) (fun K hK => ?_)
        refine goes_ Tryd.func20 (by kernel_rfl) rfl #[.agg #[.int .i64 ((rd_T33 l0 x5_1).f0), .int .i64 ((rd_T33 l0 x5_1).f1.f0), .int .i64 ((rd_T33 l0 x5_1).f1.f1), .slice A376_3 ((rd_T33 l0 x5_1).f2).length c376_3], .agg #[.int .i64 ((rd_T33 l1 x5_1).f0), .int .i64 ((rd_T33 l1 x5_1).f1.f0), .int .i64 ((rd_T33 l1 x5_1).f1.f1), .slice A377_3 ((rd_T33 l1 x5_1).f2).length c377_3]] (by rfl) rfl rfl (by (try simp only [List.map_toArray, List.map_cons, List.map_nil]); first | done | rfl | (simp only [List.length_drop, List.length_take]; rfl)) ?_
        with_reducible refine (spileref22_SameLot.calls k1 ((rd_T33 l0 x5_1).f0) ((rd_T33 l0 x5_1).f1.f0) ((rd_T33 l0 x5_1).f1.f1) _ _ ((rd_T33 l0 x5_1).f2) ((rd_T33 l1 x5_1).f0) ((rd_T33 l1 x5_1).f1.f0) ((rd_T33 l1 x5_1).f1.f1) _ _ ((rd_T33 l1 x5_1).f2) true _ ?side1 ?side2 ?side3 ?side4 A7.out).mono ?_
        (case side1 => repeat (first | exact (Kd.C_below HR376_3.out HB.out) | (with_reducible refine Kd.C_alloc ?_ _) | (with_reducible refine Kd.C_drewN ?_ _) | (with_reducible refine Kd.C_drew ?_)))
        (case side2 => exact HC376_3.out)
        (case side3 => repeat (first | exact (Kd.C_below HR377_3.out HB.out) | (with_reducible refine Kd.C_alloc ?_ _) | (with_reducible refine Kd.C_drewN ?_ _) | (with_reducible refine Kd.C_drew ?_)))
        (case side4 => exact HC377_3.out)
        rintro e w10 ⟨rfl, hb⟩
        refine ⟨_, rfl, ?_⟩
        have n0_ := Aside0.mk (below_step (by repeat (first | (with_reducible first | exact HB.out | apply below_alloc | apply pw_below_drewN | apply below_drew1) | exact HB.out)) hb)
        clear HB
        have HB := n0_
        clear n0_
        (try clear hb)
        (try clear hb2)
        (try clear hk)
        (try clear hi)
        refine hK.out _ _ ⟨((HB.out.cell (World.block_lt_of_cell? w _ hw376_0)).trans hw376_0), ((HB.out.cell (World.block_lt_of_cell? w _ hw376_1)).trans hw376_1), ((HB.out.cell (World.block_lt_of_cell? w _ hw376_2)).trans hw376_2), ((HB.out.cell (World.block_lt_of_cell? w _ hw376_3)).trans hw376_3), ((HB.out.cell (World.block_lt_of_cell? w _ hw377_0)).trans hw377_0), ((HB.out.cell (World.block_lt_of_cell? w _ hw377_1)).trans hw377_1), ((HB.out.cell (World.block_lt_of_cell? w _ hw377_2)).trans hw377_2), ((HB.out.cell (World.block_lt_of_cell? w _ hw377_3)).trans hw377_3)⟩ (fun hHeld => ?_)
        clear hK K
        refine norm_ (a' := ?_) ?_ ?_
        rotate_left
        ·
         show Act.put _ (some 25) _ = _
         simp only [Act.put, List.setIfInBounds_toArray, List.set_cons_zero, List.set_cons_succ, i64_w, i32_w]
         rfl
        refine pure_ (i := 9) (N := some 26) (v := ?_) (a' := ?_) #[true, true, true, true, true, true, true, true, true, true] rfl rfl (any_of HT_.out (by kernel_rfl)) (fun _ _ _ h => h) (Or.inl ⟨by rfl, ?_⟩) ?_ ?_
        rotate_left
        ·
         intro w'
         go_simp
         with_reducible rfl
        rotate_left
        ·
         simp only [Act.put, List.setIfInBounds_toArray, List.set_cons_zero, List.set_cons_succ, i64_w, i32_w]
         rfl
        refine done_ (done_of HT_.out (by kernel_rfl)) ?_
        try go_wp2
        go_roundg k1
        case measure => have := HK1.out; omega
        case rel => exact ⟨(wrap64 (x5_1 + 1)), (by first | rfl | (simp; done) | (simp [*]; done)), H', ⟨by have := HK1.out; omega⟩, ⟨by repeat (first | (with_reducible first | exact HB.out | apply below_alloc | apply pw_below_drewN | apply below_drew1) | exact HB.out)⟩⟩
       ·
        replace c8 := Bool.eq_false_iff.mpr c8
        subst c8
        have H1 : (some false) = some r := by rw [if_neg (show ¬ (false = true) by decide)] at H; exact H
        clear H
        have H := H1
        clear H1
        obtain rfl := Option.some.inj H
        try go_wp2
        have n0_ := Aside0.mk (below_drew1 HB.out)
        clear HB
        have HB := n0_
        clear n0_
        have p376 : 0 ≤ (x5_1 : Int) := of_decide_eq_true (by first | (with_reducible assumption) | assumption)
        have q376 : x5_1 < (l0.length : Int) := of_decide_eq_true (by first | (with_reducible assumption) | assumption)
        obtain ⟨ad376, A376_3, c376_3, e376, hx376_0, hx376_1, hx376_2, hx376_3, hl376_3, hi376_3⟩ := at_T33 HR0.out x5_1 p376 q376
        have hw376_3 := hx376_3
        have hw376_2 := hx376_2
        have hw376_1 := hx376_1
        have hw376_0 := hx376_0
        cases e376
        replace hx376_0 := (HB.out.cell (World.block_lt_of_cell? w _ hx376_0)).trans hx376_0
        replace hx376_1 := (HB.out.cell (World.block_lt_of_cell? w _ hx376_1)).trans hx376_1
        replace hx376_2 := (HB.out.cell (World.block_lt_of_cell? w _ hx376_2)).trans hx376_2
        replace hx376_3 := (HB.out.cell (World.block_lt_of_cell? w _ hx376_3)).trans hx376_3
        have HR376_3 := Aside0.mk hi376_3
        have HC376_3 := Aside0.mk hl376_3
        clear hi376_3 hl376_3
        replace p376 := eq_true p376
        replace q376 := eq_true q376
        have p377 : 0 ≤ (x5_1 : Int) := of_decide_eq_true (by first | (with_reducible assumption) | assumption)
        have q377 : x5_1 < (l1.length : Int) := of_decide_eq_true (by first | (with_reducible assumption) | assumption)
        obtain ⟨ad377, A377_3, c377_3, e377, hx377_0, hx377_1, hx377_2, hx377_3, hl377_3, hi377_3⟩ := at_T33 HR1.out x5_1 p377 q377
        have hw377_3 := hx377_3
        have hw377_2 := hx377_2
        have hw377_1 := hx377_1
        have hw377_0 := hx377_0
        cases e377
        replace hx377_0 := (HB.out.cell (World.block_lt_of_cell? w _ hx377_0)).trans hx377_0
        replace hx377_1 := (HB.out.cell (World.block_lt_of_cell? w _ hx377_1)).trans hx377_1
        replace hx377_2 := (HB.out.cell (World.block_lt_of_cell? w _ hx377_2)).trans hx377_2
        replace hx377_3 := (HB.out.cell (World.block_lt_of_cell? w _ hx377_3)).trans hx377_3
        have HR377_3 := Aside0.mk hi377_3
        have HC377_3 := Aside0.mk hl377_3
        clear hi377_3 hl377_3
        replace p377 := eq_true p377
        replace q377 := eq_true q377
        refine start_ (n := 10) (S := fun w' => w'.cell? (ad376.add ((x5_1).toNat * 4)) = some (.int .i64 ((rd_T33 l0 x5_1).f0)) ∧ w'.cell? ⟨(ad376.add ((x5_1).toNat * 4)).block, (ad376.add ((x5_1).toNat * 4)).off + 1, none⟩ = some (.int .i64 ((rd_T33 l0 x5_1).f1.f0)) ∧ w'.cell? ⟨(ad376.add ((x5_1).toNat * 4)).block, (ad376.add ((x5_1).toNat * 4)).off + 2, none⟩ = some (.int .i64 ((rd_T33 l0 x5_1).f1.f1)) ∧ w'.cell? ⟨(ad376.add ((x5_1).toNat * 4)).block, (ad376.add ((x5_1).toNat * 4)).off + 3, none⟩ = some (.slice A376_3 ((rd_T33 l0 x5_1).f2).length c376_3) ∧ w'.cell? (ad377.add ((x5_1).toNat * 4)) = some (.int .i64 ((rd_T33 l1 x5_1).f0)) ∧ w'.cell? ⟨(ad377.add ((x5_1).toNat * 4)).block, (ad377.add ((x5_1).toNat * 4)).off + 1, none⟩ = some (.int .i64 ((rd_T33 l1 x5_1).f1.f0)) ∧ w'.cell? ⟨(ad377.add ((x5_1).toNat * 4)).block, (ad377.add ((x5_1).toNat * 4)).off + 2, none⟩ = some (.int .i64 ((rd_T33 l1 x5_1).f1.f1)) ∧ w'.cell? ⟨(ad377.add ((x5_1).toNat * 4)).block, (ad377.add ((x5_1).toNat * 4)).off + 3, none⟩ = some (.slice A377_3 ((rd_T33 l1 x5_1).f2).length c377_3)) (ds := []) #[false, false, false, false, false, false, false, false, false, false] (by kernel_rfl) rfl rfl ⟨((HB.out.cell (World.block_lt_of_cell? w _ hw376_0)).trans hw376_0), ((HB.out.cell (World.block_lt_of_cell? w _ hw376_1)).trans hw376_1), ((HB.out.cell (World.block_lt_of_cell? w _ hw376_2)).trans hw376_2), ((HB.out.cell (World.block_lt_of_cell? w _ hw376_3)).trans hw376_3), ((HB.out.cell (World.block_lt_of_cell? w _ hw377_0)).trans hw377_0), ((HB.out.cell (World.block_lt_of_cell? w _ hw377_1)).trans hw377_1), ((HB.out.cell (World.block_lt_of_cell? w _ hw377_2)).trans hw377_2), ((HB.out.cell (World.block_lt_of_cell? w _ hw377_3)).trans hw377_3)⟩ (fun hHeld => ?_); refine with_tabW spileref22_Same.tab6 spileref22_Same.bits6 (fun HT_ HW_ => ?_)
        generalize wr.drew = w11 at HB HR376_3 HR377_3 hx376_0 hx376_1 hx376_2 hx376_3 hx377_0 hx377_1 hx377_2 hx377_3 hHeld ⊢
        refine pure_ (i := 0) (N := some 17) (v := ?_) (a' := ?_) #[true, false, false, false, false, false, false, false, false, false] rfl rfl (any_of HT_.out (by kernel_rfl)) (fun _ _ _ h => h) (Or.inl ⟨by rfl, ?_⟩) ?_ ?_
        rotate_left
        ·
         intro w'
         go_simp
         with_reducible rfl
        rotate_left
        ·
         simp only [Act.put, List.setIfInBounds_toArray, List.set_cons_zero, List.set_cons_succ, i64_w, i32_w]
         rfl
        refine pure_ (i := 1) (N := some 18) (v := ?_) (a' := ?_) #[true, true, false, false, false, false, false, false, false, false] rfl rfl (any_of HT_.out (by kernel_rfl)) (fun _ _ _ h => h) (Or.inl ⟨by rfl, ?_⟩) ?_ ?_
        rotate_left
        ·
         intro w'
         go_simp
         with_reducible rfl
        rotate_left
        ·
         simp only [Act.put, List.setIfInBounds_toArray, List.set_cons_zero, List.set_cons_succ, i64_w, i32_w]
         rfl
        refine pure_ (i := 2) (N := some 19) (v := ?_) (a' := ?_) #[true, true, true, false, false, false, false, false, false, false] rfl rfl (any_of HT_.out (by kernel_rfl)) (fun _ _ _ h => h) (Or.inl ⟨by rfl, ?_⟩) ?_ ?_
        rotate_left
        ·
         intro w'
         go_simp
         with_reducible rfl
        rotate_left
        ·
         simp only [Act.put, List.setIfInBounds_toArray, List.set_cons_zero, List.set_cons_succ, i64_w, i32_w]
         rfl
        refine pure_ (i := 4) (N := some 21) (v := ?_) (a' := ?_) #[true, true, true, false, true, false, false, false, false, false] rfl rfl (any_of HT_.out (by kernel_rfl)) (fun _ _ _ h => h) (Or.inl ⟨by rfl, ?_⟩) ?_ ?_
        rotate_left
        ·
         intro w'
         go_simp
         with_reducible rfl
        rotate_left
        ·
         simp only [Act.put, List.setIfInBounds_toArray, List.set_cons_zero, List.set_cons_succ, i64_w, i32_w]
         rfl
        refine pure_ (i := 5) (N := some 22) (v := ?_) (a' := ?_) #[true, true, true, false, true, true, false, false, false, false] rfl rfl (any_of HT_.out (by kernel_rfl)) (fun _ _ _ h => h) (Or.inl ⟨by rfl, ?_⟩) ?_ ?_
        rotate_left
        ·
         intro w'
         go_simp
         with_reducible rfl
        rotate_left
        ·
         simp only [Act.put, List.setIfInBounds_toArray, List.set_cons_zero, List.set_cons_succ, i64_w, i32_w]
         rfl
        refine pure_ (i := 6) (N := some 23) (v := ?_) (a' := ?_) #[true, true, true, false, true, true, true, false, false, false] rfl rfl (any_of HT_.out (by kernel_rfl)) (fun _ _ _ h => h) (Or.inl ⟨by rfl, ?_⟩) ?_ ?_
        rotate_left
        ·
         intro w'
         go_simp
         with_reducible rfl
        rotate_left
        ·
         simp only [Act.put, List.setIfInBounds_toArray, List.set_cons_zero, List.set_cons_succ, i64_w, i32_w]
         rfl
        refine take_ (i := 3) (N := some 20) (v := ?_) (a' := ?_) #[true, true, true, true, true, true, true, false, false, false] rfl rfl (take_ofW HT_.out HW_.out (by kernel_rfl)) (fun _ _ _ h => h) (Or.inl ⟨by rfl, ?_⟩) hHeld ?_ ?_
        rotate_left
        ·
         rintro w' ⟨s0, s1, s2, s3, s4, s5, s6, s7⟩
         go_simp
         with_reducible rfl
        rotate_left
        ·
         simp only [Act.put, List.setIfInBounds_toArray, List.set_cons_zero, List.set_cons_succ, i64_w, i32_w]
         rfl
        refine take_ (i := 7) (N := some 24) (v := ?_) (a' := ?_) #[true, true, true, true, true, true, true, true, false, false] rfl rfl (take_ofW HT_.out HW_.out (by kernel_rfl)) (fun _ _ _ h => h) (Or.inl ⟨by rfl, ?_⟩) hHeld ?_ ?_
        rotate_left
        ·
         rintro w' ⟨s0, s1, s2, s3, s4, s5, s6, s7⟩
         go_simp
         with_reducible rfl
        rotate_left
        ·
         simp only [Act.put, List.setIfInBounds_toArray, List.set_cons_zero, List.set_cons_succ, i64_w, i32_w]
         rfl
        refine one_ (i := 8) (N := some 25) #[true, true, true, true, true, true, true, true, true, false] rfl rfl (one_of HT_.out (by kernel_rfl)) (by decide) (fun K hK => ?_)
        refine goes_ Tryd.func20 (by kernel_rfl) rfl #[.agg #[.int .i64 ((rd_T33 l0 x5_1).f0), .int .i64 ((rd_T33 l0 x5_1).f1.f0), .int .i64 ((rd_T33 l0 x5_1).f1.f1), .slice A376_3 ((rd_T33 l0 x5_1).f2).length c376_3], .agg #[.int .i64 ((rd_T33 l1 x5_1).f0), .int .i64 ((rd_T33 l1 x5_1).f1.f0), .int .i64 ((rd_T33 l1 x5_1).f1.f1), .slice A377_3 ((rd_T33 l1 x5_1).f2).length c377_3]] (by rfl) rfl rfl (by (try simp only [List.map_toArray, List.map_cons, List.map_nil]); first | done | rfl | (simp only [List.length_drop, List.length_take]; rfl)) ?_
        with_reducible refine (spileref22_SameLot.calls k1 ((rd_T33 l0 x5_1).f0) ((rd_T33 l0 x5_1).f1.f0) ((rd_T33 l0 x5_1).f1.f1) _ _ ((rd_T33 l0 x5_1).f2) ((rd_T33 l1 x5_1).f0) ((rd_T33 l1 x5_1).f1.f0) ((rd_T33 l1 x5_1).f1.f1) _ _ ((rd_T33 l1 x5_1).f2) false _ ?side1 ?side2 ?side3 ?side4 A7.out).mono ?_
        (case side1 => repeat (first | exact (Kd.C_below HR376_3.out HB.out) | (with_reducible refine Kd.C_alloc ?_ _) | (with_reducible refine Kd.C_drewN ?_ _) | (with_reducible refine Kd.C_drew ?_)))
        (case side2 => exact HC376_3.out)
        (case side3 => repeat (first | exact (Kd.C_below HR377_3.out HB.out) | (with_reducible refine Kd.C_alloc ?_ _) | (with_reducible refine Kd.C_drewN ?_ _) | (with_reducible refine Kd.C_drew ?_)))
        (case side4 => exact HC377_3.out)
        rintro e w12 ⟨rfl, hb⟩
        refine ⟨_, rfl, ?_⟩
        have n0_ := Aside0.mk (below_step (by repeat (first | (with_reducible first | exact HB.out | apply below_alloc | apply pw_below_drewN | apply below_drew1) | exact HB.out)) hb)
        clear HB
        have HB := n0_
        clear n0_
        (try clear hb)
        (try clear hb2)
        (try clear hk)
        (try clear hi)
        refine hK.out _ _ ⟨((HB.out.cell (World.block_lt_of_cell? w _ hw376_0)).trans hw376_0), ((HB.out.cell (World.block_lt_of_cell? w _ hw376_1)).trans hw376_1), ((HB.out.cell (World.block_lt_of_cell? w _ hw376_2)).trans hw376_2), ((HB.out.cell (World.block_lt_of_cell? w _ hw376_3)).trans hw376_3), ((HB.out.cell (World.block_lt_of_cell? w _ hw377_0)).trans hw377_0), ((HB.out.cell (World.block_lt_of_cell? w _ hw377_1)).trans hw377_1), ((HB.out.cell (World.block_lt_of_cell? w _ hw377_2)).trans hw377_2), ((HB.out.cell (World.block_lt_of_cell? w _ hw377_3)).trans hw377_3)⟩ (fun hHeld => ?_)
        clear hK K
        refine norm_ (a' := ?_) ?_ ?_
        rotate_left
        ·
         show Act.put _ (some 25) _ = _
         simp only [Act.put, List.setIfInBounds_toArray, List.set_cons_zero, List.set_cons_succ, i64_w, i32_w]
         rfl
        refine pure_ (i := 9) (N := some 26) (v := ?_) (a' := ?_) #[true, true, true, true, true, true, true, true, true, true] rfl rfl (any_of HT_.out (by kernel_rfl)) (fun _ _ _ h => h) (Or.inl ⟨by rfl, ?_⟩) ?_ ?_
        rotate_left
        ·
         intro w'
         go_simp
         with_reducible rfl
        rotate_left
        ·
         simp only [Act.put, List.setIfInBounds_toArray, List.set_cons_zero, List.set_cons_succ, i64_w, i32_w]
         rfl
        refine done_ (done_of HT_.out (by kernel_rfl)) ?_
        try go_wp2
        go_ret
        exact ⟨by first | rfl | (simp [errW_none, errW_some] <;> rfl) | (simp [*, errW_none, errW_some] <;> rfl), by repeat (first | (with_reducible first | exact HB.out | apply below_alloc | apply pw_below_drewN | apply below_drew1) | exact HB.out)⟩
      ·
       rw [if_neg c6] at H
       exact absurd H (by simp)
     ·
      rw [if_neg c5] at H
      exact absurd H (by simp)
    ·
     rw [if_neg c4] at H
     have c4b0 : decide (x5_1 < (l0.length : Int)) = false := decide_eq_false c4
     clear c4
     obtain rfl := Option.some.inj H
     go_wp2
     go_ret
     exact ⟨by first | rfl | (simp [errW_none, errW_some] <;> rfl) | (simp [*, errW_none, errW_some] <;> rfl), by repeat (first | (with_reducible first | exact HB.out | apply below_alloc | apply pw_below_drewN | apply below_drew1) | exact HB.out)⟩
 ·
  rw [if_neg c3] at H
  have c3b0 : ((l0.length : Int) == (l1.length : Int)) = false := beq_eq_false_iff_ne.mpr c3
  have c3b1 : ((l0.length : Int) != (l1.length : Int)) = true := bne_iff_ne.mpr c3
  have c3b2 : (l0.length == l1.length) = false := by first | simpa using c3 | (simp at c3 ⊢; omega)
  obtain rfl := Option.some.inj H
  go_enter Tryd.func24, Tryd.ntmps24
  go_wp2
  go_ret
  exact ⟨by first | rfl | (simp [errW_none, errW_some] <;> rfl) | (simp [*, errW_none, errW_some] <;> rfl), by repeat (first | (with_reducible first | exact HB.out | apply below_alloc | apply pw_below_drewN | apply below_drew1) | exact HB.out)⟩
def spilelaw22_LotPuts.j0 : Nat → List (S33) → Bool → Int → Int → Int → List (S35) → Option (Bool)
 | 0, _, _, _, _, _, _ => none
 | k + 1, x0, x19, x380000, x380001, x380002, x380003 => if x19 = true then (some true) else ((lot_Put.f k x0 x380000 x380001 x380002 x380003).bind fun bt383 => ((spileref22_Put.f k x0 x380000 x380001 x380002 x380003).bind fun bt387 => ((spileref22_Same.f k bt383.1 bt387.1).bind fun t391 => (if t391 = true then (some (bt383.2 == bt387.2)) else (some false)))))
def spilelaw22_LotPuts.f (k : Nat) (l0 : List (S33)) (a1_0 : Int) (a1_1 : Int) (a1_2 : Int) (l1_3 : List (S35)) : Option (Bool) := (spilelaw22_awake.f).bind fun t380 => (if t380 = true then ((spileref22_Few.f k l0).bind fun t381 => (if t381 = true then ((spileref22_FewShares.f l1_3).bind fun t382 => (spilelaw22_LotPuts.j0 k l0 (!t382) a1_0 a1_1 a1_2 l1_3)) else (spilelaw22_LotPuts.j0 k l0 true a1_0 a1_1 a1_2 l1_3))) else (some false))
theorem spilelaw22_LotPuts.mono_l : ∀ k, (∀ y0 y1 y2 y3 y4 y5, LeO (spilelaw22_LotPuts.j0 k y0 y1 y2 y3 y4 y5) (spilelaw22_LotPuts.j0 (k + 1) y0 y1 y2 y3 y4 y5))
 | 0 => fun _ _ _ _ _ _ r h => by simp [spilelaw22_LotPuts.j0] at h
 | k + 1 => by
  have ih0 := spilelaw22_LotPuts.mono_l k
  ·
   intro y0 y1 y2 y3 y4 y5
   unfold spilelaw22_LotPuts.j0
   repeat' first
   | (with_reducible exact ih0 _ _ _ _ _ _)
   | (with_reducible exact lot_Put.mono _ _ _ _ _ _)
   | (with_reducible exact spileref22_Few.mono _ _)
   | (with_reducible exact spileref22_Put.mono _ _ _ _ _ _)
   | (with_reducible exact spileref22_Same.mono _ _ _)
   | (with_reducible exact LeO.refl _)
   | (with_reducible exact LeO.none _)
   | (with_reducible refine LeO.ite ?_ ?_)
   | (with_reducible refine LeO.bind ?_ (fun _ => ?_))
   | exact ih0 _ _ _ _ _ _
   | exact lot_Put.mono _ _ _ _ _ _
   | exact spileref22_Few.mono _ _
   | exact spileref22_Put.mono _ _ _ _ _ _
   | exact spileref22_Same.mono _ _ _
   | exact LeO.none _
   | refine LeO.ite ?_ ?_
   | refine LeO.bind ?_ (fun _ => ?_)
theorem spilelaw22_LotPuts.mono : ∀ a0 a1 a2 a3 a4 k, LeO (spilelaw22_LotPuts.f k a0 a1 a2 a3 a4) (spilelaw22_LotPuts.f (k + 1) a0 a1 a2 a3 a4) := by
 intro a0 a1 a2 a3 a4 k
 have ih0 := spilelaw22_LotPuts.mono_l k
 unfold spilelaw22_LotPuts.f
 repeat' first
   | (with_reducible exact ih0 _ _ _ _ _ _)
   | (with_reducible exact lot_Put.mono _ _ _ _ _ _)
   | (with_reducible exact spileref22_Few.mono _ _)
   | (with_reducible exact spileref22_Put.mono _ _ _ _ _ _)
   | (with_reducible exact spileref22_Same.mono _ _ _)
   | (with_reducible exact LeO.refl _)
   | (with_reducible exact LeO.none _)
   | (with_reducible refine LeO.ite ?_ ?_)
   | (with_reducible refine LeO.bind ?_ (fun _ => ?_))
   | exact ih0 _ _ _ _ _ _
   | exact lot_Put.mono _ _ _ _ _ _
   | exact spileref22_Few.mono _ _
   | exact spileref22_Put.mono _ _ _ _ _ _
   | exact spileref22_Same.mono _ _ _
   | exact LeO.none _
   | refine LeO.ite ?_ ?_
   | refine LeO.bind ?_ (fun _ => ?_)
def spilelaw22_LotPlaces_1_1.f (a0_0 : Int) (a0_1 : Int) (a0_2 : Int) (l0_3 : List (S35)) (a1_0 : Int) (a1_1 : Int) (a1_2 : Int) (l1_3 : List (S35)) : Option (Bool) := some (a0_0 == a1_0)
set_option maxHeartbeats 8000000 in
set_option maxRecDepth 100000 in
theorem spilelaw22_LotPlaces_1_1.calls (a0_0 : Int) (a0_1 : Int) (a0_2 : Int) (A0_3 : Option Addr) (c0_3 : Nat) (l0_3 : List (S35)) (B1 : Nat) (a1_0 : Int) (a1_1 : Int) (a1_2 : Int) (A1_3 : Option Addr) (c1_3 : Nat) (l1_3 : List (S35)) (r : Bool) (w : World) (hr0_3 : Kd.C k35 w A0_3 l0_3.length l0_3) (hc0_3 : l0_3.length ≤ c0_3) (hr1_3 : Kd.C k35 w A1_3 l1_3.length l1_3) (hc1_3 : l1_3.length ≤ c1_3) (hb1 : w.heap[B1]? = some (.cells #[.int .i64 a1_0, .int .i64 a1_1, .int .i64 a1_2, .slice A1_3 l1_3.length c1_3] 33 (0, 0))) (h : spilelaw22_LotPlaces_1_1.f a0_0 a0_1 a0_2 l0_3 a1_0 a1_1 a1_2 l1_3 = some r) :
  Calls Tryd.prog 27 #[.agg #[.int .i64 a0_0, .int .i64 a0_1, .int .i64 a0_2, .slice A0_3 l0_3.length c0_3], .pointer (some ⟨B1, 0, none⟩)] w fun e w' => e = .returned (.bool r) ∧ Below w.heap.size w w' := by
 have hu33 := Tryd.underlying33
 have HR0_3 := Aside0.mk hr0_3
 have HC0_3 := Aside0.mk hc0_3
 clear hr0_3 hc0_3
 have HR1_3 := Aside0.mk hr1_3
 have HC1_3 := Aside0.mk hc1_3
 clear hr1_3 hc1_3
 have BK5001 := Aside0.mk hb1
 clear hb1
 have HB := Aside0.mk (Below.refl w.heap.size w)
 have H : (some (a0_0 == a1_0)) = some r := h
 clear h
 obtain rfl := Option.some.inj H
 go_enter Tryd.func27, Tryd.ntmps27
 go_wp2_with (first | ((with_reducible refine gate_dst (N := 2) rfl ?_); refine box_event ?hg (N := 2) ?hd (cs := #[.int .i64 a0_0, .int .i64 a0_1, .int .i64 a0_2, .slice A0_3 l0_3.length c0_3]) (t := 33) ?hr ?_; (case hd => rfl); (case hg => rfl); (case hr => first | (go_simp; done) | (go_simp; rfl)); intro gb392 hg w3 hbox hb; have n0_ := Aside0.mk (blk_below (g := B1) (o := .cells #[.int .i64 a1_0, .int .i64 a1_1, .int .i64 a1_2, .slice A1_3 l1_3.length c1_3] 33 (0, 0)) (by (with_reducible repeat (first | refine blk_drewN ?_ _ | refine blk_drew ?_ | refine blk_alloc ?_ _)); exact BK5001.out) hb); have n1_ := Aside0.mk (below_step (by repeat (first | (with_reducible first | exact HB.out | apply below_alloc | apply pw_below_drewN | apply below_drew1 | refine below_set ?_ GE5001.out) | exact HB.out)) hb); have n2_ := Aside0.mk (hbox); have n3_ := Aside0.mk ((by rw [hg]; exact (below_size (by repeat (first | (with_reducible first | exact HB.out | apply below_alloc | apply pw_below_drewN | apply below_drew1 | refine below_set ?_ GE5001.out) | exact HB.out))) : w.heap.size ≤ gb392)); have n4_ := Aside0.mk ((by rw [hg]; exact (below_size (by repeat (first | (with_reducible first | exact HB.out | apply below_alloc | apply pw_below_drewN | apply below_drew1 | refine below_set ?_ GE5001.out) | exact HB.out))) : w.heap.size ≤ gb392)); have n5_ := Aside0.mk ((by rw [hg]; exact Nat.ne_of_lt (blk_lt (g := B1) (o := .cells #[.int .i64 a1_0, .int .i64 a1_1, .int .i64 a1_2, .slice A1_3 l1_3.length c1_3] 33 (0, 0)) (by (with_reducible repeat (first | refine blk_drewN ?_ _ | refine blk_drew ?_ | refine blk_alloc ?_ _)); exact BK5001.out)) : B1 ≠ gb392)); have n6_ := Aside0.mk ((by rw [hg]; exact Nat.ne_of_gt (blk_lt (g := B1) (o := .cells #[.int .i64 a1_0, .int .i64 a1_1, .int .i64 a1_2, .slice A1_3 l1_3.length c1_3] 33 (0, 0)) (by (with_reducible repeat (first | refine blk_drewN ?_ _ | refine blk_drew ?_ | refine blk_alloc ?_ _)); exact BK5001.out)) : gb392 ≠ B1)); clear BK5001; clear HB; have BK5001 := n0_; have HB := n1_; have BK392 := n2_; have GW392 := n3_; have GE392 := n4_; have NB5001_392 := n5_; have NB392_5001 := n6_; clear n0_ n1_ n2_ n3_ n4_ n5_ n6_; clear hb hbox hg; have hnb4 := NB392_5001.out; have hnc4 := NB5001_392.out; have hcz5_0 : w3.cell? ⟨gb392, 0, none⟩ = some (.int .i64 a0_0) := (blk_cell BK392.out 0).trans rfl; have hcz5_1 : w3.cell? ⟨gb392, 1, none⟩ = some (.int .i64 a0_1) := (blk_cell BK392.out 1).trans rfl; have hcz5_2 : w3.cell? ⟨gb392, 2, none⟩ = some (.int .i64 a0_2) := (blk_cell BK392.out 2).trans rfl; have hcz5_3 : w3.cell? ⟨gb392, 3, none⟩ = some (.slice A0_3 l0_3.length c0_3) := (blk_cell BK392.out 3).trans rfl; have hfz5_0 := blk_frozen BK392.out 0; have hfz5_1 := blk_frozen BK392.out 1; have hfz5_2 := blk_frozen BK392.out 2; have hfz5_3 := blk_frozen BK392.out 3; have hcz6_0 : w3.cell? ⟨B1, 0, none⟩ = some (.int .i64 a1_0) := (blk_cell BK5001.out 0).trans rfl; have hcz6_1 : w3.cell? ⟨B1, 1, none⟩ = some (.int .i64 a1_1) := (blk_cell BK5001.out 1).trans rfl; have hcz6_2 : w3.cell? ⟨B1, 2, none⟩ = some (.int .i64 a1_2) := (blk_cell BK5001.out 2).trans rfl; have hcz6_3 : w3.cell? ⟨B1, 3, none⟩ = some (.slice A1_3 l1_3.length c1_3) := (blk_cell BK5001.out 3).trans rfl; have hfz6_0 := blk_frozen BK5001.out 0; have hfz6_1 := blk_frozen BK5001.out 1; have hfz6_2 := blk_frozen BK5001.out 2; have hfz6_3 := blk_frozen BK5001.out 3))
 go_ret
 exact ⟨by first | rfl | (simp [errW_none, errW_some] <;> rfl) | (simp [*, errW_none, errW_some] <;> rfl), by repeat (first | (with_reducible first | exact HB.out | apply below_alloc | apply pw_below_drewN | apply below_drew1 | refine below_set ?_ GE5001.out | refine below_set ?_ GE392.out) | exact HB.out)⟩
def api_Lot_48_at_27.l0 : Nat → List (S33) → Int → Int → Int → Int → Int → List (S35) → Option (Int)
 | 0, _, _, _, _, _, _, _ => none
 | k + 1, x0, x7, x8, x5003000, x5003001, x5003002, x5003003 => if x8 < x7 then (if 0 ≤ x8 then (if x8 < (x0.length : Int) then ((spilelaw22_LotPlaces_1_1.f ((rd_T33 x0 x8).f0) ((rd_T33 x0 x8).f1.f0) ((rd_T33 x0 x8).f1.f1) ((rd_T33 x0 x8).f2) x5003000 x5003001 x5003002 x5003003).bind fun t394 => (if t394 = true then (some x8) else (api_Lot_48_at_27.l0 k x0 x7 (wrap64 (x8 + 1)) x5003000 x5003001 x5003002 x5003003))) else (none)) else (none)) else (some (-1))
def api_Lot_48_at_27.f (k : Nat) (l0 : List (S33))  (a2_0 : Int) (a2_1 : Int) (a2_2 : Int) (l2_3 : List (S35)) : Option (Int) := api_Lot_48_at_27.l0 k l0 (l0.length : Int) 0 a2_0 a2_1 a2_2 l2_3
theorem api_Lot_48_at_27.mono_l : ∀ k, (∀ y0 y1 y2 y3 y4 y5 y6, LeO (api_Lot_48_at_27.l0 k y0 y1 y2 y3 y4 y5 y6) (api_Lot_48_at_27.l0 (k + 1) y0 y1 y2 y3 y4 y5 y6))
 | 0 => fun _ _ _ _ _ _ _ r h => by simp [api_Lot_48_at_27.l0] at h
 | k + 1 => by
  have ih0 := api_Lot_48_at_27.mono_l k
  ·
   intro y0 y1 y2 y3 y4 y5 y6
   unfold api_Lot_48_at_27.l0
   repeat' first
   | (with_reducible exact ih0 _ _ _ _ _ _ _)
   | (with_reducible exact LeO.refl _)
   | (with_reducible exact LeO.none _)
   | (with_reducible refine LeO.ite ?_ ?_)
   | (with_reducible refine LeO.bind ?_ (fun _ => ?_))
   | exact ih0 _ _ _ _ _ _ _
   | exact LeO.none _
   | refine LeO.ite ?_ ?_
   | refine LeO.bind ?_ (fun _ => ?_)
theorem api_Lot_48_at_27.mono : ∀ a0 a1 a2 a3 a4 k, LeO (api_Lot_48_at_27.f k a0 a1 a2 a3 a4) (api_Lot_48_at_27.f (k + 1) a0 a1 a2 a3 a4) := by
 intro a0 a1 a2 a3 a4 k
 have ih0 := api_Lot_48_at_27.mono_l k
 unfold api_Lot_48_at_27.f
 repeat' first
   | (with_reducible exact ih0 _ _ _ _ _ _ _)
   | (with_reducible exact LeO.refl _)
   | (with_reducible exact LeO.none _)
   | (with_reducible refine LeO.ite ?_ ?_)
   | (with_reducible refine LeO.bind ?_ (fun _ => ?_))
   | exact ih0 _ _ _ _ _ _ _
   | exact LeO.none _
   | refine LeO.ite ?_ ?_
   | refine LeO.bind ?_ (fun _ => ?_)
set_option maxHeartbeats 8000000 in
set_option maxRecDepth 100000 in
theorem api_Lot_48_at_27.calls (k : Nat) (A0 : Option Addr) (c0 : Nat) (l0 : List (S33))  (B2 : Nat) (a2_0 : Int) (a2_1 : Int) (a2_2 : Int) (A2_3 : Option Addr) (c2_3 : Nat) (l2_3 : List (S35)) (r : Int) (w : World) (hr0 : Kd.C k33 w A0 l0.length l0) (hc0 : l0.length ≤ c0) (hr2_3 : Kd.C k35 w A2_3 l2_3.length l2_3) (hc2_3 : l2_3.length ≤ c2_3) (hb2 : w.heap[B2]? = some (.cells #[.int .i64 a2_0, .int .i64 a2_1, .int .i64 a2_2, .slice A2_3 l2_3.length c2_3] 33 (0, 0))) (h : api_Lot_48_at_27.f k l0 a2_0 a2_1 a2_2 l2_3 = some r) :
  Calls Tryd.prog 48 #[.slice A0 l0.length c0, .func (.func 27) #[] #[.pointer (some ⟨B2, 0, none⟩)]] w fun e w' => e = .returned (.int .i64 r) ∧ Below w.heap.size w w' := by
 have hu33 := Tryd.underlying33
 have HR0 := Aside0.mk hr0
 have HC0 := Aside0.mk hc0
 clear hr0 hc0
 have HR2_3 := Aside0.mk hr2_3
 have HC2_3 := Aside0.mk hc2_3
 clear hr2_3 hc2_3
 have BK5002 := Aside0.mk hb2
 clear hb2
 have HB := Aside0.mk (Below.refl w.heap.size w)
 have H : (api_Lot_48_at_27.l0 k l0 (l0.length : Int) 0 a2_0 a2_1 a2_2 l2_3) = some r := h
 clear h
 have H' := Aside0.mk H
 clear H
 go_enter Tryd.func48, Tryd.ntmps48
 go_wp2
 go_loopg [8] k (fun kq v8 w' => ∃ (x8_1 : Int), v8 = .int .i64 x8_1 ∧ Aside0 (api_Lot_48_at_27.l0 kq l0 (l0.length : Int) x8_1 a2_0 a2_1 a2_2 l2_3 = some r) ∧ Aside0 (kq ≤ k) ∧ Aside0 (w'.heap[B2]? = some (.cells #[.int .i64 a2_0, .int .i64 a2_1, .int .i64 a2_2, (.slice A2_3 l2_3.length c2_3)] 33 (0, 0))) ∧ Aside0 (Below w.heap.size w w'))
 case atStart => exact ⟨(0), (by first | rfl | (simp; done) | (simp [*]; done)), H', ⟨Nat.le_refl _⟩, ⟨by (with_reducible repeat (first | refine blk_drewN ?_ _ | refine blk_drew ?_ | refine blk_alloc ?_ _)); exact BK5002.out⟩, ⟨by repeat (first | (with_reducible first | exact HB.out | apply below_alloc | apply pw_below_drewN | apply below_drew1 | refine below_set ?_ GE5002.out) | exact HB.out)⟩⟩
 case round =>
  clear H'
  try clear c2
  try clear p2
  obtain ⟨x8_1, rfl, HA, HK1, BK5002, HB⟩ := hrel
  cases gk with
  | zero => exact absurd HA.out (by simp [api_Lot_48_at_27.l0])
  | succ k1 =>
   have H := HA.out
   clear HA
   simp only [api_Lot_48_at_27.l0] at H
   by_cases c4 : x8_1 < (l0.length : Int)
   ·
    rw [if_pos c4] at H
    have c4b0 : decide (x8_1 < (l0.length : Int)) = true := decide_eq_true c4
    clear c4
    by_cases c5 : 0 ≤ x8_1
    ·
     rw [if_pos c5] at H
     have c5b0 : decide (0 ≤ x8_1) = true := decide_eq_true c5
     clear c5
     by_cases c6 : x8_1 < (l0.length : Int)
     ·
      rw [if_pos c6] at H
      have c6b0 : decide (x8_1 < (l0.length : Int)) = true := decide_eq_true c6
      clear c6
      replace H := Option.bind_eq_some_iff.mp H
      obtain ⟨t394, A70, H⟩ := H
      replace H : (if t394 = true then (some x8_1) else (api_Lot_48_at_27.l0 k1 l0 (l0.length : Int) (wrap64 (x8_1 + 1)) a2_0 a2_1 a2_2 l2_3)) = some r := H
      have A7 := Aside0.mk A70
      clear A70
      by_cases c8 : t394 = true
      ·
       subst c8
       have H1 : (some x8_1) = some r := by rw [if_pos rfl] at H; exact H
       clear H
       have H := H1
       clear H1
       obtain rfl := Option.some.inj H
       have p393 : 0 ≤ (x8_1 : Int) := of_decide_eq_true (by first | (with_reducible assumption) | assumption)
       have q393 : x8_1 < (l0.length : Int) := of_decide_eq_true (by first | (with_reducible assumption) | assumption)
       obtain ⟨ad393, A393_3, c393_3, e393, hx393_0, hx393_1, hx393_2, hx393_3, hl393_3, hi393_3⟩ := at_T33 HR0.out x8_1 p393 q393
       cases e393
       replace hx393_0 := (HB.out.cell (World.block_lt_of_cell? w _ hx393_0)).trans hx393_0
       replace hx393_1 := (HB.out.cell (World.block_lt_of_cell? w _ hx393_1)).trans hx393_1
       replace hx393_2 := (HB.out.cell (World.block_lt_of_cell? w _ hx393_2)).trans hx393_2
       replace hx393_3 := (HB.out.cell (World.block_lt_of_cell? w _ hx393_3)).trans hx393_3
       have HR393_3 := Aside0.mk hi393_3
       have HC393_3 := Aside0.mk hl393_3
       clear hi393_3 hl393_3
       replace p393 := eq_true p393
       replace q393 := eq_true q393
       go_wp2_with (first | (go_at_call 27; (with_reducible refine (spilelaw22_LotPlaces_1_1.calls ((rd_T33 l0 x8_1).f0) ((rd_T33 l0 x8_1).f1.f0) ((rd_T33 l0 x8_1).f1.f1) _ _ ((rd_T33 l0 x8_1).f2)  B2 a2_0 a2_1 a2_2 A2_3 c2_3 l2_3 true _ ?side1 ?side2 ?side3 ?side4 ?side5 A7.out).mono ?_); (case side1 => repeat (first | exact (Kd.C_below HR393_3.out HB.out) | (with_reducible refine Kd.C_alloc ?_ _) | (with_reducible refine Kd.C_drewN ?_ _) | (with_reducible refine Kd.C_drew ?_))); (case side2 => exact HC393_3.out); (case side3 => repeat (first | exact (Kd.C_below HR2_3.out HB.out) | (with_reducible refine Kd.C_alloc ?_ _) | (with_reducible refine Kd.C_drewN ?_ _) | (with_reducible refine Kd.C_drew ?_))); (case side4 => exact HC2_3.out); (case side5 => (with_reducible repeat (first | refine blk_drewN ?_ _ | refine blk_drew ?_ | refine blk_alloc ?_ _)); exact BK5002.out); rintro e w9 ⟨rfl, hb⟩; have n0_ := Aside0.mk (blk_below (g := B2) (o := .cells #[.int .i64 a2_0, .int .i64 a2_1, .int .i64 a2_2, .slice A2_3 l2_3.length c2_3] 33 (0, 0)) (by (with_reducible repeat (first | refine blk_drewN ?_ _ | refine blk_drew ?_ | refine blk_alloc ?_ _)); exact BK5002.out) hb); have n1_ := Aside0.mk (below_step (by repeat (first | (with_reducible first | exact HB.out | apply below_alloc | apply pw_below_drewN | apply below_drew1 | refine below_set ?_ GE5002.out) | exact HB.out)) hb); clear BK5002; clear HB; have BK5002 := n0_; have HB := n1_; clear n0_ n1_; (try clear hb); (try clear hb2); (try clear hk); (try clear hi)))
       go_ret
       exact ⟨by first | rfl | (simp [errW_none, errW_some] <;> rfl) | (simp [*, errW_none, errW_some] <;> rfl), by repeat (first | (with_reducible first | exact HB.out | apply below_alloc | apply pw_below_drewN | apply below_drew1 | refine below_set ?_ GE5002.out) | exact HB.out)⟩
      ·
       replace c8 := Bool.eq_false_iff.mpr c8
       subst c8
       have H1 : (api_Lot_48_at_27.l0 k1 l0 (l0.length : Int) (wrap64 (x8_1 + 1)) a2_0 a2_1 a2_2 l2_3) = some r := by rw [if_neg (show ¬ (false = true) by decide)] at H; exact H
       clear H
       have H := H1
       clear H1
       have H' := Aside0.mk H
       clear H
       have p393 : 0 ≤ (x8_1 : Int) := of_decide_eq_true (by first | (with_reducible assumption) | assumption)
       have q393 : x8_1 < (l0.length : Int) := of_decide_eq_true (by first | (with_reducible assumption) | assumption)
       obtain ⟨ad393, A393_3, c393_3, e393, hx393_0, hx393_1, hx393_2, hx393_3, hl393_3, hi393_3⟩ := at_T33 HR0.out x8_1 p393 q393
       cases e393
       replace hx393_0 := (HB.out.cell (World.block_lt_of_cell? w _ hx393_0)).trans hx393_0
       replace hx393_1 := (HB.out.cell (World.block_lt_of_cell? w _ hx393_1)).trans hx393_1
       replace hx393_2 := (HB.out.cell (World.block_lt_of_cell? w _ hx393_2)).trans hx393_2
       replace hx393_3 := (HB.out.cell (World.block_lt_of_cell? w _ hx393_3)).trans hx393_3
       have HR393_3 := Aside0.mk hi393_3
       have HC393_3 := Aside0.mk hl393_3
       clear hi393_3 hl393_3
       replace p393 := eq_true p393
       replace q393 := eq_true q393
       go_wp2_with (first | (go_at_call 27; (with_reducible refine (spilelaw22_LotPlaces_1_1.calls ((rd_T33 l0 x8_1).f0) ((rd_T33 l0 x8_1).f1.f0) ((rd_T33 l0 x8_1).f1.f1) _ _ ((rd_T33 l0 x8_1).f2)  B2 a2_0 a2_1 a2_2 A2_3 c2_3 l2_3 false _ ?side1 ?side2 ?side3 ?side4 ?side5 A7.out).mono ?_); (case side1 => repeat (first | exact (Kd.C_below HR393_3.out HB.out) | (with_reducible refine Kd.C_alloc ?_ _) | (with_reducible refine Kd.C_drewN ?_ _) | (with_reducible refine Kd.C_drew ?_))); (case side2 => exact HC393_3.out); (case side3 => repeat (first | exact (Kd.C_below HR2_3.out HB.out) | (with_reducible refine Kd.C_alloc ?_ _) | (with_reducible refine Kd.C_drewN ?_ _) | (with_reducible refine Kd.C_drew ?_))); (case side4 => exact HC2_3.out); (case side5 => (with_reducible repeat (first | refine blk_drewN ?_ _ | refine blk_drew ?_ | refine blk_alloc ?_ _)); exact BK5002.out); rintro e w10 ⟨rfl, hb⟩; have n0_ := Aside0.mk (blk_below (g := B2) (o := .cells #[.int .i64 a2_0, .int .i64 a2_1, .int .i64 a2_2, .slice A2_3 l2_3.length c2_3] 33 (0, 0)) (by (with_reducible repeat (first | refine blk_drewN ?_ _ | refine blk_drew ?_ | refine blk_alloc ?_ _)); exact BK5002.out) hb); have n1_ := Aside0.mk (below_step (by repeat (first | (with_reducible first | exact HB.out | apply below_alloc | apply pw_below_drewN | apply below_drew1 | refine below_set ?_ GE5002.out) | exact HB.out)) hb); clear BK5002; clear HB; have BK5002 := n0_; have HB := n1_; clear n0_ n1_; (try clear hb); (try clear hb2); (try clear hk); (try clear hi)))
       go_roundg k1
       case measure => have := HK1.out; omega
       case rel => exact ⟨(wrap64 (x8_1 + 1)), (by first | rfl | (simp; done) | (simp [*]; done)), H', ⟨by have := HK1.out; omega⟩, ⟨by (with_reducible repeat (first | refine blk_drewN ?_ _ | refine blk_drew ?_ | refine blk_alloc ?_ _)); exact BK5002.out⟩, ⟨by repeat (first | (with_reducible first | exact HB.out | apply below_alloc | apply pw_below_drewN | apply below_drew1 | refine below_set ?_ GE5002.out) | exact HB.out)⟩⟩
     ·
      rw [if_neg c6] at H
      exact absurd H (by simp)
    ·
     rw [if_neg c5] at H
     exact absurd H (by simp)
   ·
    rw [if_neg c4] at H
    have c4b0 : decide (x8_1 < (l0.length : Int)) = false := decide_eq_false c4
    clear c4
    obtain rfl := Option.some.inj H
    go_wp2
    go_ret
    exact ⟨by first | rfl | (simp [errW_none, errW_some] <;> rfl) | (simp [*, errW_none, errW_some] <;> rfl), by repeat (first | (with_reducible first | exact HB.out | apply below_alloc | apply pw_below_drewN | apply below_drew1 | refine below_set ?_ GE5002.out) | exact HB.out)⟩
def api_Lot_25_at_27.f (k : Nat) (l0 : List (S33))  (a2_0 : Int) (a2_1 : Int) (a2_2 : Int) (l2_3 : List (S35)) : Option (Bool) := (api_Lot_48_at_27.f k l0 a2_0 a2_1 a2_2 l2_3).bind fun t393 => (some (decide (t393 ≥ 0)))
theorem api_Lot_25_at_27.mono : ∀ a0 a1 a2 a3 a4 k, LeO (api_Lot_25_at_27.f k a0 a1 a2 a3 a4) (api_Lot_25_at_27.f (k + 1) a0 a1 a2 a3 a4) := by
 intro a0 a1 a2 a3 a4 k
 unfold api_Lot_25_at_27.f
 repeat' first
   | (with_reducible exact api_Lot_48_at_27.mono _ _ _ _ _ _)
   | (with_reducible exact LeO.refl _)
   | (with_reducible exact LeO.none _)
   | (with_reducible refine LeO.ite ?_ ?_)
   | (with_reducible refine LeO.bind ?_ (fun _ => ?_))
   | exact api_Lot_48_at_27.mono _ _ _ _ _ _
   | exact LeO.none _
   | refine LeO.ite ?_ ?_
   | refine LeO.bind ?_ (fun _ => ?_)
set_option maxHeartbeats 8000000 in
set_option maxRecDepth 100000 in
theorem api_Lot_25_at_27.calls (k : Nat) (A0 : Option Addr) (c0 : Nat) (l0 : List (S33))  (B2 : Nat) (a2_0 : Int) (a2_1 : Int) (a2_2 : Int) (A2_3 : Option Addr) (c2_3 : Nat) (l2_3 : List (S35)) (r : Bool) (w : World) (hr0 : Kd.C k33 w A0 l0.length l0) (hc0 : l0.length ≤ c0) (hr2_3 : Kd.C k35 w A2_3 l2_3.length l2_3) (hc2_3 : l2_3.length ≤ c2_3) (hb2 : w.heap[B2]? = some (.cells #[.int .i64 a2_0, .int .i64 a2_1, .int .i64 a2_2, .slice A2_3 l2_3.length c2_3] 33 (0, 0))) (h : api_Lot_25_at_27.f k l0 a2_0 a2_1 a2_2 l2_3 = some r) :
  Calls Tryd.prog 25 #[.slice A0 l0.length c0, .func (.func 27) #[] #[.pointer (some ⟨B2, 0, none⟩)]] w fun e w' => e = .returned (.bool r) ∧ Below w.heap.size w w' := by
 have HR0 := Aside0.mk hr0
 have HC0 := Aside0.mk hc0
 clear hr0 hc0
 have HR2_3 := Aside0.mk hr2_3
 have HC2_3 := Aside0.mk hc2_3
 clear hr2_3 hc2_3
 have BK5002 := Aside0.mk hb2
 clear hb2
 have HB := Aside0.mk (Below.refl w.heap.size w)
 have H : ((api_Lot_48_at_27.f k l0 a2_0 a2_1 a2_2 l2_3).bind fun t393 => (some (decide (t393 ≥ 0)))) = some r := h
 clear h
 replace H := Option.bind_eq_some_iff.mp H
 obtain ⟨t393, A40, H⟩ := H
 replace H : (some (decide (t393 ≥ 0))) = some r := H
 have A4 := Aside0.mk A40
 clear A40
 obtain rfl := Option.some.inj H
 go_enter Tryd.func25, Tryd.ntmps25
 go_wp2_with (first | ((with_reducible refine gate_callee (f := 48) rfl ?_); refine goesL_ (some 7) rfl rfl Tryd.func48 (by kernel_rfl) rfl #[.slice A0 l0.length c0, .func (.func 27) #[] #[.pointer (some ⟨B2, 0, none⟩)]] rfl (by (try simp only [List.map_toArray, List.map_cons, List.map_nil]); first | done | rfl | (simp only [List.length_drop, List.length_take]; rfl)) ?_; (with_reducible refine (api_Lot_48_at_27.calls k _ _ l0  B2 a2_0 a2_1 a2_2 A2_3 c2_3 l2_3 t393 _ ?side1 ?side2 ?side3 ?side4 ?side5 A4.out).mono ?_); (case side1 => repeat (first | exact HR0.out | (with_reducible refine Kd.C_alloc ?_ _) | (with_reducible refine Kd.C_drewN ?_ _) | (with_reducible refine Kd.C_drew ?_))); (case side2 => exact HC0.out); (case side3 => repeat (first | exact HR2_3.out | (with_reducible refine Kd.C_alloc ?_ _) | (with_reducible refine Kd.C_drewN ?_ _) | (with_reducible refine Kd.C_drew ?_))); (case side4 => exact HC2_3.out); (case side5 => (with_reducible repeat (first | refine blk_drewN ?_ _ | refine blk_drew ?_ | refine blk_alloc ?_ _)); exact BK5002.out); rintro e w5 ⟨rfl, hb⟩; refine ⟨_, rfl, ?_⟩; have n0_ := Aside0.mk (blk_below (g := B2) (o := .cells #[.int .i64 a2_0, .int .i64 a2_1, .int .i64 a2_2, .slice A2_3 l2_3.length c2_3] 33 (0, 0)) (by (with_reducible repeat (first | refine blk_drewN ?_ _ | refine blk_drew ?_ | refine blk_alloc ?_ _)); exact BK5002.out) hb); have n1_ := Aside0.mk (below_step (by repeat (first | (with_reducible first | exact HB.out | apply below_alloc | apply pw_below_drewN | apply below_drew1 | refine below_set ?_ GE5002.out) | exact HB.out)) hb); clear BK5002; clear HB; have BK5002 := n0_; have HB := n1_; clear n0_ n1_; (try clear hb); (try clear hb2); (try clear hk); (try clear hi)))
 go_ret
 exact ⟨by first | rfl | (simp [errW_none, errW_some] <;> rfl) | (simp [*, errW_none, errW_some] <;> rfl), by repeat (first | (with_reducible first | exact HB.out | apply below_alloc | apply pw_below_drewN | apply below_drew1 | refine below_set ?_ GE5002.out) | exact HB.out)⟩
def spilelaw22_LotPlaces_1.f (k : Nat) (a0_0 : Int) (a0_1 : Int) (a0_2 : Int) (l0_3 : List (S35)) (a1_0 : Int) (a1_1 : Int) (a1_2 : Int) (l1_3 : List (S35)) (l2_0 : List (S33)) : Option (Bool) := if a0_0 = a1_0 then (some false) else ((api_Lot_25_at_27.f k l2_0 a0_0 a0_1 a0_2 l0_3).bind fun t395 => (some (!t395)))
theorem spilelaw22_LotPlaces_1.mono : ∀ a0 a1 a2 a3 a4 a5 a6 a7 a8 k, LeO (spilelaw22_LotPlaces_1.f k a0 a1 a2 a3 a4 a5 a6 a7 a8) (spilelaw22_LotPlaces_1.f (k + 1) a0 a1 a2 a3 a4 a5 a6 a7 a8) := by
 intro a0 a1 a2 a3 a4 a5 a6 a7 a8 k
 unfold spilelaw22_LotPlaces_1.f
 repeat' first
   | (with_reducible exact api_Lot_25_at_27.mono _ _ _ _ _ _)
   | (with_reducible exact LeO.refl _)
   | (with_reducible exact LeO.none _)
   | (with_reducible refine LeO.ite ?_ ?_)
   | (with_reducible refine LeO.bind ?_ (fun _ => ?_))
   | exact api_Lot_25_at_27.mono _ _ _ _ _ _
   | exact LeO.none _
   | refine LeO.ite ?_ ?_
   | refine LeO.bind ?_ (fun _ => ?_)
set_option maxHeartbeats 8000000 in
set_option maxRecDepth 100000 in
theorem spilelaw22_LotPlaces_1.calls (k : Nat) (a0_0 : Int) (a0_1 : Int) (a0_2 : Int) (A0_3 : Option Addr) (c0_3 : Nat) (l0_3 : List (S35)) (B1 : Nat) (a1_0 : Int) (a1_1 : Int) (a1_2 : Int) (A1_3 : Option Addr) (c1_3 : Nat) (l1_3 : List (S35)) (B2 : Nat) (A2_0 : Option Addr) (c2_0 : Nat) (l2_0 : List (S33)) (r : Bool) (w : World) (hr0_3 : Kd.C k35 w A0_3 l0_3.length l0_3) (hc0_3 : l0_3.length ≤ c0_3) (hr1_3 : Kd.C k35 w A1_3 l1_3.length l1_3) (hc1_3 : l1_3.length ≤ c1_3) (hr2_0 : Kd.C k33 w A2_0 l2_0.length l2_0) (hc2_0 : l2_0.length ≤ c2_0) (hb1 : w.heap[B1]? = some (.cells #[.int .i64 a1_0, .int .i64 a1_1, .int .i64 a1_2, .slice A1_3 l1_3.length c1_3] 33 (0, 0))) (hb2 : w.heap[B2]? = some (.cells #[.slice A2_0 l2_0.length c2_0] 22 (0, 0))) (h : spilelaw22_LotPlaces_1.f k a0_0 a0_1 a0_2 l0_3 a1_0 a1_1 a1_2 l1_3 l2_0 = some r) :
  Calls Tryd.prog 26 #[.agg #[.int .i64 a0_0, .int .i64 a0_1, .int .i64 a0_2, .slice A0_3 l0_3.length c0_3], .pointer (some ⟨B1, 0, none⟩), .pointer (some ⟨B2, 0, none⟩)] w fun e w' => e = .returned (.bool r) ∧ Below w.heap.size w w' := by
 have hu33 := Tryd.underlying33
 have HR0_3 := Aside0.mk hr0_3
 have HC0_3 := Aside0.mk hc0_3
 clear hr0_3 hc0_3
 have HR1_3 := Aside0.mk hr1_3
 have HC1_3 := Aside0.mk hc1_3
 clear hr1_3 hc1_3
 have HR2_0 := Aside0.mk hr2_0
 have HC2_0 := Aside0.mk hc2_0
 clear hr2_0 hc2_0
 have BK5001 := Aside0.mk hb1
 clear hb1
 have BK5002 := Aside0.mk hb2
 clear hb2
 have HB := Aside0.mk (Below.refl w.heap.size w)
 have H : (if a0_0 = a1_0 then (some false) else ((api_Lot_25_at_27.f k l2_0 a0_0 a0_1 a0_2 l0_3).bind fun t395 => (some (!t395)))) = some r := h
 clear h
 by_cases c4 : a0_0 = a1_0
 ·
  rw [if_pos c4] at H
  have c4b0 : (a0_0 == a1_0) = true := beq_iff_eq.mpr c4
  have c4b1 : (a0_0 != a1_0) = false := bne_eq_false_iff_eq.mpr c4
  clear c4
  obtain rfl := Option.some.inj H
  go_enter Tryd.func26, Tryd.ntmps26
  go_wp2_with (first | ((with_reducible refine gate_dst (N := 3) rfl ?_); refine box_event ?hg (N := 3) ?hd (cs := #[.int .i64 a0_0, .int .i64 a0_1, .int .i64 a0_2, .slice A0_3 l0_3.length c0_3]) (t := 33) ?hr ?_; (case hd => rfl); (case hg => rfl); (case hr => first | (go_simp; done) | (go_simp; rfl)); intro gb394 hg w5 hbox hb; have n0_ := Aside0.mk (blk_below (g := B1) (o := .cells #[.int .i64 a1_0, .int .i64 a1_1, .int .i64 a1_2, .slice A1_3 l1_3.length c1_3] 33 (0, 0)) (by (with_reducible repeat (first | refine blk_drewN ?_ _ | refine blk_drew ?_ | refine blk_alloc ?_ _)); exact BK5001.out) hb); have n1_ := Aside0.mk (blk_below (g := B2) (o := .cells #[.slice A2_0 l2_0.length c2_0] 22 (0, 0)) (by (with_reducible repeat (first | refine blk_drewN ?_ _ | refine blk_drew ?_ | refine blk_alloc ?_ _)); exact BK5002.out) hb); have n2_ := Aside0.mk (below_step (by repeat (first | (with_reducible first | exact HB.out | apply below_alloc | apply pw_below_drewN | apply below_drew1 | refine below_set ?_ GE5001.out | refine below_set ?_ GE5002.out) | exact HB.out)) hb); have n3_ := Aside0.mk (hbox); have n4_ := Aside0.mk ((by rw [hg]; exact (below_size (by repeat (first | (with_reducible first | exact HB.out | apply below_alloc | apply pw_below_drewN | apply below_drew1 | refine below_set ?_ GE5001.out | refine below_set ?_ GE5002.out) | exact HB.out))) : w.heap.size ≤ gb394)); have n5_ := Aside0.mk ((by rw [hg]; exact (below_size (by repeat (first | (with_reducible first | exact HB.out | apply below_alloc | apply pw_below_drewN | apply below_drew1 | refine below_set ?_ GE5001.out | refine below_set ?_ GE5002.out) | exact HB.out))) : w.heap.size ≤ gb394)); have n6_ := Aside0.mk ((by rw [hg]; exact Nat.ne_of_lt (blk_lt (g := B1) (o := .cells #[.int .i64 a1_0, .int .i64 a1_1, .int .i64 a1_2, .slice A1_3 l1_3.length c1_3] 33 (0, 0)) (by (with_reducible repeat (first | refine blk_drewN ?_ _ | refine blk_drew ?_ | refine blk_alloc ?_ _)); exact BK5001.out)) : B1 ≠ gb394)); have n7_ := Aside0.mk ((by rw [hg]; exact Nat.ne_of_gt (blk_lt (g := B1) (o := .cells #[.int .i64 a1_0, .int .i64 a1_1, .int .i64 a1_2, .slice A1_3 l1_3.length c1_3] 33 (0, 0)) (by (with_reducible repeat (first | refine blk_drewN ?_ _ | refine blk_drew ?_ | refine blk_alloc ?_ _)); exact BK5001.out)) : gb394 ≠ B1)); have n8_ := Aside0.mk ((by rw [hg]; exact Nat.ne_of_lt (blk_lt (g := B2) (o := .cells #[.slice A2_0 l2_0.length c2_0] 22 (0, 0)) (by (with_reducible repeat (first | refine blk_drewN ?_ _ | refine blk_drew ?_ | refine blk_alloc ?_ _)); exact BK5002.out)) : B2 ≠ gb394)); have n9_ := Aside0.mk ((by rw [hg]; exact Nat.ne_of_gt (blk_lt (g := B2) (o := .cells #[.slice A2_0 l2_0.length c2_0] 22 (0, 0)) (by (with_reducible repeat (first | refine blk_drewN ?_ _ | refine blk_drew ?_ | refine blk_alloc ?_ _)); exact BK5002.out)) : gb394 ≠ B2)); clear BK5001; clear BK5002; clear HB; have BK5001 := n0_; have BK5002 := n1_; have HB := n2_; have BK394 := n3_; have GW394 := n4_; have GE394 := n5_; have NB5001_394 := n6_; have NB394_5001 := n7_; have NB5002_394 := n8_; have NB394_5002 := n9_; clear n0_ n1_ n2_ n3_ n4_ n5_ n6_ n7_ n8_ n9_; clear hb hbox hg; have hnb6 := NB394_5001.out; have hnc6 := NB5001_394.out; have hnb7 := NB394_5002.out; have hnc7 := NB5002_394.out; have hcz8_0 : w5.cell? ⟨gb394, 0, none⟩ = some (.int .i64 a0_0) := (blk_cell BK394.out 0).trans rfl; have hcz8_1 : w5.cell? ⟨gb394, 1, none⟩ = some (.int .i64 a0_1) := (blk_cell BK394.out 1).trans rfl; have hcz8_2 : w5.cell? ⟨gb394, 2, none⟩ = some (.int .i64 a0_2) := (blk_cell BK394.out 2).trans rfl; have hcz8_3 : w5.cell? ⟨gb394, 3, none⟩ = some (.slice A0_3 l0_3.length c0_3) := (blk_cell BK394.out 3).trans rfl; have hfz8_0 := blk_frozen BK394.out 0; have hfz8_1 := blk_frozen BK394.out 1; have hfz8_2 := blk_frozen BK394.out 2; have hfz8_3 := blk_frozen BK394.out 3; have hcz9_0 : w5.cell? ⟨B1, 0, none⟩ = some (.int .i64 a1_0) := (blk_cell BK5001.out 0).trans rfl; have hcz9_1 : w5.cell? ⟨B1, 1, none⟩ = some (.int .i64 a1_1) := (blk_cell BK5001.out 1).trans rfl; have hcz9_2 : w5.cell? ⟨B1, 2, none⟩ = some (.int .i64 a1_2) := (blk_cell BK5001.out 2).trans rfl; have hcz9_3 : w5.cell? ⟨B1, 3, none⟩ = some (.slice A1_3 l1_3.length c1_3) := (blk_cell BK5001.out 3).trans rfl; have hfz9_0 := blk_frozen BK5001.out 0; have hfz9_1 := blk_frozen BK5001.out 1; have hfz9_2 := blk_frozen BK5001.out 2; have hfz9_3 := blk_frozen BK5001.out 3))
  go_ret
  exact ⟨by first | rfl | (simp [errW_none, errW_some] <;> rfl) | (simp [*, errW_none, errW_some] <;> rfl), by repeat (first | (with_reducible first | exact HB.out | apply below_alloc | apply pw_below_drewN | apply below_drew1 | refine below_set ?_ GE5001.out | refine below_set ?_ GE5002.out | refine below_set ?_ GE394.out) | exact HB.out)⟩
 ·
  rw [if_neg c4] at H
  have c4b0 : (a0_0 == a1_0) = false := beq_eq_false_iff_ne.mpr c4
  have c4b1 : (a0_0 != a1_0) = true := bne_iff_ne.mpr c4
  replace H := Option.bind_eq_some_iff.mp H
  obtain ⟨t395, A100, H⟩ := H
  replace H : (some (!t395)) = some r := H
  have A10 := Aside0.mk A100
  clear A100
  obtain rfl := Option.some.inj H
  go_enter Tryd.func26, Tryd.ntmps26
  go_wp2_with (first | ((with_reducible refine gate_dst (N := 3) rfl ?_); refine box_event ?hg (N := 3) ?hd (cs := #[.int .i64 a0_0, .int .i64 a0_1, .int .i64 a0_2, .slice A0_3 l0_3.length c0_3]) (t := 33) ?hr ?_; (case hd => rfl); (case hg => rfl); (case hr => first | (go_simp; done) | (go_simp; rfl)); intro gb394 hg w11 hbox hb; have n0_ := Aside0.mk (blk_below (g := B1) (o := .cells #[.int .i64 a1_0, .int .i64 a1_1, .int .i64 a1_2, .slice A1_3 l1_3.length c1_3] 33 (0, 0)) (by (with_reducible repeat (first | refine blk_drewN ?_ _ | refine blk_drew ?_ | refine blk_alloc ?_ _)); exact BK5001.out) hb); have n1_ := Aside0.mk (blk_below (g := B2) (o := .cells #[.slice A2_0 l2_0.length c2_0] 22 (0, 0)) (by (with_reducible repeat (first | refine blk_drewN ?_ _ | refine blk_drew ?_ | refine blk_alloc ?_ _)); exact BK5002.out) hb); have n2_ := Aside0.mk (below_step (by repeat (first | (with_reducible first | exact HB.out | apply below_alloc | apply pw_below_drewN | apply below_drew1 | refine below_set ?_ GE5001.out | refine below_set ?_ GE5002.out) | exact HB.out)) hb); have n3_ := Aside0.mk (hbox); have n4_ := Aside0.mk ((by rw [hg]; exact (below_size (by repeat (first | (with_reducible first | exact HB.out | apply below_alloc | apply pw_below_drewN | apply below_drew1 | refine below_set ?_ GE5001.out | refine below_set ?_ GE5002.out) | exact HB.out))) : w.heap.size ≤ gb394)); have n5_ := Aside0.mk ((by rw [hg]; exact (below_size (by repeat (first | (with_reducible first | exact HB.out | apply below_alloc | apply pw_below_drewN | apply below_drew1 | refine below_set ?_ GE5001.out | refine below_set ?_ GE5002.out) | exact HB.out))) : w.heap.size ≤ gb394)); have n6_ := Aside0.mk ((by rw [hg]; exact Nat.ne_of_lt (blk_lt (g := B1) (o := .cells #[.int .i64 a1_0, .int .i64 a1_1, .int .i64 a1_2, .slice A1_3 l1_3.length c1_3] 33 (0, 0)) (by (with_reducible repeat (first | refine blk_drewN ?_ _ | refine blk_drew ?_ | refine blk_alloc ?_ _)); exact BK5001.out)) : B1 ≠ gb394)); have n7_ := Aside0.mk ((by rw [hg]; exact Nat.ne_of_gt (blk_lt (g := B1) (o := .cells #[.int .i64 a1_0, .int .i64 a1_1, .int .i64 a1_2, .slice A1_3 l1_3.length c1_3] 33 (0, 0)) (by (with_reducible repeat (first | refine blk_drewN ?_ _ | refine blk_drew ?_ | refine blk_alloc ?_ _)); exact BK5001.out)) : gb394 ≠ B1)); have n8_ := Aside0.mk ((by rw [hg]; exact Nat.ne_of_lt (blk_lt (g := B2) (o := .cells #[.slice A2_0 l2_0.length c2_0] 22 (0, 0)) (by (with_reducible repeat (first | refine blk_drewN ?_ _ | refine blk_drew ?_ | refine blk_alloc ?_ _)); exact BK5002.out)) : B2 ≠ gb394)); have n9_ := Aside0.mk ((by rw [hg]; exact Nat.ne_of_gt (blk_lt (g := B2) (o := .cells #[.slice A2_0 l2_0.length c2_0] 22 (0, 0)) (by (with_reducible repeat (first | refine blk_drewN ?_ _ | refine blk_drew ?_ | refine blk_alloc ?_ _)); exact BK5002.out)) : gb394 ≠ B2)); clear BK5001; clear BK5002; clear HB; have BK5001 := n0_; have BK5002 := n1_; have HB := n2_; have BK394 := n3_; have GW394 := n4_; have GE394 := n5_; have NB5001_394 := n6_; have NB394_5001 := n7_; have NB5002_394 := n8_; have NB394_5002 := n9_; clear n0_ n1_ n2_ n3_ n4_ n5_ n6_ n7_ n8_ n9_; clear hb hbox hg; have hnb12 := NB394_5001.out; have hnc12 := NB5001_394.out; have hnb13 := NB394_5002.out; have hnc13 := NB5002_394.out; have hcz14_0 : w11.cell? ⟨gb394, 0, none⟩ = some (.int .i64 a0_0) := (blk_cell BK394.out 0).trans rfl; have hcz14_1 : w11.cell? ⟨gb394, 1, none⟩ = some (.int .i64 a0_1) := (blk_cell BK394.out 1).trans rfl; have hcz14_2 : w11.cell? ⟨gb394, 2, none⟩ = some (.int .i64 a0_2) := (blk_cell BK394.out 2).trans rfl; have hcz14_3 : w11.cell? ⟨gb394, 3, none⟩ = some (.slice A0_3 l0_3.length c0_3) := (blk_cell BK394.out 3).trans rfl; have hfz14_0 := blk_frozen BK394.out 0; have hfz14_1 := blk_frozen BK394.out 1; have hfz14_2 := blk_frozen BK394.out 2; have hfz14_3 := blk_frozen BK394.out 3; have hcz15_0 : w11.cell? ⟨B1, 0, none⟩ = some (.int .i64 a1_0) := (blk_cell BK5001.out 0).trans rfl; have hcz15_1 : w11.cell? ⟨B1, 1, none⟩ = some (.int .i64 a1_1) := (blk_cell BK5001.out 1).trans rfl; have hcz15_2 : w11.cell? ⟨B1, 2, none⟩ = some (.int .i64 a1_2) := (blk_cell BK5001.out 2).trans rfl; have hcz15_3 : w11.cell? ⟨B1, 3, none⟩ = some (.slice A1_3 l1_3.length c1_3) := (blk_cell BK5001.out 3).trans rfl; have hfz15_0 := blk_frozen BK5001.out 0; have hfz15_1 := blk_frozen BK5001.out 1; have hfz15_2 := blk_frozen BK5001.out 2; have hfz15_3 := blk_frozen BK5001.out 3; have hcz16_0 : w11.cell? ⟨B2, 0, none⟩ = some (.slice A2_0 l2_0.length c2_0) := (blk_cell BK5002.out 0).trans rfl; have hfz16_0 := blk_frozen BK5002.out 0) | (go_at_call 25; (with_reducible refine (api_Lot_25_at_27.calls k _ _ l2_0  gb394 a0_0 a0_1 a0_2 A0_3 c0_3 l0_3 t395 _ ?side1 ?side2 ?side3 ?side4 ?side5 A10.out).mono ?_); (case side1 => repeat (first | exact (Kd.C_below HR2_0.out HB.out) | (with_reducible refine Kd.C_alloc ?_ _) | (with_reducible refine Kd.C_drewN ?_ _) | (with_reducible refine Kd.C_drew ?_))); (case side2 => exact HC2_0.out); (case side3 => repeat (first | exact (Kd.C_below HR0_3.out HB.out) | (with_reducible refine Kd.C_alloc ?_ _) | (with_reducible refine Kd.C_drewN ?_ _) | (with_reducible refine Kd.C_drew ?_))); (case side4 => exact HC0_3.out); (case side5 => (with_reducible repeat (first | refine blk_drewN ?_ _ | refine blk_drew ?_ | refine blk_alloc ?_ _)); exact BK394.out); rintro e w17 ⟨rfl, hb⟩; have n0_ := Aside0.mk (blk_below (g := B1) (o := .cells #[.int .i64 a1_0, .int .i64 a1_1, .int .i64 a1_2, .slice A1_3 l1_3.length c1_3] 33 (0, 0)) (by (with_reducible repeat (first | refine blk_drewN ?_ _ | refine blk_drew ?_ | refine blk_alloc ?_ _)); exact BK5001.out) hb); have n1_ := Aside0.mk (blk_below (g := B2) (o := .cells #[.slice A2_0 l2_0.length c2_0] 22 (0, 0)) (by (with_reducible repeat (first | refine blk_drewN ?_ _ | refine blk_drew ?_ | refine blk_alloc ?_ _)); exact BK5002.out) hb); have n2_ := Aside0.mk (blk_below (g := gb394) (o := .cells #[.int .i64 a0_0, .int .i64 a0_1, .int .i64 a0_2, .slice A0_3 l0_3.length c0_3] 33 (0, 0)) (by (with_reducible repeat (first | refine blk_drewN ?_ _ | refine blk_drew ?_ | refine blk_alloc ?_ _)); exact BK394.out) hb); have n3_ := Aside0.mk (below_step (by repeat (first | (with_reducible first | exact HB.out | apply below_alloc | apply pw_below_drewN | apply below_drew1 | refine below_set ?_ GE5001.out | refine below_set ?_ GE5002.out | refine below_set ?_ GE394.out) | exact HB.out)) hb); clear BK5001; clear BK5002; clear BK394; clear HB; have BK5001 := n0_; have BK5002 := n1_; have BK394 := n2_; have HB := n3_; clear n0_ n1_ n2_ n3_; (try clear hb); (try clear hb2); (try clear hk); (try clear hi)))
  go_ret
  exact ⟨by first | rfl | (simp [errW_none, errW_some] <;> rfl) | (simp [*, errW_none, errW_some] <;> rfl), by repeat (first | (with_reducible first | exact HB.out | apply below_alloc | apply pw_below_drewN | apply below_drew1 | refine below_set ?_ GE5001.out | refine below_set ?_ GE5002.out | refine below_set ?_ GE394.out) | exact HB.out)⟩
end Go.Proofs.YtgjoenoknknoiaaDoor.Pr
namespace Go.Proofs.YtgjoenoknknoiaaDoor.Pr
open Go.RowKit Go.Proofs.YtgjoenoknknoiaaDoorW.PrintWords Go.Proofs.YtgjoenoknknoiaaDoorW.PrintLast Go.Proofs.YtgjoenoknknoiaaDoorW.PrintMore Go.Proofs.YtgjoenoknknoiaaDoor.X
attribute [local go_sem] max2_int min2_int max_two min_two max_three min_three max_four min_four   -- for this text's walks alone
set_option linter.unusedVariables false
set_option linter.unusedSimpArgs false
def api_Lot_48_at_26.l0 : Nat → List (S33) → Int → Int → Int → Int → Int → List (S35) → List (S33) → Option (Int)
 | 0, _, _, _, _, _, _, _, _ => none
 | k + 1, x0, x7, x8, x5003000, x5003001, x5003002, x5003003, x5004000 => if x8 < x7 then (if 0 ≤ x8 then (if x8 < (x0.length : Int) then ((spilelaw22_LotPlaces_1.f k ((rd_T33 x0 x8).f0) ((rd_T33 x0 x8).f1.f0) ((rd_T33 x0 x8).f1.f1) ((rd_T33 x0 x8).f2) x5003000 x5003001 x5003002 x5003003 x5004000).bind fun t397 => (if t397 = true then (some x8) else (api_Lot_48_at_26.l0 k x0 x7 (wrap64 (x8 + 1)) x5003000 x5003001 x5003002 x5003003 x5004000))) else (none)) else (none)) else (some (-1))
def api_Lot_48_at_26.f (k : Nat) (l0 : List (S33))  (a2_0 : Int) (a2_1 : Int) (a2_2 : Int) (l2_3 : List (S35)) (l3_0 : List (S33)) : Option (Int) := api_Lot_48_at_26.l0 k l0 (l0.length : Int) 0 a2_0 a2_1 a2_2 l2_3 l3_0
theorem api_Lot_48_at_26.mono_l : ∀ k, (∀ y0 y1 y2 y3 y4 y5 y6 y7, LeO (api_Lot_48_at_26.l0 k y0 y1 y2 y3 y4 y5 y6 y7) (api_Lot_48_at_26.l0 (k + 1) y0 y1 y2 y3 y4 y5 y6 y7))
 | 0 => fun _ _ _ _ _ _ _ _ r h => by simp [api_Lot_48_at_26.l0] at h
 | k + 1 => by
  have ih0 := api_Lot_48_at_26.mono_l k
  ·
   intro y0 y1 y2 y3 y4 y5 y6 y7
   unfold api_Lot_48_at_26.l0
   repeat' first
   | (with_reducible exact ih0 _ _ _ _ _ _ _ _)
   | (with_reducible exact spilelaw22_LotPlaces_1.mono _ _ _ _ _ _ _ _ _ _)
   | (with_reducible exact LeO.refl _)
   | (with_reducible exact LeO.none _)
   | (with_reducible refine LeO.ite ?_ ?_)
   | (with_reducible refine LeO.bind ?_ (fun _ => ?_))
   | exact ih0 _ _ _ _ _ _ _ _
   | exact spilelaw22_LotPlaces_1.mono _ _ _ _ _ _ _ _ _ _
   | exact LeO.none _
   | refine LeO.ite ?_ ?_
   | refine LeO.bind ?_ (fun _ => ?_)
theorem api_Lot_48_at_26.mono : ∀ a0 a1 a2 a3 a4 a5 k, LeO (api_Lot_48_at_26.f k a0 a1 a2 a3 a4 a5) (api_Lot_48_at_26.f (k + 1) a0 a1 a2 a3 a4 a5) := by
 intro a0 a1 a2 a3 a4 a5 k
 have ih0 := api_Lot_48_at_26.mono_l k
 unfold api_Lot_48_at_26.f
 repeat' first
   | (with_reducible exact ih0 _ _ _ _ _ _ _ _)
   | (with_reducible exact spilelaw22_LotPlaces_1.mono _ _ _ _ _ _ _ _ _ _)
   | (with_reducible exact LeO.refl _)
   | (with_reducible exact LeO.none _)
   | (with_reducible refine LeO.ite ?_ ?_)
   | (with_reducible refine LeO.bind ?_ (fun _ => ?_))
   | exact ih0 _ _ _ _ _ _ _ _
   | exact spilelaw22_LotPlaces_1.mono _ _ _ _ _ _ _ _ _ _
   | exact LeO.none _
   | refine LeO.ite ?_ ?_
   | refine LeO.bind ?_ (fun _ => ?_)
set_option maxHeartbeats 8000000 in
set_option maxRecDepth 100000 in
theorem api_Lot_48_at_26.calls (k : Nat) (A0 : Option Addr) (c0 : Nat) (l0 : List (S33))  (B2 : Nat) (a2_0 : Int) (a2_1 : Int) (a2_2 : Int) (A2_3 : Option Addr) (c2_3 : Nat) (l2_3 : List (S35)) (B3 : Nat) (A3_0 : Option Addr) (c3_0 : Nat) (l3_0 : List (S33)) (r : Int) (w : World) (hr0 : Kd.C k33 w A0 l0.length l0) (hc0 : l0.length ≤ c0) (hr2_3 : Kd.C k35 w A2_3 l2_3.length l2_3) (hc2_3 : l2_3.length ≤ c2_3) (hr3_0 : Kd.C k33 w A3_0 l3_0.length l3_0) (hc3_0 : l3_0.length ≤ c3_0) (hb2 : w.heap[B2]? = some (.cells #[.int .i64 a2_0, .int .i64 a2_1, .int .i64 a2_2, .slice A2_3 l2_3.length c2_3] 33 (0, 0))) (hb3 : w.heap[B3]? = some (.cells #[.slice A3_0 l3_0.length c3_0] 22 (0, 0))) (h : api_Lot_48_at_26.f k l0 a2_0 a2_1 a2_2 l2_3 l3_0 = some r) :
  Calls Tryd.prog 48 #[.slice A0 l0.length c0, .func (.func 26) #[] #[.pointer (some ⟨B2, 0, none⟩), .pointer (some ⟨B3, 0, none⟩)]] w fun e w' => e = .returned (.int .i64 r) ∧ Below w.heap.size w w' := by
 have hu33 := Tryd.underlying33
 have HR0 := Aside0.mk hr0
 have HC0 := Aside0.mk hc0
 clear hr0 hc0
 have HR2_3 := Aside0.mk hr2_3
 have HC2_3 := Aside0.mk hc2_3
 clear hr2_3 hc2_3
 have HR3_0 := Aside0.mk hr3_0
 have HC3_0 := Aside0.mk hc3_0
 clear hr3_0 hc3_0
 have BK5002 := Aside0.mk hb2
 clear hb2
 have BK5003 := Aside0.mk hb3
 clear hb3
 have HB := Aside0.mk (Below.refl w.heap.size w)
 have H : (api_Lot_48_at_26.l0 k l0 (l0.length : Int) 0 a2_0 a2_1 a2_2 l2_3 l3_0) = some r := h
 clear h
 have H' := Aside0.mk H
 clear H
 go_enter Tryd.func48, Tryd.ntmps48
 go_wp2
 go_loopg [8] k (fun kq v8 w' => ∃ (x8_1 : Int), v8 = .int .i64 x8_1 ∧ Aside0 (api_Lot_48_at_26.l0 kq l0 (l0.length : Int) x8_1 a2_0 a2_1 a2_2 l2_3 l3_0 = some r) ∧ Aside0 (kq ≤ k) ∧ Aside0 (w'.heap[B2]? = some (.cells #[.int .i64 a2_0, .int .i64 a2_1, .int .i64 a2_2, (.slice A2_3 l2_3.length c2_3)] 33 (0, 0))) ∧ Aside0 (w'.heap[B3]? = some (.cells #[(.slice A3_0 l3_0.length c3_0)] 22 (0, 0))) ∧ Aside0 (Below w.heap.size w w'))
 case atStart => exact ⟨(0), (by first | rfl | (simp; done) | (simp [*]; done)), H', ⟨Nat.le_refl _⟩, ⟨by (with_reducible repeat (first | refine blk_drewN ?_ _ | refine blk_drew ?_ | refine blk_alloc ?_ _)); exact BK5002.out⟩, ⟨by (with_reducible repeat (first | refine blk_drewN ?_ _ | refine blk_drew ?_ | refine blk_alloc ?_ _)); exact BK5003.out⟩, ⟨by repeat (first | (with_reducible first | exact HB.out | apply below_alloc | apply pw_below_drewN | apply below_drew1 | refine below_set ?_ GE5002.out | refine below_set ?_ GE5003.out) | exact HB.out)⟩⟩
 case round =>
  clear H'
  try clear c2
  try clear p2
  try clear c3
  try clear c4
  obtain ⟨x8_1, rfl, HA, HK1, BK5002, BK5003, HB⟩ := hrel
  cases gk with
  | zero => exact absurd HA.out (by simp [api_Lot_48_at_26.l0])
  | succ k1 =>
   have H := HA.out
   clear HA
   simp only [api_Lot_48_at_26.l0] at H
   by_cases c5 : x8_1 < (l0.length : Int)
   ·
    rw [if_pos c5] at H
    have c5b0 : decide (x8_1 < (l0.length : Int)) = true := decide_eq_true c5
    clear c5
    by_cases c6 : 0 ≤ x8_1
    ·
     rw [if_pos c6] at H
     have c6b0 : decide (0 ≤ x8_1) = true := decide_eq_true c6
     clear c6
     by_cases c7 : x8_1 < (l0.length : Int)
     ·
      rw [if_pos c7] at H
      have c7b0 : decide (x8_1 < (l0.length : Int)) = true := decide_eq_true c7
      clear c7
      replace H := Option.bind_eq_some_iff.mp H
      obtain ⟨t397, A80, H⟩ := H
      replace H : (if t397 = true then (some x8_1) else (api_Lot_48_at_26.l0 k1 l0 (l0.length : Int) (wrap64 (x8_1 + 1)) a2_0 a2_1 a2_2 l2_3 l3_0)) = some r := H
      have A8 := Aside0.mk A80
      clear A80
      by_cases c9 : t397 = true
      ·
       subst c9
       have H1 : (some x8_1) = some r := by rw [if_pos rfl] at H; exact H
       clear H
       have H := H1
       clear H1
       obtain rfl := Option.some.inj H
       have p396 : 0 ≤ (x8_1 : Int) := of_decide_eq_true (by first | (with_reducible assumption) | assumption)
       have q396 : x8_1 < (l0.length : Int) := of_decide_eq_true (by first | (with_reducible assumption) | assumption)
       obtain ⟨ad396, A396_3, c396_3, e396, hx396_0, hx396_1, hx396_2, hx396_3, hl396_3, hi396_3⟩ := at_T33 HR0.out x8_1 p396 q396
       cases e396
       replace hx396_0 := (HB.out.cell (World.block_lt_of_cell? w _ hx396_0)).trans hx396_0
       replace hx396_1 := (HB.out.cell (World.block_lt_of_cell? w _ hx396_1)).trans hx396_1
       replace hx396_2 := (HB.out.cell (World.block_lt_of_cell? w _ hx396_2)).trans hx396_2
       replace hx396_3 := (HB.out.cell (World.block_lt_of_cell? w _ hx396_3)).trans hx396_3
       have HR396_3 := Aside0.mk hi396_3
       have HC396_3 := Aside0.mk hl396_3
       clear hi396_3 hl396_3
       replace p396 := eq_true p396
       replace q396 := eq_true q396
       go_wp2_with (first | (go_at_call 26; (with_reducible refine (spilelaw22_LotPlaces_1.calls k1 ((rd_T33 l0 x8_1).f0) ((rd_T33 l0 x8_1).f1.f0) ((rd_T33 l0 x8_1).f1.f1) _ _ ((rd_T33 l0 x8_1).f2)  B2 a2_0 a2_1 a2_2 A2_3 c2_3 l2_3 B3 A3_0 c3_0 l3_0 true _ ?side1 ?side2 ?side3 ?side4 ?side5 ?side6 ?side7 ?side8 A8.out).mono ?_); (case side1 => repeat (first | exact (Kd.C_below HR396_3.out HB.out) | (with_reducible refine Kd.C_alloc ?_ _) | (with_reducible refine Kd.C_drewN ?_ _) | (with_reducible refine Kd.C_drew ?_))); (case side2 => exact HC396_3.out); (case side3 => repeat (first | exact (Kd.C_below HR2_3.out HB.out) | (with_reducible refine Kd.C_alloc ?_ _) | (with_reducible refine Kd.C_drewN ?_ _) | (with_reducible refine Kd.C_drew ?_))); (case side4 => exact HC2_3.out); (case side5 => repeat (first | exact (Kd.C_below HR3_0.out HB.out) | (with_reducible refine Kd.C_alloc ?_ _) | (with_reducible refine Kd.C_drewN ?_ _) | (with_reducible refine Kd.C_drew ?_))); (case side6 => exact HC3_0.out); (case side7 => (with_reducible repeat (first | refine blk_drewN ?_ _ | refine blk_drew ?_ | refine blk_alloc ?_ _)); exact BK5002.out); (case side8 => (with_reducible repeat (first | refine blk_drewN ?_ _ | refine blk_drew ?_ | refine blk_alloc ?_ _)); exact BK5003.out); rintro e w10 ⟨rfl, hb⟩; have n0_ := Aside0.mk (blk_below (g := B2) (o := .cells #[.int .i64 a2_0, .int .i64 a2_1, .int .i64 a2_2, .slice A2_3 l2_3.length c2_3] 33 (0, 0)) (by (with_reducible repeat (first | refine blk_drewN ?_ _ | refine blk_drew ?_ | refine blk_alloc ?_ _)); exact BK5002.out) hb); have n1_ := Aside0.mk (blk_below (g := B3) (o := .cells #[.slice A3_0 l3_0.length c3_0] 22 (0, 0)) (by (with_reducible repeat (first | refine blk_drewN ?_ _ | refine blk_drew ?_ | refine blk_alloc ?_ _)); exact BK5003.out) hb); have n2_ := Aside0.mk (below_step (by repeat (first | (with_reducible first | exact HB.out | apply below_alloc | apply pw_below_drewN | apply below_drew1 | refine below_set ?_ GE5002.out | refine below_set ?_ GE5003.out) | exact HB.out)) hb); clear BK5002; clear BK5003; clear HB; have BK5002 := n0_; have BK5003 := n1_; have HB := n2_; clear n0_ n1_ n2_; (try clear hb); (try clear hb2); (try clear hk); (try clear hi)))
       go_ret
       exact ⟨by first | rfl | (simp [errW_none, errW_some] <;> rfl) | (simp [*, errW_none, errW_some] <;> rfl), by repeat (first | (with_reducible first | exact HB.out | apply below_alloc | apply pw_below_drewN | apply below_drew1 | refine below_set ?_ GE5002.out | refine below_set ?_ GE5003.out) | exact HB.out)⟩
      ·
       replace c9 := Bool.eq_false_iff.mpr c9
       subst c9
       have H1 : (api_Lot_48_at_26.l0 k1 l0 (l0.length : Int) (wrap64 (x8_1 + 1)) a2_0 a2_1 a2_2 l2_3 l3_0) = some r := by rw [if_neg (show ¬ (false = true) by decide)] at H; exact H
       clear H
       have H := H1
       clear H1
       have H' := Aside0.mk H
       clear H
       have p396 : 0 ≤ (x8_1 : Int) := of_decide_eq_true (by first | (with_reducible assumption) | assumption)
       have q396 : x8_1 < (l0.length : Int) := of_decide_eq_true (by first | (with_reducible assumption) | assumption)
       obtain ⟨ad396, A396_3, c396_3, e396, hx396_0, hx396_1, hx396_2, hx396_3, hl396_3, hi396_3⟩ := at_T33 HR0.out x8_1 p396 q396
       cases e396
       replace hx396_0 := (HB.out.cell (World.block_lt_of_cell? w _ hx396_0)).trans hx396_0
       replace hx396_1 := (HB.out.cell (World.block_lt_of_cell? w _ hx396_1)).trans hx396_1
       replace hx396_2 := (HB.out.cell (World.block_lt_of_cell? w _ hx396_2)).trans hx396_2
       replace hx396_3 := (HB.out.cell (World.block_lt_of_cell? w _ hx396_3)).trans hx396_3
       have HR396_3 := Aside0.mk hi396_3
       have HC396_3 := Aside0.mk hl396_3
       clear hi396_3 hl396_3
       replace p396 := eq_true p396
       replace q396 := eq_true q396
       go_wp2_with (first | (go_at_call 26; (with_reducible refine (spilelaw22_LotPlaces_1.calls k1 ((rd_T33 l0 x8_1).f0) ((rd_T33 l0 x8_1).f1.f0) ((rd_T33 l0 x8_1).f1.f1) _ _ ((rd_T33 l0 x8_1).f2)  B2 a2_0 a2_1 a2_2 A2_3 c2_3 l2_3 B3 A3_0 c3_0 l3_0 false _ ?side1 ?side2 ?side3 ?side4 ?side5 ?side6 ?side7 ?side8 A8.out).mono ?_); (case side1 => repeat (first | exact (Kd.C_below HR396_3.out HB.out) | (with_reducible refine Kd.C_alloc ?_ _) | (with_reducible refine Kd.C_drewN ?_ _) | (with_reducible refine Kd.C_drew ?_))); (case side2 => exact HC396_3.out); (case side3 => repeat (first | exact (Kd.C_below HR2_3.out HB.out) | (with_reducible refine Kd.C_alloc ?_ _) | (with_reducible refine Kd.C_drewN ?_ _) | (with_reducible refine Kd.C_drew ?_))); (case side4 => exact HC2_3.out); (case side5 => repeat (first | exact (Kd.C_below HR3_0.out HB.out) | (with_reducible refine Kd.C_alloc ?_ _) | (with_reducible refine Kd.C_drewN ?_ _) | (with_reducible refine Kd.C_drew ?_))); (case side6 => exact HC3_0.out); (case side7 => (with_reducible repeat (first | refine blk_drewN ?_ _ | refine blk_drew ?_ | refine blk_alloc ?_ _)); exact BK5002.out); (case side8 => (with_reducible repeat (first | refine blk_drewN ?_ _ | refine blk_drew ?_ | refine blk_alloc ?_ _)); exact BK5003.out); rintro e w11 ⟨rfl, hb⟩; have n0_ := Aside0.mk (blk_below (g := B2) (o := .cells #[.int .i64 a2_0, .int .i64 a2_1, .int .i64 a2_2, .slice A2_3 l2_3.length c2_3] 33 (0, 0)) (by (with_reducible repeat (first | refine blk_drewN ?_ _ | refine blk_drew ?_ | refine blk_alloc ?_ _)); exact BK5002.out) hb); have n1_ := Aside0.mk (blk_below (g := B3) (o := .cells #[.slice A3_0 l3_0.length c3_0] 22 (0, 0)) (by (with_reducible repeat (first | refine blk_drewN ?_ _ | refine blk_drew ?_ | refine blk_alloc ?_ _)); exact BK5003.out) hb); have n2_ := Aside0.mk (below_step (by repeat (first | (with_reducible first | exact HB.out | apply below_alloc | apply pw_below_drewN | apply below_drew1 | refine below_set ?_ GE5002.out | refine below_set ?_ GE5003.out) | exact HB.out)) hb); clear BK5002; clear BK5003; clear HB; have BK5002 := n0_; have BK5003 := n1_; have HB := n2_; clear n0_ n1_ n2_; (try clear hb); (try clear hb2); (try clear hk); (try clear hi)))
       go_roundg k1
       case measure => have := HK1.out; omega
       case rel => exact ⟨(wrap64 (x8_1 + 1)), (by first | rfl | (simp; done) | (simp [*]; done)), H', ⟨by have := HK1.out; omega⟩, ⟨by (with_reducible repeat (first | refine blk_drewN ?_ _ | refine blk_drew ?_ | refine blk_alloc ?_ _)); exact BK5002.out⟩, ⟨by (with_reducible repeat (first | refine blk_drewN ?_ _ | refine blk_drew ?_ | refine blk_alloc ?_ _)); exact BK5003.out⟩, ⟨by repeat (first | (with_reducible first | exact HB.out | apply below_alloc | apply pw_below_drewN | apply below_drew1 | refine below_set ?_ GE5002.out | refine below_set ?_ GE5003.out) | exact HB.out)⟩⟩
     ·
      rw [if_neg c7] at H
      exact absurd H (by simp)
    ·
     rw [if_neg c6] at H
     exact absurd H (by simp)
   ·
    rw [if_neg c5] at H
    have c5b0 : decide (x8_1 < (l0.length : Int)) = false := decide_eq_false c5
    clear c5
    obtain rfl := Option.some.inj H
    go_wp2
    go_ret
    exact ⟨by first | rfl | (simp [errW_none, errW_some] <;> rfl) | (simp [*, errW_none, errW_some] <;> rfl), by repeat (first | (with_reducible first | exact HB.out | apply below_alloc | apply pw_below_drewN | apply below_drew1 | refine below_set ?_ GE5002.out | refine below_set ?_ GE5003.out) | exact HB.out)⟩
def api_Lot_25_at_26.f (k : Nat) (l0 : List (S33))  (a2_0 : Int) (a2_1 : Int) (a2_2 : Int) (l2_3 : List (S35)) (l3_0 : List (S33)) : Option (Bool) := (api_Lot_48_at_26.f k l0 a2_0 a2_1 a2_2 l2_3 l3_0).bind fun t396 => (some (decide (t396 ≥ 0)))
theorem api_Lot_25_at_26.mono : ∀ a0 a1 a2 a3 a4 a5 k, LeO (api_Lot_25_at_26.f k a0 a1 a2 a3 a4 a5) (api_Lot_25_at_26.f (k + 1) a0 a1 a2 a3 a4 a5) := by
 intro a0 a1 a2 a3 a4 a5 k
 unfold api_Lot_25_at_26.f
 repeat' first
   | (with_reducible exact api_Lot_48_at_26.mono _ _ _ _ _ _ _)
   | (with_reducible exact LeO.refl _)
   | (with_reducible exact LeO.none _)
   | (with_reducible refine LeO.ite ?_ ?_)
   | (with_reducible refine LeO.bind ?_ (fun _ => ?_))
   | exact api_Lot_48_at_26.mono _ _ _ _ _ _ _
   | exact LeO.none _
   | refine LeO.ite ?_ ?_
   | refine LeO.bind ?_ (fun _ => ?_)
set_option maxHeartbeats 8000000 in
set_option maxRecDepth 100000 in
theorem api_Lot_25_at_26.calls (k : Nat) (A0 : Option Addr) (c0 : Nat) (l0 : List (S33))  (B2 : Nat) (a2_0 : Int) (a2_1 : Int) (a2_2 : Int) (A2_3 : Option Addr) (c2_3 : Nat) (l2_3 : List (S35)) (B3 : Nat) (A3_0 : Option Addr) (c3_0 : Nat) (l3_0 : List (S33)) (r : Bool) (w : World) (hr0 : Kd.C k33 w A0 l0.length l0) (hc0 : l0.length ≤ c0) (hr2_3 : Kd.C k35 w A2_3 l2_3.length l2_3) (hc2_3 : l2_3.length ≤ c2_3) (hr3_0 : Kd.C k33 w A3_0 l3_0.length l3_0) (hc3_0 : l3_0.length ≤ c3_0) (hb2 : w.heap[B2]? = some (.cells #[.int .i64 a2_0, .int .i64 a2_1, .int .i64 a2_2, .slice A2_3 l2_3.length c2_3] 33 (0, 0))) (hb3 : w.heap[B3]? = some (.cells #[.slice A3_0 l3_0.length c3_0] 22 (0, 0))) (h : api_Lot_25_at_26.f k l0 a2_0 a2_1 a2_2 l2_3 l3_0 = some r) :
  Calls Tryd.prog 25 #[.slice A0 l0.length c0, .func (.func 26) #[] #[.pointer (some ⟨B2, 0, none⟩), .pointer (some ⟨B3, 0, none⟩)]] w fun e w' => e = .returned (.bool r) ∧ Below w.heap.size w w' := by
 have HR0 := Aside0.mk hr0
 have HC0 := Aside0.mk hc0
 clear hr0 hc0
 have HR2_3 := Aside0.mk hr2_3
 have HC2_3 := Aside0.mk hc2_3
 clear hr2_3 hc2_3
 have HR3_0 := Aside0.mk hr3_0
 have HC3_0 := Aside0.mk hc3_0
 clear hr3_0 hc3_0
 have BK5002 := Aside0.mk hb2
 clear hb2
 have BK5003 := Aside0.mk hb3
 clear hb3
 have HB := Aside0.mk (Below.refl w.heap.size w)
 have H : ((api_Lot_48_at_26.f k l0 a2_0 a2_1 a2_2 l2_3 l3_0).bind fun t396 => (some (decide (t396 ≥ 0)))) = some r := h
 clear h
 replace H := Option.bind_eq_some_iff.mp H
 obtain ⟨t396, A50, H⟩ := H
 replace H : (some (decide (t396 ≥ 0))) = some r := H
 have A5 := Aside0.mk A50
 clear A50
 obtain rfl := Option.some.inj H
 go_enter Tryd.func25, Tryd.ntmps25
 go_wp2_with (first | ((with_reducible refine gate_callee (f := 48) rfl ?_); refine goesL_ (some 7) rfl rfl Tryd.func48 (by kernel_rfl) rfl #[.slice A0 l0.length c0, .func (.func 26) #[] #[.pointer (some ⟨B2, 0, none⟩), .pointer (some ⟨B3, 0, none⟩)]] rfl (by (try simp only [List.map_toArray, List.map_cons, List.map_nil]); first | done | rfl | (simp only [List.length_drop, List.length_take]; rfl)) ?_; (with_reducible refine (api_Lot_48_at_26.calls k _ _ l0  B2 a2_0 a2_1 a2_2 A2_3 c2_3 l2_3 B3 A3_0 c3_0 l3_0 t396 _ ?side1 ?side2 ?side3 ?side4 ?side5 ?side6 ?side7 ?side8 A5.out).mono ?_); (case side1 => repeat (first | exact HR0.out | (with_reducible refine Kd.C_alloc ?_ _) | (with_reducible refine Kd.C_drewN ?_ _) | (with_reducible refine Kd.C_drew ?_))); (case side2 => exact HC0.out); (case side3 => repeat (first | exact HR2_3.out | (with_reducible refine Kd.C_alloc ?_ _) | (with_reducible refine Kd.C_drewN ?_ _) | (with_reducible refine Kd.C_drew ?_))); (case side4 => exact HC2_3.out); (case side5 => repeat (first | exact HR3_0.out | (with_reducible refine Kd.C_alloc ?_ _) | (with_reducible refine Kd.C_drewN ?_ _) | (with_reducible refine Kd.C_drew ?_))); (case side6 => exact HC3_0.out); (case side7 => (with_reducible repeat (first | refine blk_drewN ?_ _ | refine blk_drew ?_ | refine blk_alloc ?_ _)); exact BK5002.out); (case side8 => (with_reducible repeat (first | refine blk_drewN ?_ _ | refine blk_drew ?_ | refine blk_alloc ?_ _)); exact BK5003.out); rintro e w6 ⟨rfl, hb⟩; refine ⟨_, rfl, ?_⟩; have n0_ := Aside0.mk (blk_below (g := B2) (o := .cells #[.int .i64 a2_0, .int .i64 a2_1, .int .i64 a2_2, .slice A2_3 l2_3.length c2_3] 33 (0, 0)) (by (with_reducible repeat (first | refine blk_drewN ?_ _ | refine blk_drew ?_ | refine blk_alloc ?_ _)); exact BK5002.out) hb); have n1_ := Aside0.mk (blk_below (g := B3) (o := .cells #[.slice A3_0 l3_0.length c3_0] 22 (0, 0)) (by (with_reducible repeat (first | refine blk_drewN ?_ _ | refine blk_drew ?_ | refine blk_alloc ?_ _)); exact BK5003.out) hb); have n2_ := Aside0.mk (below_step (by repeat (first | (with_reducible first | exact HB.out | apply below_alloc | apply pw_below_drewN | apply below_drew1 | refine below_set ?_ GE5002.out | refine below_set ?_ GE5003.out) | exact HB.out)) hb); clear BK5002; clear BK5003; clear HB; have BK5002 := n0_; have BK5003 := n1_; have HB := n2_; clear n0_ n1_ n2_; (try clear hb); (try clear hb2); (try clear hk); (try clear hi)))
 go_ret
 exact ⟨by first | rfl | (simp [errW_none, errW_some] <;> rfl) | (simp [*, errW_none, errW_some] <;> rfl), by repeat (first | (with_reducible first | exact HB.out | apply below_alloc | apply pw_below_drewN | apply below_drew1 | refine below_set ?_ GE5002.out | refine below_set ?_ GE5003.out) | exact HB.out)⟩
end Go.Proofs.YtgjoenoknknoiaaDoor.Pr
namespace Go.Proofs.YtgjoenoknknoiaaDoor.Pr
open Go.RowKit Go.Proofs.YtgjoenoknknoiaaDoorW.PrintWords Go.Proofs.YtgjoenoknknoiaaDoorW.PrintLast Go.Proofs.YtgjoenoknknoiaaDoorW.PrintMore Go.Proofs.YtgjoenoknknoiaaDoor.X
attribute [local go_sem] max2_int min2_int max_two min_two max_three min_three max_four min_four   -- for this text's walks alone
set_option linter.unusedVariables false
set_option linter.unusedSimpArgs false
attribute [local go_sem high] eqA26
mutual
def spilelaw22_LotPlaces.j0 : Nat → Bool → List (S33) → Int → Int → Int → List (S35) → Option (Bool)
 | 0, _, _, _, _, _, _ => none
 | k + 1, x28, x398000, x399000, x399001, x399002, x399003 => if x28 = true then (some true) else ((lot_Put.f k x398000 x399000 x399001 x399002 x399003).bind fun bt402 => (if bt402.2 = 0 then ((lot_Check.f k bt402.1).bind fun bt406 => (if bt406.2 = 0 then ((lot_Find.f k bt402.1 x399000).bind fun bt408 => (if (x399001 == 0 && (x399002 == 0)) = true then (spilelaw22_LotPlaces.j1 k bt402.1 bt408.2.2.2.2 ((x399003.length : Int) == 0) x398000 x399000 x399001 x399002 x399003 bt408.1 bt408.2.1 bt408.2.2.1 bt408.2.2.2.1) else (spilelaw22_LotPlaces.j1 k bt402.1 bt408.2.2.2.2 false x398000 x399000 x399001 x399002 x399003 bt408.1 bt408.2.1 bt408.2.2.1 bt408.2.2.2.1))) else (some false))) else (some ((bt402.1.length : Int) == 0))))
def spilelaw22_LotPlaces.j1 : Nat → List (S33) → Bool → Bool → List (S33) → Int → Int → Int → List (S35) → Int → Int → Int → List (S35) → Option (Bool)
 | 0, _, _, _, _, _, _, _, _, _, _, _, _ => none
 | k + 1, x5, x10, x11, x398000, x399000, x399001, x399002, x399003, x416000, x416001, x416002, x416003 => if (x10 == x11) = true then (spilelaw22_LotPlaces.j2 k x5 true x398000 x399000 x399001 x399002 x399003) else (if x10 = true then ((spileref22_SameLot.f k x399000 x399001 x399002 x399003 x416000 x416001 x416002 x416003).bind fun t416 => (spilelaw22_LotPlaces.j2 k x5 (!t416) x398000 x399000 x399001 x399002 x399003)) else (spilelaw22_LotPlaces.j2 k x5 false x398000 x399000 x399001 x399002 x399003))
def spilelaw22_LotPlaces.j2 : Nat → List (S33) → Bool → List (S33) → Int → Int → Int → List (S35) → Option (Bool)
 | 0, _, _, _, _, _, _, _ => none
 | k + 1, x5, x75, x398000, x399000, x399001, x399002, x399003 => if x75 = true then (some false) else ((lot_Put.f k x5 x399000 x399001 x399002 x399003).bind fun bt417 => (if bt417.2 = 0 then ((spileref22_Same.f k x5 bt417.1).bind fun t421 => (spilelaw22_LotPlaces.j3 k x5 (!t421) x398000 x399000 x399001 x399002 x399003)) else (spilelaw22_LotPlaces.j3 k x5 true x398000 x399000 x399001 x399002 x399003)))
def spilelaw22_LotPlaces.j3 : Nat → List (S33) → Bool → List (S33) → Int → Int → Int → List (S35) → Option (Bool)
 | 0, _, _, _, _, _, _, _ => none
 | k + 1, x5, x89, x398000, x399000, x399001, x399002, x399003 => if x89 = true then (some false) else (spilelaw22_LotPlaces.l0 k x5 x398000 (x398000.length : Int) 0 x398000 x399000 x399001 x399002 x399003)
def spilelaw22_LotPlaces.l0 : Nat → List (S33) → List (S33) → Int → Int → List (S33) → Int → Int → Int → List (S35) → Option (Bool)
 | 0, _, _, _, _, _, _, _, _, _ => none
 | k + 1, x5, x90, x91, x92, x398000, x399000, x399001, x399002, x399003 => if x92 < x91 then (if 0 ≤ x92 then (if x92 < (x90.length : Int) then ((lot_Find.f k x5 ((rd_T33 x90 x92).f0)).bind fun bt425 => (if ((rd_T33 x90 x92).f0) = x399000 then (spilelaw22_LotPlaces.l0 k x5 x90 x91 (wrap64 (x92 + 1)) x398000 x399000 x399001 x399002 x399003) else (if bt425.2.2.2.2 = true then ((spileref22_SameLot.f k ((rd_T33 x90 x92).f0) ((rd_T33 x90 x92).f1.f0) ((rd_T33 x90 x92).f1.f1) ((rd_T33 x90 x92).f2) bt425.1 bt425.2.1 bt425.2.2.1 bt425.2.2.2.1).bind fun t433 => (if t433 = true then (spilelaw22_LotPlaces.l0 k x5 x90 x91 (wrap64 (x92 + 1)) x398000 x399000 x399001 x399002 x399003) else (some false))) else (some false)))) else (none)) else (none)) else ((api_Lot_25_at_26.f k x5 x399000 x399001 x399002 x399003 x398000).bind fun t422 => (some (!t422)))
end
def spilelaw22_LotPlaces.f (k : Nat) (l0 : List (S33)) (a1_0 : Int) (a1_1 : Int) (a1_2 : Int) (l1_3 : List (S35)) : Option (Bool) := (spilelaw22_awake.f).bind fun t399 => (if t399 = true then ((spileref22_Few.f k l0).bind fun t400 => (if t400 = true then ((spileref22_FewShares.f l1_3).bind fun t401 => (spilelaw22_LotPlaces.j0 k (!t401) l0 a1_0 a1_1 a1_2 l1_3)) else (spilelaw22_LotPlaces.j0 k true l0 a1_0 a1_1 a1_2 l1_3))) else (some false))
theorem spilelaw22_LotPlaces.mono_l : ∀ k, (∀ y0 y1 y2 y3 y4 y5, LeO (spilelaw22_LotPlaces.j0 k y0 y1 y2 y3 y4 y5) (spilelaw22_LotPlaces.j0 (k + 1) y0 y1 y2 y3 y4 y5)) ∧ (∀ y0 y1 y2 y3 y4 y5 y6 y7 y8 y9 y10 y11, LeO (spilelaw22_LotPlaces.j1 k y0 y1 y2 y3 y4 y5 y6 y7 y8 y9 y10 y11) (spilelaw22_LotPlaces.j1 (k + 1) y0 y1 y2 y3 y4 y5 y6 y7 y8 y9 y10 y11)) ∧ (∀ y0 y1 y2 y3 y4 y5 y6, LeO (spilelaw22_LotPlaces.j2 k y0 y1 y2 y3 y4 y5 y6) (spilelaw22_LotPlaces.j2 (k + 1) y0 y1 y2 y3 y4 y5 y6)) ∧ (∀ y0 y1 y2 y3 y4 y5 y6, LeO (spilelaw22_LotPlaces.j3 k y0 y1 y2 y3 y4 y5 y6) (spilelaw22_LotPlaces.j3 (k + 1) y0 y1 y2 y3 y4 y5 y6)) ∧ (∀ y0 y1 y2 y3 y4 y5 y6 y7 y8, LeO (spilelaw22_LotPlaces.l0 k y0 y1 y2 y3 y4 y5 y6 y7 y8) (spilelaw22_LotPlaces.l0 (k + 1) y0 y1 y2 y3 y4 y5 y6 y7 y8))
 | 0 => ⟨fun _ _ _ _ _ _ r h => by simp [spilelaw22_LotPlaces.j0] at h, fun _ _ _ _ _ _ _ _ _ _ _ _ r h => by simp [spilelaw22_LotPlaces.j1] at h, fun _ _ _ _ _ _ _ r h => by simp [spilelaw22_LotPlaces.j2] at h, fun _ _ _ _ _ _ _ r h => by simp [spilelaw22_LotPlaces.j3] at h, fun _ _ _ _ _ _ _ _ _ r h => by simp [spilelaw22_LotPlaces.l0] at h⟩
 | k + 1 => by
  obtain ⟨ih0, ih1, ih2, ih3, ih4⟩ := spilelaw22_LotPlaces.mono_l k
  refine ⟨?_, ?_, ?_, ?_, ?_⟩
  ·
   intro y0 y1 y2 y3 y4 y5
   unfold spilelaw22_LotPlaces.j0
   repeat' first
   | (with_reducible exact ih0 _ _ _ _ _ _)
   | (with_reducible exact ih1 _ _ _ _ _ _ _ _ _ _ _ _)
   | (with_reducible exact ih2 _ _ _ _ _ _ _)
   | (with_reducible exact ih3 _ _ _ _ _ _ _)
   | (with_reducible exact ih4 _ _ _ _ _ _ _ _ _)
   | (with_reducible exact api_Lot_25_at_26.mono _ _ _ _ _ _ _)
   | (with_reducible exact lot_Check.mono _ _)
   | (with_reducible exact lot_Find.mono _ _ _)
   | (with_reducible exact lot_Put.mono _ _ _ _ _ _)
   | (with_reducible exact spileref22_Few.mono _ _)
   | (with_reducible exact spileref22_Same.mono _ _ _)
   | (with_reducible exact spileref22_SameLot.mono _ _ _ _ _ _ _ _ _)
   | (with_reducible exact LeO.refl _)
   | (with_reducible exact LeO.none _)
   | (with_reducible refine LeO.ite ?_ ?_)
   | (with_reducible refine LeO.bind ?_ (fun _ => ?_))
   | exact ih0 _ _ _ _ _ _
   | exact ih1 _ _ _ _ _ _ _ _ _ _ _ _
   | exact ih2 _ _ _ _ _ _ _
   | exact ih3 _ _ _ _ _ _ _
   | exact ih4 _ _ _ _ _ _ _ _ _
   | exact api_Lot_25_at_26.mono _ _ _ _ _ _ _
   | exact lot_Check.mono _ _
   | exact lot_Find.mono _ _ _
   | exact lot_Put.mono _ _ _ _ _ _
   | exact spileref22_Few.mono _ _
   | exact spileref22_Same.mono _ _ _
   | exact spileref22_SameLot.mono _ _ _ _ _ _ _ _ _
   | exact LeO.none _
   | refine LeO.ite ?_ ?_
   | refine LeO.bind ?_ (fun _ => ?_)
  ·
   intro y0 y1 y2 y3 y4 y5 y6 y7 y8 y9 y10 y11
   unfold spilelaw22_LotPlaces.j1
   repeat' first
   | (with_reducible exact ih0 _ _ _ _ _ _)
   | (with_reducible exact ih1 _ _ _ _ _ _ _ _ _ _ _ _)
   | (with_reducible exact ih2 _ _ _ _ _ _ _)
   | (with_reducible exact ih3 _ _ _ _ _ _ _)
   | (with_reducible exact ih4 _ _ _ _ _ _ _ _ _)
   | (with_reducible exact api_Lot_25_at_26.mono _ _ _ _ _ _ _)
   | (with_reducible exact lot_Check.mono _ _)
   | (with_reducible exact lot_Find.mono _ _ _)
   | (with_reducible exact lot_Put.mono _ _ _ _ _ _)
   | (with_reducible exact spileref22_Few.mono _ _)
   | (with_reducible exact spileref22_Same.mono _ _ _)
   | (with_reducible exact spileref22_SameLot.mono _ _ _ _ _ _ _ _ _)
   | (with_reducible exact LeO.refl _)
   | (with_reducible exact LeO.none _)
   | (with_reducible refine LeO.ite ?_ ?_)
   | (with_reducible refine LeO.bind ?_ (fun _ => ?_))
   | exact ih0 _ _ _ _ _ _
   | exact ih1 _ _ _ _ _ _ _ _ _ _ _ _
   | exact ih2 _ _ _ _ _ _ _
   | exact ih3 _ _ _ _ _ _ _
   | exact ih4 _ _ _ _ _ _ _ _ _
   | exact api_Lot_25_at_26.mono _ _ _ _ _ _ _
   | exact lot_Check.mono _ _
   | exact lot_Find.mono _ _ _
   | exact lot_Put.mono _ _ _ _ _ _
   | exact spileref22_Few.mono _ _
   | exact spileref22_Same.mono _ _ _
   | exact spileref22_SameLot.mono _ _ _ _ _ _ _ _ _
   | exact LeO.none _
   | refine LeO.ite ?_ ?_
   | refine LeO.bind ?_ (fun _ => ?_)
  ·
   intro y0 y1 y2 y3 y4 y5 y6
   unfold spilelaw22_LotPlaces.j2
   repeat' first
   | (with_reducible exact ih0 _ _ _ _ _ _)
   | (with_reducible exact ih1 _ _ _ _ _ _ _ _ _ _ _ _)
   | (with_reducible exact ih2 _ _ _ _ _ _ _)
   | (with_reducible exact ih3 _ _ _ _ _ _ _)
   | (with_reducible exact ih4 _ _ _ _ _ _ _ _ _)
   | (with_reducible exact api_Lot_25_at_26.mono _ _ _ _ _ _ _)
   | (with_reducible exact lot_Check.mono _ _)
   | (with_reducible exact lot_Find.mono _ _ _)
   | (with_reducible exact lot_Put.mono _ _ _ _ _ _)
   | (with_reducible exact spileref22_Few.mono _ _)
   | (with_reducible exact spileref22_Same.mono _ _ _)
   | (with_reducible exact spileref22_SameLot.mono _ _ _ _ _ _ _ _ _)
   | (with_reducible exact LeO.refl _)
   | (with_reducible exact LeO.none _)
   | (with_reducible refine LeO.ite ?_ ?_)
   | (with_reducible refine LeO.bind ?_ (fun _ => ?_))
   | exact ih0 _ _ _ _ _ _
   | exact ih1 _ _ _ _ _ _ _ _ _ _ _ _
   | exact ih2 _ _ _ _ _ _ _
   | exact ih3 _ _ _ _ _ _ _
   | exact ih4 _ _ _ _ _ _ _ _ _
   | exact api_Lot_25_at_26.mono _ _ _ _ _ _ _
   | exact lot_Check.mono _ _
   | exact lot_Find.mono _ _ _
   | exact lot_Put.mono _ _ _ _ _ _
   | exact spileref22_Few.mono _ _
   | exact spileref22_Same.mono _ _ _
   | exact spileref22_SameLot.mono _ _ _ _ _ _ _ _ _
   | exact LeO.none _
   | refine LeO.ite ?_ ?_
   | refine LeO.bind ?_ (fun _ => ?_)
  ·
   intro y0 y1 y2 y3 y4 y5 y6
   unfold spilelaw22_LotPlaces.j3
   repeat' first
   | (with_reducible exact ih0 _ _ _ _ _ _)
   | (with_reducible exact ih1 _ _ _ _ _ _ _ _ _ _ _ _)
   | (with_reducible exact ih2 _ _ _ _ _ _ _)
   | (with_reducible exact ih3 _ _ _ _ _ _ _)
   | (with_reducible exact ih4 _ _ _ _ _ _ _ _ _)
   | (with_reducible exact api_Lot_25_at_26.mono _ _ _ _ _ _ _)
   | (with_reducible exact lot_Check.mono _ _)
   | (with_reducible exact lot_Find.mono _ _ _)
   | (with_reducible exact lot_Put.mono _ _ _ _ _ _)
   | (with_reducible exact spileref22_Few.mono _ _)
   | (with_reducible exact spileref22_Same.mono _ _ _)
   | (with_reducible exact spileref22_SameLot.mono _ _ _ _ _ _ _ _ _)
   | (with_reducible exact LeO.refl _)
   | (with_reducible exact LeO.none _)
   | (with_reducible refine LeO.ite ?_ ?_)
   | (with_reducible refine LeO.bind ?_ (fun _ => ?_))
   | exact ih0 _ _ _ _ _ _
   | exact ih1 _ _ _ _ _ _ _ _ _ _ _ _
   | exact ih2 _ _ _ _ _ _ _
   | exact ih3 _ _ _ _ _ _ _
   | exact ih4 _ _ _ _ _ _ _ _ _
   | exact api_Lot_25_at_26.mono _ _ _ _ _ _ _
   | exact lot_Check.mono _ _
   | exact lot_Find.mono _ _ _
   | exact lot_Put.mono _ _ _ _ _ _
   | exact spileref22_Few.mono _ _
   | exact spileref22_Same.mono _ _ _
   | exact spileref22_SameLot.mono _ _ _ _ _ _ _ _ _
   | exact LeO.none _
   | refine LeO.ite ?_ ?_
   | refine LeO.bind ?_ (fun _ => ?_)
  ·
   intro y0 y1 y2 y3 y4 y5 y6 y7 y8
   unfold spilelaw22_LotPlaces.l0
   repeat' first
   | (with_reducible exact ih0 _ _ _ _ _ _)
   | (with_reducible exact ih1 _ _ _ _ _ _ _ _ _ _ _ _)
   | (with_reducible exact ih2 _ _ _ _ _ _ _)
   | (with_reducible exact ih3 _ _ _ _ _ _ _)
   | (with_reducible exact ih4 _ _ _ _ _ _ _ _ _)
   | (with_reducible exact api_Lot_25_at_26.mono _ _ _ _ _ _ _)
   | (with_reducible exact lot_Check.mono _ _)
   | (with_reducible exact lot_Find.mono _ _ _)
   | (with_reducible exact lot_Put.mono _ _ _ _ _ _)
   | (with_reducible exact spileref22_Few.mono _ _)
   | (with_reducible exact spileref22_Same.mono _ _ _)
   | (with_reducible exact spileref22_SameLot.mono _ _ _ _ _ _ _ _ _)
   | (with_reducible exact LeO.refl _)
   | (with_reducible exact LeO.none _)
   | (with_reducible refine LeO.ite ?_ ?_)
   | (with_reducible refine LeO.bind ?_ (fun _ => ?_))
   | exact ih0 _ _ _ _ _ _
   | exact ih1 _ _ _ _ _ _ _ _ _ _ _ _
   | exact ih2 _ _ _ _ _ _ _
   | exact ih3 _ _ _ _ _ _ _
   | exact ih4 _ _ _ _ _ _ _ _ _
   | exact api_Lot_25_at_26.mono _ _ _ _ _ _ _
   | exact lot_Check.mono _ _
   | exact lot_Find.mono _ _ _
   | exact lot_Put.mono _ _ _ _ _ _
   | exact spileref22_Few.mono _ _
   | exact spileref22_Same.mono _ _ _
   | exact spileref22_SameLot.mono _ _ _ _ _ _ _ _ _
   | exact LeO.none _
   | refine LeO.ite ?_ ?_
   | refine LeO.bind ?_ (fun _ => ?_)
theorem spilelaw22_LotPlaces.mono : ∀ a0 a1 a2 a3 a4 k, LeO (spilelaw22_LotPlaces.f k a0 a1 a2 a3 a4) (spilelaw22_LotPlaces.f (k + 1) a0 a1 a2 a3 a4) := by
 intro a0 a1 a2 a3 a4 k
 obtain ⟨ih0, ih1, ih2, ih3, ih4⟩ := spilelaw22_LotPlaces.mono_l k
 unfold spilelaw22_LotPlaces.f
 repeat' first
   | (with_reducible exact ih0 _ _ _ _ _ _)
   | (with_reducible exact ih1 _ _ _ _ _ _ _ _ _ _ _ _)
   | (with_reducible exact ih2 _ _ _ _ _ _ _)
   | (with_reducible exact ih3 _ _ _ _ _ _ _)
   | (with_reducible exact ih4 _ _ _ _ _ _ _ _ _)
   | (with_reducible exact api_Lot_25_at_26.mono _ _ _ _ _ _ _)
   | (with_reducible exact lot_Check.mono _ _)
   | (with_reducible exact lot_Find.mono _ _ _)
   | (with_reducible exact lot_Put.mono _ _ _ _ _ _)
   | (with_reducible exact spileref22_Few.mono _ _)
   | (with_reducible exact spileref22_Same.mono _ _ _)
   | (with_reducible exact spileref22_SameLot.mono _ _ _ _ _ _ _ _ _)
   | (with_reducible exact LeO.refl _)
   | (with_reducible exact LeO.none _)
   | (with_reducible refine LeO.ite ?_ ?_)
   | (with_reducible refine LeO.bind ?_ (fun _ => ?_))
   | exact ih0 _ _ _ _ _ _
   | exact ih1 _ _ _ _ _ _ _ _ _ _ _ _
   | exact ih2 _ _ _ _ _ _ _
   | exact ih3 _ _ _ _ _ _ _
   | exact ih4 _ _ _ _ _ _ _ _ _
   | exact api_Lot_25_at_26.mono _ _ _ _ _ _ _
   | exact lot_Check.mono _ _
   | exact lot_Find.mono _ _ _
   | exact lot_Put.mono _ _ _ _ _ _
   | exact spileref22_Few.mono _ _
   | exact spileref22_Same.mono _ _ _
   | exact spileref22_SameLot.mono _ _ _ _ _ _ _ _ _
   | exact LeO.none _
   | refine LeO.ite ?_ ?_
   | refine LeO.bind ?_ (fun _ => ?_)
set_option maxHeartbeats 8000000 in
set_option maxRecDepth 100000 in
theorem spilelaw22_LotPlaces.calls (k : Nat) (A0 : Option Addr) (c0 : Nat) (l0 : List (S33)) (a1_0 : Int) (a1_1 : Int) (a1_2 : Int) (A1_3 : Option Addr) (c1_3 : Nat) (l1_3 : List (S35)) (r : Bool) (w : World) (hr0 : Kd.C k33 w A0 l0.length l0) (hc0 : l0.length ≤ c0) (hr1_3 : Kd.C k35 w A1_3 l1_3.length l1_3) (hc1_3 : l1_3.length ≤ c1_3) (hG : GI w) (hr_ : r = true) (h : spilelaw22_LotPlaces.f k l0 a1_0 a1_1 a1_2 l1_3 = some r) :
  Calls Tryd.prog 6 #[.slice A0 l0.length c0, .agg #[.int .i64 a1_0, .int .i64 a1_1, .int .i64 a1_2, .slice A1_3 l1_3.length c1_3]] w fun e w' => e = .returned (.bool r) ∧ Below w.heap.size w w' := by
 have hu22 := Tryd.underlying22
 have hu33 := Tryd.underlying33
 have hu26 := Tryd.underlying26
 have HR0 := Aside0.mk hr0
 have HC0 := Aside0.mk hc0
 clear hr0 hc0
 have HR1_3 := Aside0.mk hr1_3
 have HC1_3 := Aside0.mk hc1_3
 clear hr1_3 hc1_3
 have HG := Aside0.mk hG
 clear hG
 have HB := Aside0.mk (Below.refl w.heap.size w)
 have H : ((spilelaw22_awake.f).bind fun t399 => (if t399 = true then ((spileref22_Few.f k l0).bind fun t400 => (if t400 = true then ((spileref22_FewShares.f l1_3).bind fun t401 => (spilelaw22_LotPlaces.j0 k (!t401) l0 a1_0 a1_1 a1_2 l1_3)) else (spilelaw22_LotPlaces.j0 k true l0 a1_0 a1_1 a1_2 l1_3))) else (some false))) = some r := h
 clear h
 replace H := Option.bind_eq_some_iff.mp H
 obtain ⟨t399, A30, H⟩ := H
 replace H : (if t399 = true then ((spileref22_Few.f k l0).bind fun t400 => (if t400 = true then ((spileref22_FewShares.f l1_3).bind fun t401 => (spilelaw22_LotPlaces.j0 k (!t401) l0 a1_0 a1_1 a1_2 l1_3)) else (spilelaw22_LotPlaces.j0 k true l0 a1_0 a1_1 a1_2 l1_3))) else (some false)) = some r := H
 have A3 := Aside0.mk A30
 clear A30
 by_cases c4 : t399 = true
 ·
  subst c4
  replace H : ((spileref22_Few.f k l0).bind fun t400 => (if t400 = true then ((spileref22_FewShares.f l1_3).bind fun t401 => (spilelaw22_LotPlaces.j0 k (!t401) l0 a1_0 a1_1 a1_2 l1_3)) else (spilelaw22_LotPlaces.j0 k true l0 a1_0 a1_1 a1_2 l1_3))) = some r := by rw [if_pos rfl] at H; exact H
  have HC5 := Aside0.mk H
  clear H
  go_enter Tryd.func6, Tryd.ntmps6
  go_upto_region 3 with (first | ((with_reducible refine gate_dst (N := 2) rfl ?_); (try (refine gate_guard (by rfl) ?_; dsimp only)); refine box_event ?hg (N := 2) ?hd (cs := #[.slice A0 l0.length c0]) (t := 22) ?hr ?_; (case hd => rfl); (case hg => rfl); (case hr => first | (go_simp; done) | (go_simp; rfl)); intro gb397 hg w6 hbox hb; have n0_ := Aside0.mk (below_step (by repeat (with_reducible first | exact HB.out | apply below_alloc | apply pw_below_drewN | apply below_drew1)) hb); have n1_ := Aside0.mk (hbox); have n2_ := Aside0.mk ((by rw [hg]; exact (below_size (by repeat (with_reducible first | exact HB.out | apply below_alloc | apply pw_below_drewN | apply below_drew1))) : w.heap.size ≤ gb397)); have n3_ := Aside0.mk ((by rw [hg]; exact (below_size (by repeat (with_reducible first | exact HB.out | apply below_alloc | apply pw_below_drewN | apply below_drew1))) : w.heap.size ≤ gb397)); clear HB; have HB := n0_; have BK397 := n1_; have GW397 := n2_; have GE397 := n3_; clear n0_ n1_ n2_ n3_; clear hb hbox hg) | ((with_reducible refine gate_dst (N := 3) rfl ?_); (try (refine gate_guard (by rfl) ?_; dsimp only)); refine box_event ?hg (N := 3) ?hd (cs := #[.int .i64 a1_0, .int .i64 a1_1, .int .i64 a1_2, .slice A1_3 l1_3.length c1_3]) (t := 33) ?hr ?_; (case hd => rfl); (case hg => rfl); (case hr => first | (go_simp; done) | (go_simp; rfl)); intro gb398 hg w7 hbox hb; have n0_ := Aside0.mk (blk_below (g := gb397) (o := .cells #[.slice A0 l0.length c0] 22 (0, 0)) (by (with_reducible repeat (first | refine blk_drewN ?_ _ | refine blk_drew ?_ | refine blk_alloc ?_ _)); exact BK397.out) hb); have n1_ := Aside0.mk (below_step (by repeat (with_reducible first | exact HB.out | apply below_alloc | apply pw_below_drewN | apply below_drew1 | refine below_set ?_ GE397.out)) hb); have n2_ := Aside0.mk (hbox); have n3_ := Aside0.mk ((by rw [hg]; exact (below_size (by repeat (with_reducible first | exact HB.out | apply below_alloc | apply pw_below_drewN | apply below_drew1 | refine below_set ?_ GE397.out))) : w.heap.size ≤ gb398)); have n4_ := Aside0.mk ((by rw [hg]; exact (below_size (by repeat (with_reducible first | exact HB.out | apply below_alloc | apply pw_below_drewN | apply below_drew1 | refine below_set ?_ GE397.out))) : w.heap.size ≤ gb398)); have n5_ := Aside0.mk ((by rw [hg]; exact Nat.ne_of_lt (blk_lt (g := gb397) (o := .cells #[.slice A0 l0.length c0] 22 (0, 0)) (by (with_reducible repeat (first | refine blk_drewN ?_ _ | refine blk_drew ?_ | refine blk_alloc ?_ _)); exact BK397.out)) : gb397 ≠ gb398)); have n6_ := Aside0.mk ((by rw [hg]; exact Nat.ne_of_gt (blk_lt (g := gb397) (o := .cells #[.slice A0 l0.length c0] 22 (0, 0)) (by (with_reducible repeat (first | refine blk_drewN ?_ _ | refine blk_drew ?_ | refine blk_alloc ?_ _)); exact BK397.out)) : gb398 ≠ gb397)); clear BK397; clear HB; have BK397 := n0_; have HB := n1_; have BK398 := n2_; have GW398 := n3_; have GE398 := n4_; have NB397_398 := n5_; have NB398_397 := n6_; clear n0_ n1_ n2_ n3_ n4_ n5_ n6_; clear hb hbox hg) | ((with_reducible refine gate_callee (f := 10) rfl ?_); refine goesL_ (some 18) rfl rfl Tryd.func10 (by kernel_rfl) rfl #[] rfl (by (try simp only [List.map_toArray, List.map_cons, List.map_nil]); first | done | rfl | (simp only [List.length_drop, List.length_take]; rfl)) ?_; (with_reducible refine (spilelaw22_awake.calls  true _ ?side1 A3.out).mono ?_); (case side1 => exact GI.below HG.out (by repeat (with_reducible first | exact HB.out | apply below_alloc | apply pw_below_drewN | apply below_drew1 | refine below_set ?_ GE397.out | refine below_set ?_ GE398.out))); rintro e w8 ⟨rfl, hb⟩; refine ⟨_, rfl, ?_⟩; have n0_ := Aside0.mk (blk_below (g := gb397) (o := .cells #[.slice A0 l0.length c0] 22 (0, 0)) (by (with_reducible repeat (first | refine blk_drewN ?_ _ | refine blk_drew ?_ | refine blk_alloc ?_ _)); exact BK397.out) hb); have n1_ := Aside0.mk (blk_below (g := gb398) (o := .cells #[.int .i64 a1_0, .int .i64 a1_1, .int .i64 a1_2, .slice A1_3 l1_3.length c1_3] 33 (0, 0)) (by (with_reducible repeat (first | refine blk_drewN ?_ _ | refine blk_drew ?_ | refine blk_alloc ?_ _)); exact BK398.out) hb); have n2_ := Aside0.mk (below_step (by repeat (with_reducible first | exact HB.out | apply below_alloc | apply pw_below_drewN | apply below_drew1 | refine below_set ?_ GE397.out | refine below_set ?_ GE398.out)) hb); clear BK397; clear BK398; clear HB; have BK397 := n0_; have BK398 := n1_; have HB := n2_; clear n0_ n1_ n2_; (try clear hb); (try clear hb2); (try clear hk); (try clear hi)))
  (try simp only [Act.put, List.setIfInBounds_toArray, List.set_cons_zero, List.set_cons_succ])
  go_cut [28] (fun v28 wc => ∃ (kq : Nat) (x28_4 : Bool), v28 = .bool x28_4 ∧ Aside0 (spilelaw22_LotPlaces.j0 kq x28_4 l0 a1_0 a1_1 a1_2 l1_3 = some r) ∧ Aside0 (kq ≤ k) ∧ Aside0 (wc.heap[gb397]? = some (.cells #[(.slice A0 l0.length c0)] 22 (0, 0))) ∧ Aside0 (wc.heap[gb398]? = some (.cells #[.int .i64 a1_0, .int .i64 a1_1, .int .i64 a1_2, (.slice A1_3 l1_3.length c1_3)] 33 (0, 0))) ∧ Aside0 (Below w.heap.size w wc))
  case first =>
   have H := HC5.out
   clear HC5
   replace H := Option.bind_eq_some_iff.mp H
   obtain ⟨t400, A90, H⟩ := H
   replace H : (if t400 = true then ((spileref22_FewShares.f l1_3).bind fun t401 => (spilelaw22_LotPlaces.j0 k (!t401) l0 a1_0 a1_1 a1_2 l1_3)) else (spilelaw22_LotPlaces.j0 k true l0 a1_0 a1_1 a1_2 l1_3)) = some r := H
   have A9 := Aside0.mk A90
   clear A90
   by_cases c10 : t400 = true
   ·
    subst c10
    replace H : ((spileref22_FewShares.f l1_3).bind fun t401 => (spilelaw22_LotPlaces.j0 k (!t401) l0 a1_0 a1_1 a1_2 l1_3)) = some r := by rw [if_pos rfl] at H; exact H
    replace H := Option.bind_eq_some_iff.mp H
    obtain ⟨t401, A110, H⟩ := H
    replace H : (spilelaw22_LotPlaces.j0 k (!t401) l0 a1_0 a1_1 a1_2 l1_3) = some r := H
    have A11 := Aside0.mk A110
    clear A110
    have H' := Aside0.mk H
    clear H
    have hnb12 := NB397_398.out
    have hnc12 := NB398_397.out
    have hcz13_0 : w8.cell? ⟨gb397, 0, none⟩ = some (.slice A0 l0.length c0) := (blk_cell BK397.out 0).trans rfl
    have hfz13_0 := blk_frozen BK397.out 0
    go_wp2_with (first | ((with_reducible refine gate_callee (f := 11) rfl ?_); refine goesL_ (some 21) rfl rfl Tryd.func11 (by kernel_rfl) rfl #[.slice A0 l0.length c0] rfl (by (try simp only [List.map_toArray, List.map_cons, List.map_nil]); first | done | rfl | (simp only [List.length_drop, List.length_take]; rfl)) ?_; (with_reducible refine (spileref22_Few.calls k _ _ l0 true _ ?side1 ?side2 A9.out).mono ?_); (case side1 => repeat (first | exact (Kd.C_below HR0.out HB.out) | (with_reducible refine Kd.C_alloc ?_ _) | (with_reducible refine Kd.C_drewN ?_ _) | (with_reducible refine Kd.C_drew ?_))); (case side2 => exact HC0.out); rintro e w' ⟨rfl, ⟨nd, rfl⟩⟩; refine ⟨_, rfl, ?_⟩; have hcz14_0 : w8.cell? ⟨gb398, 0, none⟩ = some (.int .i64 a1_0) := (blk_cell BK398.out 0).trans rfl; have hcz14_1 : w8.cell? ⟨gb398, 1, none⟩ = some (.int .i64 a1_1) := (blk_cell BK398.out 1).trans rfl; have hcz14_2 : w8.cell? ⟨gb398, 2, none⟩ = some (.int .i64 a1_2) := (blk_cell BK398.out 2).trans rfl; have hcz14_3 : w8.cell? ⟨gb398, 3, none⟩ = some (.slice A1_3 l1_3.length c1_3) := (blk_cell BK398.out 3).trans rfl; have hfz14_0 := blk_frozen BK398.out 0; have hfz14_1 := blk_frozen BK398.out 1; have hfz14_2 := blk_frozen BK398.out 2; have hfz14_3 := blk_frozen BK398.out 3) | (go_at_call 21; (with_reducible refine (spileref22_FewShares.calls _ _ l1_3 t401 _ ?side1 ?side2 A11.out).mono ?_); (case side1 => repeat (first | exact (Kd.C_below HR1_3.out (by repeat (with_reducible first | exact HB.out | apply below_alloc | apply pw_below_drewN | apply below_drew1 | refine below_set ?_ GE397.out | refine below_set ?_ GE398.out))) | (with_reducible refine Kd.C_alloc ?_ _) | (with_reducible refine Kd.C_drewN ?_ _) | (with_reducible refine Kd.C_drew ?_))); (case side2 => exact HC1_3.out); rintro e w' ⟨rfl, ⟨nd, rfl⟩⟩))
    go_meet
    case rel => exact ⟨_, (!t401), (by first | rfl | (simp; done) | (simp [*]; done)), H', ⟨by first | omega | exact Nat.le_refl _⟩, ⟨by (with_reducible repeat (first | refine blk_drewN ?_ _ | refine blk_drew ?_ | refine blk_alloc ?_ _)); exact BK397.out⟩, ⟨by (with_reducible repeat (first | refine blk_drewN ?_ _ | refine blk_drew ?_ | refine blk_alloc ?_ _)); exact BK398.out⟩, ⟨by repeat (first | (with_reducible first | exact HB.out | apply below_alloc | apply pw_below_drewN | apply below_drew1 | refine below_set ?_ GE397.out | refine below_set ?_ GE398.out) | exact HB.out)⟩⟩
   ·
    replace c10 := Bool.eq_false_iff.mpr c10
    subst c10
    replace H : (spilelaw22_LotPlaces.j0 k true l0 a1_0 a1_1 a1_2 l1_3) = some r := by rw [if_neg (show ¬ (false = true) by decide)] at H; exact H
    have H' := Aside0.mk H
    clear H
    have hnb15 := NB397_398.out
    have hnc15 := NB398_397.out
    have hcz16_0 : w8.cell? ⟨gb397, 0, none⟩ = some (.slice A0 l0.length c0) := (blk_cell BK397.out 0).trans rfl
    have hfz16_0 := blk_frozen BK397.out 0
    go_wp2_with (first | ((with_reducible refine gate_callee (f := 11) rfl ?_); refine goesL_ (some 21) rfl rfl Tryd.func11 (by kernel_rfl) rfl #[.slice A0 l0.length c0] rfl (by (try simp only [List.map_toArray, List.map_cons, List.map_nil]); first | done | rfl | (simp only [List.length_drop, List.length_take]; rfl)) ?_; (with_reducible refine (spileref22_Few.calls k _ _ l0 false _ ?side1 ?side2 A9.out).mono ?_); (case side1 => repeat (first | exact (Kd.C_below HR0.out HB.out) | (with_reducible refine Kd.C_alloc ?_ _) | (with_reducible refine Kd.C_drewN ?_ _) | (with_reducible refine Kd.C_drew ?_))); (case side2 => exact HC0.out); rintro e w' ⟨rfl, ⟨nd, rfl⟩⟩; refine ⟨_, rfl, ?_⟩))
    go_meet
    case rel => exact ⟨_, (true), (by first | rfl | (simp; done) | (simp [*]; done)), H', ⟨by first | omega | exact Nat.le_refl _⟩, ⟨by (with_reducible repeat (first | refine blk_drewN ?_ _ | refine blk_drew ?_ | refine blk_alloc ?_ _)); exact BK397.out⟩, ⟨by (with_reducible repeat (first | refine blk_drewN ?_ _ | refine blk_drew ?_ | refine blk_alloc ?_ _)); exact BK398.out⟩, ⟨by repeat (first | (with_reducible first | exact HB.out | apply below_alloc | apply pw_below_drewN | apply below_drew1 | refine below_set ?_ GE397.out | refine below_set ?_ GE398.out) | exact HB.out)⟩⟩
  case rest =>
   clear HC5
   repeat first | clear c1 | clear p2 | clear c4 | clear c6 | clear c10 | clear c11 | clear c12 | clear c15 | clear hcz13_0 | clear hcz14_0 | clear hcz14_1 | clear hcz14_2 | clear hcz14_3 | clear hcz16_0 | clear hfz13_0 | clear hfz14_0 | clear hfz14_1 | clear hfz14_2 | clear hfz14_3 | clear hfz16_0
   obtain ⟨kq, x28_4, rfl, HA, HJ4, BK397, BK398, HB⟩ := hcut
   cases kq with
   | zero => exact absurd HA.out (by simp [spilelaw22_LotPlaces.j0])
   | succ kj4 =>
    have H := HA.out
    clear HA
    simp only [spilelaw22_LotPlaces.j0] at H
    by_cases c17 : x28_4 = true
    ·
     subst c17
     replace H : (some true) = some r := by rw [if_pos rfl] at H; exact H
     obtain rfl := Option.some.inj H
     go_wp2
     go_ret
     exact ⟨by first | rfl | (simp [errW_none, errW_some] <;> rfl) | (simp [*, errW_none, errW_some] <;> rfl), by repeat (first | (with_reducible first | exact HB.out | apply below_alloc | apply pw_below_drewN | apply below_drew1 | refine below_set ?_ GE397.out | refine below_set ?_ GE398.out) | exact HB.out)⟩
    ·
     replace c17 := Bool.eq_false_iff.mpr c17
     subst c17
     replace H : ((lot_Put.f kj4 l0 a1_0 a1_1 a1_2 l1_3).bind fun bt402 => (if bt402.2 = 0 then ((lot_Check.f kj4 bt402.1).bind fun bt406 => (if bt406.2 = 0 then ((lot_Find.f kj4 bt402.1 a1_0).bind fun bt408 => (if (a1_1 == 0 && (a1_2 == 0)) = true then (spilelaw22_LotPlaces.j1 kj4 bt402.1 bt408.2.2.2.2 ((l1_3.length : Int) == 0) l0 a1_0 a1_1 a1_2 l1_3 bt408.1 bt408.2.1 bt408.2.2.1 bt408.2.2.2.1) else (spilelaw22_LotPlaces.j1 kj4 bt402.1 bt408.2.2.2.2 false l0 a1_0 a1_1 a1_2 l1_3 bt408.1 bt408.2.1 bt408.2.2.1 bt408.2.2.2.1))) else (some false))) else (some ((bt402.1.length : Int) == 0)))) = some r := by rw [if_neg (show ¬ (false = true) by decide)] at H; exact H
     replace H := Option.bind_eq_some_iff.mp H
     obtain ⟨⟨t402, t405⟩, A180, H⟩ := H
     replace H : (if t405 = 0 then ((lot_Check.f kj4 t402).bind fun bt406 => (if bt406.2 = 0 then ((lot_Find.f kj4 t402 a1_0).bind fun bt408 => (if (a1_1 == 0 && (a1_2 == 0)) = true then (spilelaw22_LotPlaces.j1 kj4 t402 bt408.2.2.2.2 ((l1_3.length : Int) == 0) l0 a1_0 a1_1 a1_2 l1_3 bt408.1 bt408.2.1 bt408.2.2.1 bt408.2.2.2.1) else (spilelaw22_LotPlaces.j1 kj4 t402 bt408.2.2.2.2 false l0 a1_0 a1_1 a1_2 l1_3 bt408.1 bt408.2.1 bt408.2.2.1 bt408.2.2.2.1))) else (some false))) else (some ((t402.length : Int) == 0))) = some r := H
     have A18 := Aside0.mk A180
     clear A180
     by_cases c19 : t405 = 0
     ·
      rw [if_pos c19] at H
      have c19b0 : (t405 == 0) = true := beq_iff_eq.mpr c19
      have c19b1 : (t405 != 0) = false := bne_eq_false_iff_eq.mpr c19
      clear c19
      replace H := Option.bind_eq_some_iff.mp H
      obtain ⟨⟨t406, t407⟩, A200, H⟩ := H
      replace H : (if t407 = 0 then ((lot_Find.f kj4 t402 a1_0).bind fun bt408 => (if (a1_1 == 0 && (a1_2 == 0)) = true then (spilelaw22_LotPlaces.j1 kj4 t402 bt408.2.2.2.2 ((l1_3.length : Int) == 0) l0 a1_0 a1_1 a1_2 l1_3 bt408.1 bt408.2.1 bt408.2.2.1 bt408.2.2.2.1) else (spilelaw22_LotPlaces.j1 kj4 t402 bt408.2.2.2.2 false l0 a1_0 a1_1 a1_2 l1_3 bt408.1 bt408.2.1 bt408.2.2.1 bt408.2.2.2.1))) else (some false)) = some r := H
      have A20 := Aside0.mk A200
      clear A200
      by_cases c21 : t407 = 0
      ·
       rw [if_pos c21] at H
       have c21b0 : (t407 == 0) = true := beq_iff_eq.mpr c21
       have c21b1 : (t407 != 0) = false := bne_eq_false_iff_eq.mpr c21
       clear c21
       replace H := Option.bind_eq_some_iff.mp H
       obtain ⟨⟨t408, t409, t410, t411, t414⟩, A220, H⟩ := H
       replace H : (if (a1_1 == 0 && (a1_2 == 0)) = true then (spilelaw22_LotPlaces.j1 kj4 t402 t414 ((l1_3.length : Int) == 0) l0 a1_0 a1_1 a1_2 l1_3 t408 t409 t410 t411) else (spilelaw22_LotPlaces.j1 kj4 t402 t414 false l0 a1_0 a1_1 a1_2 l1_3 t408 t409 t410 t411)) = some r := H
       have A22 := Aside0.mk A220
       clear A220
       have HC23 := Aside0.mk H
       clear H
       have hnb24 := NB397_398.out
       have hnc24 := NB398_397.out
       have hcz25_0 : wc.cell? ⟨gb397, 0, none⟩ = some (.slice A0 l0.length c0) := (blk_cell BK397.out 0).trans rfl
       have hfz25_0 := blk_frozen BK397.out 0
       have hcz26_0 : wc.cell? ⟨gb398, 0, none⟩ = some (.int .i64 a1_0) := (blk_cell BK398.out 0).trans rfl
       have hcz26_1 : wc.cell? ⟨gb398, 1, none⟩ = some (.int .i64 a1_1) := (blk_cell BK398.out 1).trans rfl
       have hcz26_2 : wc.cell? ⟨gb398, 2, none⟩ = some (.int .i64 a1_2) := (blk_cell BK398.out 2).trans rfl
       have hcz26_3 : wc.cell? ⟨gb398, 3, none⟩ = some (.slice A1_3 l1_3.length c1_3) := (blk_cell BK398.out 3).trans rfl
       have hfz26_0 := blk_frozen BK398.out 0
       have hfz26_1 := blk_frozen BK398.out 1
       have hfz26_2 := blk_frozen BK398.out 2
       have hfz26_3 := blk_frozen BK398.out 3
       go_upto_region 12 with (first | ((with_reducible refine gate_callee (f := 22) rfl ?_); refine goesL_ (some 32) rfl rfl Tryd.func22 (by kernel_rfl) rfl #[.slice A0 l0.length c0, .agg #[.int .i64 a1_0, .int .i64 a1_1, .int .i64 a1_2, .slice A1_3 l1_3.length c1_3]] rfl (by (try simp only [List.map_toArray, List.map_cons, List.map_nil]); first | done | rfl | (simp only [List.length_drop, List.length_take]; rfl)) ?_; (with_reducible refine (lot_Put.calls kj4 (fun k_ => k_ < w.heap.size) _ _ l0 a1_0 a1_1 a1_2 (fun k_ => k_ < w.heap.size) _ _ l1_3 t402 t405 _ ?side1 ?side2 A18.out).mono ?_); (case side1 => exact Kd.V_mk HC0.out (Kd.F_below (Kd.C_F k33_heap HR0.out) (by repeat (with_reducible first | exact HB.out | apply below_alloc | apply pw_below_drewN | apply below_drew1 | refine below_set ?_ GE397.out | refine below_set ?_ GE398.out)))); (case side2 => exact Kd.V_mk HC1_3.out (Kd.F_below (Kd.C_F k35_heap HR1_3.out) (by repeat (with_reducible first | exact HB.out | apply below_alloc | apply pw_below_drewN | apply below_drew1 | refine below_set ?_ GE397.out | refine below_set ?_ GE398.out)))); rintro e w27 ⟨v403, rfl, ho0, hb⟩; refine ⟨_, rfl, ?_⟩; have n0_ := Aside0.mk (Kd.N_lower (Kd.N_mono (ok' := fun k_ => k_ ≠ gb397 ∧ k_ ≠ gb398) ho0 (fun k_ hk_ => ⟨Or.elim hk_ (fun hs_ => Or.elim hs_ (fun hs_ => fun e_ => Nat.not_le.2 hs_ (by rw [e_]; exact GW397.out)) (fun hs_ => fun e_ => Nat.not_le.2 hs_ (by rw [e_]; exact GW397.out))) (fun hn_ => (Kd.freshB (g := gb397) (o := .cells #[.slice A0 l0.length c0] 22 (0, 0)) (by (with_reducible repeat (first | refine blk_drewN ?_ _ | refine blk_drew ?_ | refine blk_alloc ?_ _)); exact BK397.out) k_ hn_)), Or.elim hk_ (fun hs_ => Or.elim hs_ (fun hs_ => fun e_ => Nat.not_le.2 hs_ (by rw [e_]; exact GW398.out)) (fun hs_ => fun e_ => Nat.not_le.2 hs_ (by rw [e_]; exact GW398.out))) (fun hn_ => (Kd.freshB (g := gb398) (o := .cells #[.int .i64 a1_0, .int .i64 a1_1, .int .i64 a1_2, .slice A1_3 l1_3.length c1_3] 33 (0, 0)) (by (with_reducible repeat (first | refine blk_drewN ?_ _ | refine blk_drew ?_ | refine blk_alloc ?_ _)); exact BK398.out) k_ hn_))⟩)) (below_size (by repeat (with_reducible first | exact HB.out | apply below_alloc | apply pw_below_drewN | apply below_drew1 | refine below_set ?_ GE397.out | refine below_set ?_ GE398.out)))); have n1_ := Aside0.mk (blk_below (g := gb397) (o := .cells #[.slice A0 l0.length c0] 22 (0, 0)) (by (with_reducible repeat (first | refine blk_drewN ?_ _ | refine blk_drew ?_ | refine blk_alloc ?_ _)); exact BK397.out) hb); have n2_ := Aside0.mk (blk_below (g := gb398) (o := .cells #[.int .i64 a1_0, .int .i64 a1_1, .int .i64 a1_2, .slice A1_3 l1_3.length c1_3] 33 (0, 0)) (by (with_reducible repeat (first | refine blk_drewN ?_ _ | refine blk_drew ?_ | refine blk_alloc ?_ _)); exact BK398.out) hb); have n3_ := Aside0.mk (below_step (by repeat (with_reducible first | exact HB.out | apply below_alloc | apply pw_below_drewN | apply below_drew1 | refine below_set ?_ GE397.out | refine below_set ?_ GE398.out)) hb); clear BK397; clear BK398; clear HB; have HO404 := n0_; have BK397 := n1_; have BK398 := n2_; have HB := n3_; clear n0_ n1_ n2_ n3_; (try clear hb); (try clear hb2); (try clear hk); (try clear hi); (try clear ho0); obtain ⟨Ao28, co28, eo28⟩ := Kd.N_slice HO404.out; subst eo28) | ((with_reducible refine gate_callee (f := 14) rfl ?_); refine goesL_ (some 42) rfl rfl Tryd.func14 (by kernel_rfl) rfl #[.slice Ao28 t402.length co28] rfl (by (try simp only [List.map_toArray, List.map_cons, List.map_nil]); first | done | rfl | (simp only [List.length_drop, List.length_take]; rfl)) ?_; (with_reducible refine (lot_Check.calls kj4 _ _ t402 t406 t407 _ ?side1 ?side2 A20.out).mono ?_); (case side1 => repeat (first | exact (Kd.N_reads' HO404.out).2.2 | (with_reducible refine Kd.C_alloc ?_ _) | (with_reducible refine Kd.C_drewN ?_ _) | (with_reducible refine Kd.C_drew ?_))); (case side2 => exact (Kd.N_reads' HO404.out).2.1); rintro e w29 ⟨rfl, hb⟩; refine ⟨_, rfl, ?_⟩; have n0_ := Aside0.mk (Kd.N_below (by (with_reducible repeat (first | apply Kd.N_alloc | apply Kd.N_drewN | apply Kd.N_drew)); exact HO404.out) hb); have n1_ := Aside0.mk (blk_below (g := gb397) (o := .cells #[.slice A0 l0.length c0] 22 (0, 0)) (by (with_reducible repeat (first | refine blk_drewN ?_ _ | refine blk_drew ?_ | refine blk_alloc ?_ _)); exact BK397.out) hb); have n2_ := Aside0.mk (blk_below (g := gb398) (o := .cells #[.int .i64 a1_0, .int .i64 a1_1, .int .i64 a1_2, .slice A1_3 l1_3.length c1_3] 33 (0, 0)) (by (with_reducible repeat (first | refine blk_drewN ?_ _ | refine blk_drew ?_ | refine blk_alloc ?_ _)); exact BK398.out) hb); have n3_ := Aside0.mk (below_step (by repeat (with_reducible first | exact HB.out | apply below_alloc | apply pw_below_drewN | apply below_drew1 | refine below_set ?_ GE397.out | refine below_set ?_ GE398.out)) hb); clear HO404; clear BK397; clear BK398; clear HB; have HO404 := n0_; have BK397 := n1_; have BK398 := n2_; have HB := n3_; clear n0_ n1_ n2_ n3_; (try clear hb); (try clear hb2); (try clear hk); (try clear hi); have hcz30_0 : w29.cell? ⟨gb398, 0, none⟩ = some (.int .i64 a1_0) := (blk_cell BK398.out 0).trans rfl; have hcz30_1 : w29.cell? ⟨gb398, 1, none⟩ = some (.int .i64 a1_1) := (blk_cell BK398.out 1).trans rfl; have hcz30_2 : w29.cell? ⟨gb398, 2, none⟩ = some (.int .i64 a1_2) := (blk_cell BK398.out 2).trans rfl; have hcz30_3 : w29.cell? ⟨gb398, 3, none⟩ = some (.slice A1_3 l1_3.length c1_3) := (blk_cell BK398.out 3).trans rfl; have hfz30_0 := blk_frozen BK398.out 0; have hfz30_1 := blk_frozen BK398.out 1; have hfz30_2 := blk_frozen BK398.out 2; have hfz30_3 := blk_frozen BK398.out 3) | ((with_reducible refine gate_callee (f := 16) rfl ?_); refine goesL_ (some 51) rfl rfl Tryd.func16 (by kernel_rfl) rfl #[.slice Ao28 t402.length co28, .int .i64 a1_0] rfl (by (try simp only [List.map_toArray, List.map_cons, List.map_nil]); first | done | rfl | (simp only [List.length_drop, List.length_take]; rfl)) ?_; (with_reducible refine (lot_Find.calls kj4 _ _ t402 a1_0 t408 t409 t410 t411 t414 _ ?side1 ?side2 A22.out).mono ?_); (case side1 => repeat (first | exact (Kd.N_reads' HO404.out).2.2 | (with_reducible refine Kd.C_alloc ?_ _) | (with_reducible refine Kd.C_drewN ?_ _) | (with_reducible refine Kd.C_drew ?_))); (case side2 => exact (Kd.N_reads' HO404.out).2.1); rintro e w31 ⟨v412, rfl, ho0, hb⟩; refine ⟨_, rfl, ?_⟩; have n0_ := Aside0.mk (Kd.N_elder' (by (with_reducible repeat (first | apply Kd.N_alloc | apply Kd.N_drewN | apply Kd.N_drew)); exact HO404.out) (Kd.R_base ho0) hb); have n1_ := Aside0.mk (Kd.R_lower ho0 (below_size (by repeat (with_reducible first | exact HB.out | apply below_alloc | apply pw_below_drewN | apply below_drew1 | refine below_set ?_ GE397.out | refine below_set ?_ GE398.out)))); have n2_ := Aside0.mk (blk_below (g := gb397) (o := .cells #[.slice A0 l0.length c0] 22 (0, 0)) (by (with_reducible repeat (first | refine blk_drewN ?_ _ | refine blk_drew ?_ | refine blk_alloc ?_ _)); exact BK397.out) hb); have n3_ := Aside0.mk (blk_below (g := gb398) (o := .cells #[.int .i64 a1_0, .int .i64 a1_1, .int .i64 a1_2, .slice A1_3 l1_3.length c1_3] 33 (0, 0)) (by (with_reducible repeat (first | refine blk_drewN ?_ _ | refine blk_drew ?_ | refine blk_alloc ?_ _)); exact BK398.out) hb); have n4_ := Aside0.mk (below_step (by repeat (with_reducible first | exact HB.out | apply below_alloc | apply pw_below_drewN | apply below_drew1 | refine below_set ?_ GE397.out | refine below_set ?_ GE398.out)) hb); clear HO404; clear BK397; clear BK398; clear HB; have HO404 := n0_; have HO413 := n1_; have BK397 := n2_; have BK398 := n3_; have HB := n4_; clear n0_ n1_ n2_ n3_ n4_; (try clear hb); (try clear hb2); (try clear hk); (try clear hi); (try clear ho0)) | ((with_reducible refine gate_dst (N := 9) rfl ?_); (try (refine gate_guard (by rfl) ?_; dsimp only)); refine box_event ?hg (N := 9) ?hd (cs := #[.int .i64 0, .int .i64 0, .int .i64 0, .slice none 0 0]) (t := 33) ?hr ?_; (case hd => rfl); (case hg => rfl); (case hr => first | (go_simp; done) | (go_simp; rfl)); intro gb415 hg w32 hbox hb; have n0_ := Aside0.mk (Kd.N_below (Kd.N_elderB (by (with_reducible repeat (first | apply Kd.N_alloc | apply Kd.N_drewN | apply Kd.N_drew)); exact HO404.out) gb415 (Nat.le_of_eq hg.symm)) hb); have n1_ := Aside0.mk (Kd.R_below (by (with_reducible repeat (first | apply Kd.R_alloc | apply Kd.R_drewN | apply Kd.R_drew)); exact HO413.out) hb); have n2_ := Aside0.mk (blk_below (g := gb397) (o := .cells #[.slice A0 l0.length c0] 22 (0, 0)) (by (with_reducible repeat (first | refine blk_drewN ?_ _ | refine blk_drew ?_ | refine blk_alloc ?_ _)); exact BK397.out) hb); have n3_ := Aside0.mk (blk_below (g := gb398) (o := .cells #[.int .i64 a1_0, .int .i64 a1_1, .int .i64 a1_2, .slice A1_3 l1_3.length c1_3] 33 (0, 0)) (by (with_reducible repeat (first | refine blk_drewN ?_ _ | refine blk_drew ?_ | refine blk_alloc ?_ _)); exact BK398.out) hb); have n4_ := Aside0.mk (below_step (by repeat (with_reducible first | exact HB.out | apply below_alloc | apply pw_below_drewN | apply below_drew1 | refine below_set ?_ GE397.out | refine below_set ?_ GE398.out)) hb); have n5_ := Aside0.mk (hbox); have n6_ := Aside0.mk ((by rw [hg]; exact (below_size (by repeat (with_reducible first | exact HB.out | apply below_alloc | apply pw_below_drewN | apply below_drew1 | refine below_set ?_ GE397.out | refine below_set ?_ GE398.out))) : w.heap.size ≤ gb415)); have n7_ := Aside0.mk ((by rw [hg]; exact (below_size (by repeat (with_reducible first | exact HB.out | apply below_alloc | apply pw_below_drewN | apply below_drew1 | refine below_set ?_ GE397.out | refine below_set ?_ GE398.out))) : w.heap.size ≤ gb415)); have n8_ := Aside0.mk ((by rw [hg]; exact Nat.ne_of_lt (blk_lt (g := gb397) (o := .cells #[.slice A0 l0.length c0] 22 (0, 0)) (by (with_reducible repeat (first | refine blk_drewN ?_ _ | refine blk_drew ?_ | refine blk_alloc ?_ _)); exact BK397.out)) : gb397 ≠ gb415)); have n9_ := Aside0.mk ((by rw [hg]; exact Nat.ne_of_gt (blk_lt (g := gb397) (o := .cells #[.slice A0 l0.length c0] 22 (0, 0)) (by (with_reducible repeat (first | refine blk_drewN ?_ _ | refine blk_drew ?_ | refine blk_alloc ?_ _)); exact BK397.out)) : gb415 ≠ gb397)); have n10_ := Aside0.mk ((by rw [hg]; exact Nat.ne_of_lt (blk_lt (g := gb398) (o := .cells #[.int .i64 a1_0, .int .i64 a1_1, .int .i64 a1_2, .slice A1_3 l1_3.length c1_3] 33 (0, 0)) (by (with_reducible repeat (first | refine blk_drewN ?_ _ | refine blk_drew ?_ | refine blk_alloc ?_ _)); exact BK398.out)) : gb398 ≠ gb415)); have n11_ := Aside0.mk ((by rw [hg]; exact Nat.ne_of_gt (blk_lt (g := gb398) (o := .cells #[.int .i64 a1_0, .int .i64 a1_1, .int .i64 a1_2, .slice A1_3 l1_3.length c1_3] 33 (0, 0)) (by (with_reducible repeat (first | refine blk_drewN ?_ _ | refine blk_drew ?_ | refine blk_alloc ?_ _)); exact BK398.out)) : gb415 ≠ gb398)); clear HO404; clear HO413; clear BK397; clear BK398; clear HB; have HO404 := n0_; have HO413 := n1_; have BK397 := n2_; have BK398 := n3_; have HB := n4_; have BK415 := n5_; have GW415 := n6_; have GE415 := n7_; have NB397_415 := n8_; have NB415_397 := n9_; have NB398_415 := n10_; have NB415_398 := n11_; clear n0_ n1_ n2_ n3_ n4_ n5_ n6_ n7_ n8_ n9_ n10_ n11_; clear hb hbox hg; have hnb33 := NB415_397.out; have hnc33 := NB397_415.out; have hnb34 := NB415_398.out; have hnc34 := NB398_415.out; have hcz35_0 : w32.cell? ⟨gb415, 0, none⟩ = some (.int .i64 0) := (blk_cell BK415.out 0).trans rfl; have hcz35_1 : w32.cell? ⟨gb415, 1, none⟩ = some (.int .i64 0) := (blk_cell BK415.out 1).trans rfl; have hcz35_2 : w32.cell? ⟨gb415, 2, none⟩ = some (.int .i64 0) := (blk_cell BK415.out 2).trans rfl; have hcz35_3 : w32.cell? ⟨gb415, 3, none⟩ = some (.slice none 0 0) := (blk_cell BK415.out 3).trans rfl; have hfz35_0 := blk_frozen BK415.out 0; have hfz35_1 := blk_frozen BK415.out 1; have hfz35_2 := blk_frozen BK415.out 2; have hfz35_3 := blk_frozen BK415.out 3; obtain ⟨Ao36, co36, eo36⟩ := Kd.R_slice HO413.out; subst eo36))
       (try simp only [Act.put, List.setIfInBounds_toArray, List.set_cons_zero, List.set_cons_succ])
       go_cut [11] (fun v11 wc => ∃ (kq : Nat) (x11_22 : Bool), v11 = .bool x11_22 ∧ Aside0 (spilelaw22_LotPlaces.j1 kq t402 t414 x11_22 l0 a1_0 a1_1 a1_2 l1_3 t408 t409 t410 t411 = some r) ∧ Aside0 (kq ≤ kj4) ∧ Aside0 (Kd.N k33 33 wc w.heap.size (fun k_ => some k_ ≠ ((.slice Ao36 t411.length co36) : Value).ownBlock ∧ k_ ≠ gb397 ∧ k_ ≠ gb398 ∧ k_ ≠ gb415) (.slice Ao28 t402.length co28) t402) ∧ Aside0 (Kd.R k35 35 wc w.heap.size (fun _ => True) (.slice Ao36 t411.length co36) t411) ∧ Aside0 (wc.heap[gb397]? = some (.cells #[(.slice A0 l0.length c0)] 22 (0, 0))) ∧ Aside0 (wc.heap[gb398]? = some (.cells #[.int .i64 a1_0, .int .i64 a1_1, .int .i64 a1_2, (.slice A1_3 l1_3.length c1_3)] 33 (0, 0))) ∧ Aside0 (wc.heap[gb415]? = some (.cells #[.int .i64 t408, .int .i64 t409, .int .i64 t410, (.slice Ao36 t411.length co36)] 33 (0, 0))) ∧ Aside0 (Below w.heap.size w wc))
       case first =>
        have H := HC23.out
        clear HC23
        by_cases c37 : (a1_1 == 0 && (a1_2 == 0)) = true
        ·
         rw [if_pos c37] at H
         have c37b0 : (a1_1 == 0 && (a1_2 == 0)) = true := c37
         (try (have c37b1 : decide (a1_1 = 0 && (a1_2 == 0)) = true := by simpa using c37))
         (try (have c37b2 : (a1_1 == 0 && (a1_2 == 0)) = true := by simpa using c37))
         clear c37
         (first | rw [c37b0] | (simp only [i64_w, i32_w]; rw [c37b0]) | skip)
         have H' := Aside0.mk H
         clear H
         have hnb38 := NB398_397.out
         have hnc38 := NB397_398.out
         have hnb39 := NB398_415.out
         have hnc39 := NB415_398.out
         have hcz40_0 : w32.cell? ⟨gb398, 0, none⟩ = some (.int .i64 a1_0) := (blk_cell BK398.out 0).trans rfl
         have hcz40_1 : w32.cell? ⟨gb398, 1, none⟩ = some (.int .i64 a1_1) := (blk_cell BK398.out 1).trans rfl
         have hcz40_2 : w32.cell? ⟨gb398, 2, none⟩ = some (.int .i64 a1_2) := (blk_cell BK398.out 2).trans rfl
         have hcz40_3 : w32.cell? ⟨gb398, 3, none⟩ = some (.slice A1_3 l1_3.length c1_3) := (blk_cell BK398.out 3).trans rfl
         have hfz40_0 := blk_frozen BK398.out 0
         have hfz40_1 := blk_frozen BK398.out 1
         have hfz40_2 := blk_frozen BK398.out 2
         have hfz40_3 := blk_frozen BK398.out 3
         go_wp2
         go_meet
         case rel => exact ⟨_, (((l1_3.length : Int) == 0)), (by first | rfl | (simp; done) | (simp [*]; done)), H', ⟨by have := HJ4.out; first | omega | exact Nat.le_refl _⟩, ⟨by (with_reducible repeat (first | apply Kd.N_alloc | apply Kd.N_drewN | apply Kd.N_drew)); exact Kd.N_mono (Kd.N_far (p := ⟨gb415, 3, none⟩) (Kd.N_far (p := ⟨gb415, 2, none⟩) (Kd.N_far (p := ⟨gb415, 1, none⟩) (Kd.N_far (p := ⟨gb415, 0, none⟩) (Kd.N_mono HO404.out (fun k_ hk => (⟨hk, hk.2⟩ : _ ∧ k_ ≠ gb415))) (fun _ hk => hk.2) (.int .i64 t408)) (fun _ hk => hk.2) (.int .i64 t409)) (fun _ hk => hk.2) (.int .i64 t410)) (fun _ hk => hk.2) (.slice Ao36 t411.length co36)) (fun _ hk => ⟨hk.1.1.2, ⟨hk.1.1.1.1, ⟨hk.1.1.1.2, hk.1.2⟩⟩⟩)⟩, ⟨by (with_reducible repeat (first | apply Kd.R_alloc | apply Kd.R_drewN | apply Kd.R_drew)); exact Kd.R_mono (Kd.R_far (p := ⟨gb415, 3, none⟩) (Kd.R_far (p := ⟨gb415, 2, none⟩) (Kd.R_far (p := ⟨gb415, 1, none⟩) (Kd.R_far (p := ⟨gb415, 0, none⟩) (Kd.R_types HO413.out BK415.out (by decide)) (fun _ hk => hk.2) (.int .i64 t408)) (fun _ hk => hk.2) (.int .i64 t409)) (fun _ hk => hk.2) (.int .i64 t410)) (fun _ hk => hk.2) (.slice Ao36 t411.length co36)) (fun _ hk => trivial)⟩, ⟨by (with_reducible repeat (first | refine blk_drewN ?_ _ | refine blk_drew ?_ | refine blk_alloc ?_ _)); refine blk_far ?_ NB397_415.out _; (with_reducible repeat (first | refine blk_drewN ?_ _ | refine blk_drew ?_ | refine blk_alloc ?_ _)); refine blk_far ?_ NB397_415.out _; (with_reducible repeat (first | refine blk_drewN ?_ _ | refine blk_drew ?_ | refine blk_alloc ?_ _)); refine blk_far ?_ NB397_415.out _; (with_reducible repeat (first | refine blk_drewN ?_ _ | refine blk_drew ?_ | refine blk_alloc ?_ _)); refine blk_far ?_ NB397_415.out _; (with_reducible repeat (first | refine blk_drewN ?_ _ | refine blk_drew ?_ | refine blk_alloc ?_ _)); exact BK397.out⟩, ⟨by (with_reducible repeat (first | refine blk_drewN ?_ _ | refine blk_drew ?_ | refine blk_alloc ?_ _)); refine blk_far ?_ NB398_415.out _; (with_reducible repeat (first | refine blk_drewN ?_ _ | refine blk_drew ?_ | refine blk_alloc ?_ _)); refine blk_far ?_ NB398_415.out _; (with_reducible repeat (first | refine blk_drewN ?_ _ | refine blk_drew ?_ | refine blk_alloc ?_ _)); refine blk_far ?_ NB398_415.out _; (with_reducible repeat (first | refine blk_drewN ?_ _ | refine blk_drew ?_ | refine blk_alloc ?_ _)); refine blk_far ?_ NB398_415.out _; (with_reducible repeat (first | refine blk_drewN ?_ _ | refine blk_drew ?_ | refine blk_alloc ?_ _)); exact BK398.out⟩, ⟨by (with_reducible repeat (first | refine blk_drewN ?_ _ | refine blk_drew ?_ | refine blk_alloc ?_ _)); refine blk_put (cs := #[.int .i64 t408, .int .i64 t409, .int .i64 t410, .slice none 0 0]) ?_ 3 _ rfl; (with_reducible repeat (first | refine blk_drewN ?_ _ | refine blk_drew ?_ | refine blk_alloc ?_ _)); refine blk_put (cs := #[.int .i64 t408, .int .i64 t409, .int .i64 0, .slice none 0 0]) ?_ 2 _ rfl; (with_reducible repeat (first | refine blk_drewN ?_ _ | refine blk_drew ?_ | refine blk_alloc ?_ _)); refine blk_put (cs := #[.int .i64 t408, .int .i64 0, .int .i64 0, .slice none 0 0]) ?_ 1 _ rfl; (with_reducible repeat (first | refine blk_drewN ?_ _ | refine blk_drew ?_ | refine blk_alloc ?_ _)); refine blk_put (cs := #[.int .i64 0, .int .i64 0, .int .i64 0, .slice none 0 0]) ?_ 0 _ rfl; (with_reducible repeat (first | refine blk_drewN ?_ _ | refine blk_drew ?_ | refine blk_alloc ?_ _)); exact BK415.out⟩, ⟨by repeat (first | (with_reducible first | exact HB.out | apply below_alloc | apply pw_below_drewN | apply below_drew1 | refine below_set ?_ GE397.out | refine below_set ?_ GE398.out | refine below_set ?_ GE415.out) | exact HB.out)⟩⟩
        ·
         rw [if_neg c37] at H
         have c37b0 : (a1_1 == 0 && (a1_2 == 0)) = false := by simpa using c37
         (try (have c37b1 : decide (a1_1 = 0 && (a1_2 == 0)) = false := by simpa using c37))
         (try (have c37b2 : (a1_1 == 0 && (a1_2 == 0)) = false := by simpa using c37))
         (try (have c37b3 : ¬ (a1_1 = 0 && (a1_2 == 0)) := by simpa using c37))
         clear c37
         (first | rw [c37b0] | (simp only [i64_w, i32_w]; rw [c37b0]) | skip)
         have H' := Aside0.mk H
         clear H
         have hnb41 := NB398_397.out
         have hnc41 := NB397_398.out
         have hnb42 := NB398_415.out
         have hnc42 := NB415_398.out
         have hcz43_0 : w32.cell? ⟨gb398, 0, none⟩ = some (.int .i64 a1_0) := (blk_cell BK398.out 0).trans rfl
         have hcz43_1 : w32.cell? ⟨gb398, 1, none⟩ = some (.int .i64 a1_1) := (blk_cell BK398.out 1).trans rfl
         have hcz43_2 : w32.cell? ⟨gb398, 2, none⟩ = some (.int .i64 a1_2) := (blk_cell BK398.out 2).trans rfl
         have hcz43_3 : w32.cell? ⟨gb398, 3, none⟩ = some (.slice A1_3 l1_3.length c1_3) := (blk_cell BK398.out 3).trans rfl
         have hfz43_0 := blk_frozen BK398.out 0
         have hfz43_1 := blk_frozen BK398.out 1
         have hfz43_2 := blk_frozen BK398.out 2
         have hfz43_3 := blk_frozen BK398.out 3
         go_wp2
         go_meet
         case rel => exact ⟨_, (false), (by first | rfl | (simp; done) | (simp [*]; done)), H', ⟨by have := HJ4.out; first | omega | exact Nat.le_refl _⟩, ⟨by (with_reducible repeat (first | apply Kd.N_alloc | apply Kd.N_drewN | apply Kd.N_drew)); exact Kd.N_mono (Kd.N_far (p := ⟨gb415, 3, none⟩) (Kd.N_far (p := ⟨gb415, 2, none⟩) (Kd.N_far (p := ⟨gb415, 1, none⟩) (Kd.N_far (p := ⟨gb415, 0, none⟩) (Kd.N_mono HO404.out (fun k_ hk => (⟨hk, hk.2⟩ : _ ∧ k_ ≠ gb415))) (fun _ hk => hk.2) (.int .i64 t408)) (fun _ hk => hk.2) (.int .i64 t409)) (fun _ hk => hk.2) (.int .i64 t410)) (fun _ hk => hk.2) (.slice Ao36 t411.length co36)) (fun _ hk => ⟨hk.1.1.2, ⟨hk.1.1.1.1, ⟨hk.1.1.1.2, hk.1.2⟩⟩⟩)⟩, ⟨by (with_reducible repeat (first | apply Kd.R_alloc | apply Kd.R_drewN | apply Kd.R_drew)); exact Kd.R_mono (Kd.R_far (p := ⟨gb415, 3, none⟩) (Kd.R_far (p := ⟨gb415, 2, none⟩) (Kd.R_far (p := ⟨gb415, 1, none⟩) (Kd.R_far (p := ⟨gb415, 0, none⟩) (Kd.R_types HO413.out BK415.out (by decide)) (fun _ hk => hk.2) (.int .i64 t408)) (fun _ hk => hk.2) (.int .i64 t409)) (fun _ hk => hk.2) (.int .i64 t410)) (fun _ hk => hk.2) (.slice Ao36 t411.length co36)) (fun _ hk => trivial)⟩, ⟨by (with_reducible repeat (first | refine blk_drewN ?_ _ | refine blk_drew ?_ | refine blk_alloc ?_ _)); refine blk_far ?_ NB397_415.out _; (with_reducible repeat (first | refine blk_drewN ?_ _ | refine blk_drew ?_ | refine blk_alloc ?_ _)); refine blk_far ?_ NB397_415.out _; (with_reducible repeat (first | refine blk_drewN ?_ _ | refine blk_drew ?_ | refine blk_alloc ?_ _)); refine blk_far ?_ NB397_415.out _; (with_reducible repeat (first | refine blk_drewN ?_ _ | refine blk_drew ?_ | refine blk_alloc ?_ _)); refine blk_far ?_ NB397_415.out _; (with_reducible repeat (first | refine blk_drewN ?_ _ | refine blk_drew ?_ | refine blk_alloc ?_ _)); exact BK397.out⟩, ⟨by (with_reducible repeat (first | refine blk_drewN ?_ _ | refine blk_drew ?_ | refine blk_alloc ?_ _)); refine blk_far ?_ NB398_415.out _; (with_reducible repeat (first | refine blk_drewN ?_ _ | refine blk_drew ?_ | refine blk_alloc ?_ _)); refine blk_far ?_ NB398_415.out _; (with_reducible repeat (first | refine blk_drewN ?_ _ | refine blk_drew ?_ | refine blk_alloc ?_ _)); refine blk_far ?_ NB398_415.out _; (with_reducible repeat (first | refine blk_drewN ?_ _ | refine blk_drew ?_ | refine blk_alloc ?_ _)); refine blk_far ?_ NB398_415.out _; (with_reducible repeat (first | refine blk_drewN ?_ _ | refine blk_drew ?_ | refine blk_alloc ?_ _)); exact BK398.out⟩, ⟨by (with_reducible repeat (first | refine blk_drewN ?_ _ | refine blk_drew ?_ | refine blk_alloc ?_ _)); refine blk_put (cs := #[.int .i64 t408, .int .i64 t409, .int .i64 t410, .slice none 0 0]) ?_ 3 _ rfl; (with_reducible repeat (first | refine blk_drewN ?_ _ | refine blk_drew ?_ | refine blk_alloc ?_ _)); refine blk_put (cs := #[.int .i64 t408, .int .i64 t409, .int .i64 0, .slice none 0 0]) ?_ 2 _ rfl; (with_reducible repeat (first | refine blk_drewN ?_ _ | refine blk_drew ?_ | refine blk_alloc ?_ _)); refine blk_put (cs := #[.int .i64 t408, .int .i64 0, .int .i64 0, .slice none 0 0]) ?_ 1 _ rfl; (with_reducible repeat (first | refine blk_drewN ?_ _ | refine blk_drew ?_ | refine blk_alloc ?_ _)); refine blk_put (cs := #[.int .i64 0, .int .i64 0, .int .i64 0, .slice none 0 0]) ?_ 0 _ rfl; (with_reducible repeat (first | refine blk_drewN ?_ _ | refine blk_drew ?_ | refine blk_alloc ?_ _)); exact BK415.out⟩, ⟨by repeat (first | (with_reducible first | exact HB.out | apply below_alloc | apply pw_below_drewN | apply below_drew1 | refine below_set ?_ GE397.out | refine below_set ?_ GE398.out | refine below_set ?_ GE415.out) | exact HB.out)⟩⟩
       case rest =>
        clear HC23
        repeat first | clear c1 | clear c2 | clear p2 | clear c3 | clear c4 | clear c6 | clear c10 | clear c11 | clear c12 | clear c14 | clear c15 | clear c16 | clear c17 | clear c19 | clear c19b0 | clear c19b1 | clear c21 | clear c21b0 | clear c21b1 | clear c22 | clear c24 | clear c33 | clear c34 | clear c37 | clear c37b0 | clear c37b1 | clear c37b2 | clear c38 | clear c39 | clear c41 | clear c42 | clear hcz13_0 | clear hcz14_0 | clear hcz14_1 | clear hcz14_2 | clear hcz14_3 | clear hcz16_0 | clear hcz25_0 | clear hcz26_0 | clear hcz26_1 | clear hcz26_2 | clear hcz26_3 | clear hcz30_0 | clear hcz30_1 | clear hcz30_2 | clear hcz30_3 | clear hcz35_0 | clear hcz35_1 | clear hcz35_2 | clear hcz35_3 | clear hcz40_0 | clear hcz40_1 | clear hcz40_2 | clear hcz40_3 | clear hcz43_0 | clear hcz43_1 | clear hcz43_2 | clear hcz43_3 | clear hfz13_0 | clear hfz14_0 | clear hfz14_1 | clear hfz14_2 | clear hfz14_3 | clear hfz16_0 | clear hfz25_0 | clear hfz26_0 | clear hfz26_1 | clear hfz26_2 | clear hfz26_3 | clear hfz30_0 | clear hfz30_1 | clear hfz30_2 | clear hfz30_3 | clear hfz35_0 | clear hfz35_1 | clear hfz35_2 | clear hfz35_3 | clear hfz40_0 | clear hfz40_1 | clear hfz40_2 | clear hfz40_3 | clear hfz43_0 | clear hfz43_1 | clear hfz43_2 | clear hfz43_3 | clear p2
        obtain ⟨kq, x11_22, rfl, HA, HJ22, HO_5, HO_416003, BK397, BK398, BK415, HB⟩ := hcut
        cases kq with
        | zero => exact absurd HA.out (by simp [spilelaw22_LotPlaces.j1])
        | succ kj22 =>
         have H := HA.out
         clear HA
         simp only [spilelaw22_LotPlaces.j1] at H
         have HC44 := Aside0.mk H
         clear H
         go_upto_region 13 with (fail)
         go_cut [75] (fun v75 wc => ∃ (kq : Nat) (x75_43 : Bool), v75 = .bool x75_43 ∧ Aside0 (spilelaw22_LotPlaces.j2 kq t402 x75_43 l0 a1_0 a1_1 a1_2 l1_3 = some r) ∧ Aside0 (kq ≤ kj22) ∧ Aside0 (Kd.N k33 33 wc w.heap.size (fun k_ => some k_ ≠ ((.slice Ao36 t411.length co36) : Value).ownBlock ∧ k_ ≠ gb397 ∧ k_ ≠ gb398 ∧ k_ ≠ gb415) (.slice Ao28 t402.length co28) t402) ∧ Aside0 (Kd.R k35 35 wc w.heap.size (fun _ => True) (.slice Ao36 t411.length co36) t411) ∧ Aside0 (wc.heap[gb397]? = some (.cells #[(.slice A0 l0.length c0)] 22 (0, 0))) ∧ Aside0 (wc.heap[gb398]? = some (.cells #[.int .i64 a1_0, .int .i64 a1_1, .int .i64 a1_2, (.slice A1_3 l1_3.length c1_3)] 33 (0, 0))) ∧ Aside0 (wc.heap[gb415]? = some (.cells #[.int .i64 t408, .int .i64 t409, .int .i64 t410, (.slice Ao36 t411.length co36)] 33 (0, 0))) ∧ Aside0 (Below w.heap.size w wc))
         case first =>
          have H := HC44.out
          clear HC44
          by_cases c45 : (t414 == x11_22) = true
          ·
           rw [if_pos c45] at H
           have c45b0 : (t414 == x11_22) = true := c45
           (try (have c45b1 : decide (t414 = x11_22) = true := by simpa using c45))
           (try (have c45b2 : (t414 == x11_22) = true := by simpa using c45))
           clear c45
           (first | rw [c45b0] | (simp only [i64_w, i32_w]; rw [c45b0]) | skip)
           have H' := Aside0.mk H
           clear H
           go_wp2
           go_meet
           case rel => exact ⟨_, (true), (by first | rfl | (simp; done) | (simp [*]; done)), H', ⟨by have := HJ4.out; have := HJ22.out; first | omega | exact Nat.le_refl _⟩, ⟨by (with_reducible repeat (first | apply Kd.N_alloc | apply Kd.N_drewN | apply Kd.N_drew)); exact HO_5.out⟩, ⟨by (with_reducible repeat (first | apply Kd.R_alloc | apply Kd.R_drewN | apply Kd.R_drew)); exact HO_416003.out⟩, ⟨by (with_reducible repeat (first | refine blk_drewN ?_ _ | refine blk_drew ?_ | refine blk_alloc ?_ _)); exact BK397.out⟩, ⟨by (with_reducible repeat (first | refine blk_drewN ?_ _ | refine blk_drew ?_ | refine blk_alloc ?_ _)); exact BK398.out⟩, ⟨by (with_reducible repeat (first | refine blk_drewN ?_ _ | refine blk_drew ?_ | refine blk_alloc ?_ _)); exact BK415.out⟩, ⟨by repeat (first | (with_reducible first | exact HB.out | apply below_alloc | apply pw_below_drewN | apply below_drew1 | refine below_set ?_ GE397.out | refine below_set ?_ GE398.out | refine below_set ?_ GE415.out) | exact HB.out)⟩⟩
          ·
           rw [if_neg c45] at H
           have c45b0 : (t414 == x11_22) = false := by simpa using c45
           (try (have c45b1 : decide (t414 = x11_22) = false := by simpa using c45))
           (try (have c45b2 : (t414 == x11_22) = false := by simpa using c45))
           (try (have c45b3 : ¬ (t414 = x11_22) := by simpa using c45))
           clear c45
           (first | rw [c45b0] | (simp only [i64_w, i32_w]; rw [c45b0]) | skip)
           by_cases c46 : t414 = true
           ·
            subst c46
            replace H : ((spileref22_SameLot.f kj22 a1_0 a1_1 a1_2 l1_3 t408 t409 t410 t411).bind fun t416 => (spilelaw22_LotPlaces.j2 kj22 t402 (!t416) l0 a1_0 a1_1 a1_2 l1_3)) = some r := by rw [if_pos rfl] at H; exact H
            replace H := Option.bind_eq_some_iff.mp H
            obtain ⟨t416, A470, H⟩ := H
            replace H : (spilelaw22_LotPlaces.j2 kj22 t402 (!t416) l0 a1_0 a1_1 a1_2 l1_3) = some r := H
            have A47 := Aside0.mk A470
            clear A470
            have H' := Aside0.mk H
            clear H
            have hnb48 := NB398_397.out
            have hnc48 := NB397_398.out
            have hnb49 := NB398_415.out
            have hnc49 := NB415_398.out
            have hcz50_0 : wc.cell? ⟨gb398, 0, none⟩ = some (.int .i64 a1_0) := (blk_cell BK398.out 0).trans rfl
            have hcz50_1 : wc.cell? ⟨gb398, 1, none⟩ = some (.int .i64 a1_1) := (blk_cell BK398.out 1).trans rfl
            have hcz50_2 : wc.cell? ⟨gb398, 2, none⟩ = some (.int .i64 a1_2) := (blk_cell BK398.out 2).trans rfl
            have hcz50_3 : wc.cell? ⟨gb398, 3, none⟩ = some (.slice A1_3 l1_3.length c1_3) := (blk_cell BK398.out 3).trans rfl
            have hfz50_0 := blk_frozen BK398.out 0
            have hfz50_1 := blk_frozen BK398.out 1
            have hfz50_2 := blk_frozen BK398.out 2
            have hfz50_3 := blk_frozen BK398.out 3
            have hnb51 := NB415_397.out
            have hnc51 := NB397_415.out
            have hcz52_0 : wc.cell? ⟨gb415, 0, none⟩ = some (.int .i64 t408) := (blk_cell BK415.out 0).trans rfl
            have hcz52_1 : wc.cell? ⟨gb415, 1, none⟩ = some (.int .i64 t409) := (blk_cell BK415.out 1).trans rfl
            have hcz52_2 : wc.cell? ⟨gb415, 2, none⟩ = some (.int .i64 t410) := (blk_cell BK415.out 2).trans rfl
            have hcz52_3 : wc.cell? ⟨gb415, 3, none⟩ = some (.slice Ao36 t411.length co36) := (blk_cell BK415.out 3).trans rfl
            have hfz52_0 := blk_frozen BK415.out 0
            have hfz52_1 := blk_frozen BK415.out 1
            have hfz52_2 := blk_frozen BK415.out 2
            have hfz52_3 := blk_frozen BK415.out 3
            go_wp2_with (first | (go_at_call 20; (with_reducible refine (spileref22_SameLot.calls kj22 a1_0 a1_1 a1_2 _ _ l1_3 t408 t409 t410 _ _ t411 t416 _ ?side1 ?side2 ?side3 ?side4 A47.out).mono ?_); (case side1 => repeat (first | exact (Kd.C_below HR1_3.out HB.out) | (with_reducible refine Kd.C_alloc ?_ _) | (with_reducible refine Kd.C_drewN ?_ _) | (with_reducible refine Kd.C_drew ?_))); (case side2 => exact HC1_3.out); (case side3 => repeat (first | exact (Kd.R_reads' HO_416003.out).2.2 | (with_reducible refine Kd.C_alloc ?_ _) | (with_reducible refine Kd.C_drewN ?_ _) | (with_reducible refine Kd.C_drew ?_))); (case side4 => exact (Kd.R_reads' HO_416003.out).2.1); rintro e w53 ⟨rfl, hb⟩; have n0_ := Aside0.mk (Kd.N_below (by (with_reducible repeat (first | apply Kd.N_alloc | apply Kd.N_drewN | apply Kd.N_drew)); exact HO_5.out) hb); have n1_ := Aside0.mk (Kd.R_below (by (with_reducible repeat (first | apply Kd.R_alloc | apply Kd.R_drewN | apply Kd.R_drew)); exact HO_416003.out) hb); have n2_ := Aside0.mk (blk_below (g := gb397) (o := .cells #[.slice A0 l0.length c0] 22 (0, 0)) (by (with_reducible repeat (first | refine blk_drewN ?_ _ | refine blk_drew ?_ | refine blk_alloc ?_ _)); exact BK397.out) hb); have n3_ := Aside0.mk (blk_below (g := gb398) (o := .cells #[.int .i64 a1_0, .int .i64 a1_1, .int .i64 a1_2, .slice A1_3 l1_3.length c1_3] 33 (0, 0)) (by (with_reducible repeat (first | refine blk_drewN ?_ _ | refine blk_drew ?_ | refine blk_alloc ?_ _)); exact BK398.out) hb); have n4_ := Aside0.mk (blk_below (g := gb415) (o := .cells #[.int .i64 t408, .int .i64 t409, .int .i64 t410, .slice Ao36 t411.length co36] 33 (0, 0)) (by (with_reducible repeat (first | refine blk_drewN ?_ _ | refine blk_drew ?_ | refine blk_alloc ?_ _)); exact BK415.out) hb); have n5_ := Aside0.mk (below_step (by repeat (with_reducible first | exact HB.out | apply below_alloc | apply pw_below_drewN | apply below_drew1 | refine below_set ?_ GE397.out | refine below_set ?_ GE398.out | refine below_set ?_ GE415.out)) hb); clear HO_5; clear HO_416003; clear BK397; clear BK398; clear BK415; clear HB; have HO_5 := n0_; have HO_416003 := n1_; have BK397 := n2_; have BK398 := n3_; have BK415 := n4_; have HB := n5_; clear n0_ n1_ n2_ n3_ n4_ n5_; (try clear hb); (try clear hb2); (try clear hk); (try clear hi)))
            go_meet
            case rel => exact ⟨_, (!t416), (by first | rfl | (simp; done) | (simp [*]; done)), H', ⟨by have := HJ4.out; have := HJ22.out; first | omega | exact Nat.le_refl _⟩, ⟨by (with_reducible repeat (first | apply Kd.N_alloc | apply Kd.N_drewN | apply Kd.N_drew)); exact HO_5.out⟩, ⟨by (with_reducible repeat (first | apply Kd.R_alloc | apply Kd.R_drewN | apply Kd.R_drew)); exact HO_416003.out⟩, ⟨by (with_reducible repeat (first | refine blk_drewN ?_ _ | refine blk_drew ?_ | refine blk_alloc ?_ _)); exact BK397.out⟩, ⟨by (with_reducible repeat (first | refine blk_drewN ?_ _ | refine blk_drew ?_ | refine blk_alloc ?_ _)); exact BK398.out⟩, ⟨by (with_reducible repeat (first | refine blk_drewN ?_ _ | refine blk_drew ?_ | refine blk_alloc ?_ _)); exact BK415.out⟩, ⟨by repeat (first | (with_reducible first | exact HB.out | apply below_alloc | apply pw_below_drewN | apply below_drew1 | refine below_set ?_ GE397.out | refine below_set ?_ GE398.out | refine below_set ?_ GE415.out) | exact HB.out)⟩⟩
           ·
            replace c46 := Bool.eq_false_iff.mpr c46
            subst c46
            replace H : (spilelaw22_LotPlaces.j2 kj22 t402 false l0 a1_0 a1_1 a1_2 l1_3) = some r := by rw [if_neg (show ¬ (false = true) by decide)] at H; exact H
            have H' := Aside0.mk H
            clear H
            go_wp2
            go_meet
            case rel => exact ⟨_, (false), (by first | rfl | (simp; done) | (simp [*]; done)), H', ⟨by have := HJ4.out; have := HJ22.out; first | omega | exact Nat.le_refl _⟩, ⟨by (with_reducible repeat (first | apply Kd.N_alloc | apply Kd.N_drewN | apply Kd.N_drew)); exact HO_5.out⟩, ⟨by (with_reducible repeat (first | apply Kd.R_alloc | apply Kd.R_drewN | apply Kd.R_drew)); exact HO_416003.out⟩, ⟨by (with_reducible repeat (first | refine blk_drewN ?_ _ | refine blk_drew ?_ | refine blk_alloc ?_ _)); exact BK397.out⟩, ⟨by (with_reducible repeat (first | refine blk_drewN ?_ _ | refine blk_drew ?_ | refine blk_alloc ?_ _)); exact BK398.out⟩, ⟨by (with_reducible repeat (first | refine blk_drewN ?_ _ | refine blk_drew ?_ | refine blk_alloc ?_ _)); exact BK415.out⟩, ⟨by repeat (first | (with_reducible first | exact HB.out | apply below_alloc | apply pw_below_drewN | apply below_drew1 | refine below_set ?_ GE397.out | refine below_set ?_ GE398.out | refine below_set ?_ GE415.out) | exact HB.out)⟩⟩
         case rest =>
          clear HC44
          repeat first | clear c1 | clear c2 | clear p2 | clear c3 | clear c4 | clear c5 | clear c6 | clear c10 | clear c11 | clear c12 | clear c14 | clear c15 | clear c16 | clear c17 | clear c19 | clear c19b0 | clear c19b1 | clear c21 | clear c21b0 | clear c21b1 | clear c22 | clear c24 | clear c33 | clear c34 | clear c37 | clear c37b0 | clear c37b1 | clear c37b2 | clear c38 | clear c39 | clear c41 | clear c42 | clear c45 | clear c45b0 | clear c45b1 | clear c45b2 | clear c46 | clear c48 | clear c49 | clear c51 | clear hcz13_0 | clear hcz14_0 | clear hcz14_1 | clear hcz14_2 | clear hcz14_3 | clear hcz16_0 | clear hcz25_0 | clear hcz26_0 | clear hcz26_1 | clear hcz26_2 | clear hcz26_3 | clear hcz30_0 | clear hcz30_1 | clear hcz30_2 | clear hcz30_3 | clear hcz35_0 | clear hcz35_1 | clear hcz35_2 | clear hcz35_3 | clear hcz40_0 | clear hcz40_1 | clear hcz40_2 | clear hcz40_3 | clear hcz43_0 | clear hcz43_1 | clear hcz43_2 | clear hcz43_3 | clear hcz50_0 | clear hcz50_1 | clear hcz50_2 | clear hcz50_3 | clear hcz52_0 | clear hcz52_1 | clear hcz52_2 | clear hcz52_3 | clear hfz13_0 | clear hfz14_0 | clear hfz14_1 | clear hfz14_2 | clear hfz14_3 | clear hfz16_0 | clear hfz25_0 | clear hfz26_0 | clear hfz26_1 | clear hfz26_2 | clear hfz26_3 | clear hfz30_0 | clear hfz30_1 | clear hfz30_2 | clear hfz30_3 | clear hfz35_0 | clear hfz35_1 | clear hfz35_2 | clear hfz35_3 | clear hfz40_0 | clear hfz40_1 | clear hfz40_2 | clear hfz40_3 | clear hfz43_0 | clear hfz43_1 | clear hfz43_2 | clear hfz43_3 | clear hfz50_0 | clear hfz50_1 | clear hfz50_2 | clear hfz50_3 | clear hfz52_0 | clear hfz52_1 | clear hfz52_2 | clear hfz52_3 | clear p2
          obtain ⟨kq, x75_43, rfl, HA, HJ43, HO_5, HO_416003, BK397, BK398, BK415, HB⟩ := hcut
          cases kq with
          | zero => exact absurd HA.out (by simp [spilelaw22_LotPlaces.j2])
          | succ kj43 =>
           have H := HA.out
           clear HA
           simp only [spilelaw22_LotPlaces.j2] at H
           by_cases c54 : x75_43 = true
           ·
            subst c54
            replace H : (some false) = some r := by rw [if_pos rfl] at H; exact H
            subst hr_
            exact absurd H (by simp)
           ·
            replace c54 := Bool.eq_false_iff.mpr c54
            subst c54
            replace H : ((lot_Put.f kj43 t402 a1_0 a1_1 a1_2 l1_3).bind fun bt417 => (if bt417.2 = 0 then ((spileref22_Same.f kj43 t402 bt417.1).bind fun t421 => (spilelaw22_LotPlaces.j3 kj43 t402 (!t421) l0 a1_0 a1_1 a1_2 l1_3)) else (spilelaw22_LotPlaces.j3 kj43 t402 true l0 a1_0 a1_1 a1_2 l1_3))) = some r := by rw [if_neg (show ¬ (false = true) by decide)] at H; exact H
            replace H := Option.bind_eq_some_iff.mp H
            obtain ⟨⟨t417, t420⟩, A550, H⟩ := H
            replace H : (if t420 = 0 then ((spileref22_Same.f kj43 t402 t417).bind fun t421 => (spilelaw22_LotPlaces.j3 kj43 t402 (!t421) l0 a1_0 a1_1 a1_2 l1_3)) else (spilelaw22_LotPlaces.j3 kj43 t402 true l0 a1_0 a1_1 a1_2 l1_3)) = some r := H
            have A55 := Aside0.mk A550
            clear A550
            have HC56 := Aside0.mk H
            clear H
            have hnb57 := NB398_397.out
            have hnc57 := NB397_398.out
            have hnb58 := NB398_415.out
            have hnc58 := NB415_398.out
            have hcz59_0 : wc.cell? ⟨gb398, 0, none⟩ = some (.int .i64 a1_0) := (blk_cell BK398.out 0).trans rfl
            have hcz59_1 : wc.cell? ⟨gb398, 1, none⟩ = some (.int .i64 a1_1) := (blk_cell BK398.out 1).trans rfl
            have hcz59_2 : wc.cell? ⟨gb398, 2, none⟩ = some (.int .i64 a1_2) := (blk_cell BK398.out 2).trans rfl
            have hcz59_3 : wc.cell? ⟨gb398, 3, none⟩ = some (.slice A1_3 l1_3.length c1_3) := (blk_cell BK398.out 3).trans rfl
            have hfz59_0 := blk_frozen BK398.out 0
            have hfz59_1 := blk_frozen BK398.out 1
            have hfz59_2 := blk_frozen BK398.out 2
            have hfz59_3 := blk_frozen BK398.out 3
            go_upto_region 16 with (first | ((with_reducible refine gate_callee (f := 22) rfl ?_); refine goesL_ (some 79) rfl rfl Tryd.func22 (by kernel_rfl) rfl #[.slice Ao28 t402.length co28, .agg #[.int .i64 a1_0, .int .i64 a1_1, .int .i64 a1_2, .slice A1_3 l1_3.length c1_3]] rfl (by (try simp only [List.map_toArray, List.map_cons, List.map_nil]); first | done | rfl | (simp only [List.length_drop, List.length_take]; rfl)) ?_; (with_reducible refine (lot_Put.calls kj43 (fun k_ => (some k_ ≠ (.slice Ao36 t411.length co36 : Value).ownBlock ∧ (k_ ≠ gb397 ∧ (k_ ≠ gb398 ∧ k_ ≠ gb415)))) _ _ t402 a1_0 a1_1 a1_2 (fun k_ => k_ < w.heap.size) _ _ l1_3 t417 t420 _ ?side1 ?side2 A55.out).mono ?_); (case side1 => exact Kd.N_V (HO_5.out)); (case side2 => exact Kd.V_mk HC1_3.out (Kd.F_below (Kd.C_F k35_heap HR1_3.out) (by repeat (with_reducible first | exact HB.out | apply below_alloc | apply pw_below_drewN | apply below_drew1 | refine below_set ?_ GE397.out | refine below_set ?_ GE398.out | refine below_set ?_ GE415.out)))); rintro e w60 ⟨v418, rfl, ho0, hb⟩; refine ⟨_, rfl, ?_⟩; have n0_ := Aside0.mk (Kd.N_elder' (by (with_reducible repeat (first | apply Kd.N_alloc | apply Kd.N_drewN | apply Kd.N_drew)); exact HO_5.out) (Kd.N_base ho0) hb); have n1_ := Aside0.mk (Kd.R_below (by (with_reducible repeat (first | apply Kd.R_alloc | apply Kd.R_drewN | apply Kd.R_drew)); exact HO_416003.out) hb); have n2_ := Aside0.mk (Kd.N_lower (Kd.N_mono (ok' := fun k_ => some k_ ≠ (.slice Ao36 t411.length co36 : Value).ownBlock ∧ k_ ≠ gb397 ∧ k_ ≠ gb398 ∧ k_ ≠ gb415) ho0 (fun k_ hk_ => ⟨Or.elim hk_ (fun hs_ => Or.elim hs_ (fun hs_ => hs_.1) (fun hs_ => fun e_ => Nat.not_le.2 hs_ (Kd.R_base HO_416003.out k_ e_.symm))) (fun hn_ => (Kd.fresh' (Kd.R_lt (by (with_reducible repeat (first | apply Kd.R_alloc | apply Kd.R_drewN | apply Kd.R_drew)); exact HO_416003.out)) k_ hn_)), Or.elim hk_ (fun hs_ => Or.elim hs_ (fun hs_ => hs_.2.1) (fun hs_ => fun e_ => Nat.not_le.2 hs_ (by rw [e_]; exact GW397.out))) (fun hn_ => (Kd.freshB (g := gb397) (o := .cells #[.slice A0 l0.length c0] 22 (0, 0)) (by (with_reducible repeat (first | refine blk_drewN ?_ _ | refine blk_drew ?_ | refine blk_alloc ?_ _)); exact BK397.out) k_ hn_)), Or.elim hk_ (fun hs_ => Or.elim hs_ (fun hs_ => hs_.2.2.1) (fun hs_ => fun e_ => Nat.not_le.2 hs_ (by rw [e_]; exact GW398.out))) (fun hn_ => (Kd.freshB (g := gb398) (o := .cells #[.int .i64 a1_0, .int .i64 a1_1, .int .i64 a1_2, .slice A1_3 l1_3.length c1_3] 33 (0, 0)) (by (with_reducible repeat (first | refine blk_drewN ?_ _ | refine blk_drew ?_ | refine blk_alloc ?_ _)); exact BK398.out) k_ hn_)), Or.elim hk_ (fun hs_ => Or.elim hs_ (fun hs_ => hs_.2.2.2) (fun hs_ => fun e_ => Nat.not_le.2 hs_ (by rw [e_]; exact GW415.out))) (fun hn_ => (Kd.freshB (g := gb415) (o := .cells #[.int .i64 t408, .int .i64 t409, .int .i64 t410, .slice Ao36 t411.length co36] 33 (0, 0)) (by (with_reducible repeat (first | refine blk_drewN ?_ _ | refine blk_drew ?_ | refine blk_alloc ?_ _)); exact BK415.out) k_ hn_))⟩)) (below_size (by repeat (with_reducible first | exact HB.out | apply below_alloc | apply pw_below_drewN | apply below_drew1 | refine below_set ?_ GE397.out | refine below_set ?_ GE398.out | refine below_set ?_ GE415.out)))); have n3_ := Aside0.mk (blk_below (g := gb397) (o := .cells #[.slice A0 l0.length c0] 22 (0, 0)) (by (with_reducible repeat (first | refine blk_drewN ?_ _ | refine blk_drew ?_ | refine blk_alloc ?_ _)); exact BK397.out) hb); have n4_ := Aside0.mk (blk_below (g := gb398) (o := .cells #[.int .i64 a1_0, .int .i64 a1_1, .int .i64 a1_2, .slice A1_3 l1_3.length c1_3] 33 (0, 0)) (by (with_reducible repeat (first | refine blk_drewN ?_ _ | refine blk_drew ?_ | refine blk_alloc ?_ _)); exact BK398.out) hb); have n5_ := Aside0.mk (blk_below (g := gb415) (o := .cells #[.int .i64 t408, .int .i64 t409, .int .i64 t410, .slice Ao36 t411.length co36] 33 (0, 0)) (by (with_reducible repeat (first | refine blk_drewN ?_ _ | refine blk_drew ?_ | refine blk_alloc ?_ _)); exact BK415.out) hb); have n6_ := Aside0.mk (below_step (by repeat (with_reducible first | exact HB.out | apply below_alloc | apply pw_below_drewN | apply below_drew1 | refine below_set ?_ GE397.out | refine below_set ?_ GE398.out | refine below_set ?_ GE415.out)) hb); clear HO_5; clear HO_416003; clear BK397; clear BK398; clear BK415; clear HB; have HO_5 := n0_; have HO_416003 := n1_; have HO419 := n2_; have BK397 := n3_; have BK398 := n4_; have BK415 := n5_; have HB := n6_; clear n0_ n1_ n2_ n3_ n4_ n5_ n6_; (try clear hb); (try clear hb2); (try clear hk); (try clear hi); (try clear ho0)))
            (try simp only [Act.put, List.setIfInBounds_toArray, List.set_cons_zero, List.set_cons_succ])
            go_cut [89] (fun v89 wc => ∃ (kq : Nat) (x89_55 : Bool), v89 = .bool x89_55 ∧ Aside0 (spilelaw22_LotPlaces.j3 kq t402 x89_55 l0 a1_0 a1_1 a1_2 l1_3 = some r) ∧ Aside0 (kq ≤ kj43) ∧ Aside0 (Kd.N k33 33 wc w.heap.size (fun k_ => some k_ ≠ ((.slice Ao36 t411.length co36) : Value).ownBlock ∧ k_ ≠ gb397 ∧ k_ ≠ gb398 ∧ k_ ≠ gb415) (.slice Ao28 t402.length co28) t402) ∧ Aside0 (Kd.R k35 35 wc w.heap.size (fun _ => True) (.slice Ao36 t411.length co36) t411) ∧ Aside0 (wc.heap[gb397]? = some (.cells #[(.slice A0 l0.length c0)] 22 (0, 0))) ∧ Aside0 (wc.heap[gb398]? = some (.cells #[.int .i64 a1_0, .int .i64 a1_1, .int .i64 a1_2, (.slice A1_3 l1_3.length c1_3)] 33 (0, 0))) ∧ Aside0 (wc.heap[gb415]? = some (.cells #[.int .i64 t408, .int .i64 t409, .int .i64 t410, (.slice Ao36 t411.length co36)] 33 (0, 0))) ∧ Aside0 (Below w.heap.size w wc))
            case first =>
             have H := HC56.out
             clear HC56
             by_cases c61 : t420 = 0
             ·
              rw [if_pos c61] at H
              have c61b0 : (t420 == 0) = true := beq_iff_eq.mpr c61
              have c61b1 : (t420 != 0) = false := bne_eq_false_iff_eq.mpr c61
              clear c61
              (first | rw [c61b0] | (simp only [i64_w, i32_w]; rw [c61b0]) | skip)
              replace H := Option.bind_eq_some_iff.mp H
              obtain ⟨t421, A620, H⟩ := H
              replace H : (spilelaw22_LotPlaces.j3 kj43 t402 (!t421) l0 a1_0 a1_1 a1_2 l1_3) = some r := H
              have A62 := Aside0.mk A620
              clear A620
              have H' := Aside0.mk H
              clear H
              obtain ⟨Ao63, co63, eo63⟩ := Kd.N_slice HO419.out
              subst eo63
              go_wp2_with (first | (go_at_call 24; (with_reducible refine (spileref22_Same.calls kj43 _ _ t402 _ _ t417 t421 _ ?side1 ?side2 ?side3 ?side4 A62.out).mono ?_); (case side1 => repeat (first | exact (Kd.N_reads' HO_5.out).2.2 | (with_reducible refine Kd.C_alloc ?_ _) | (with_reducible refine Kd.C_drewN ?_ _) | (with_reducible refine Kd.C_drew ?_))); (case side2 => exact (Kd.N_reads' HO_5.out).2.1); (case side3 => repeat (first | exact (Kd.N_reads' HO419.out).2.2 | (with_reducible refine Kd.C_alloc ?_ _) | (with_reducible refine Kd.C_drewN ?_ _) | (with_reducible refine Kd.C_drew ?_))); (case side4 => exact (Kd.N_reads' HO419.out).2.1); rintro e w64 ⟨rfl, hb⟩; have n0_ := Aside0.mk (Kd.N_below (by (with_reducible repeat (first | apply Kd.N_alloc | apply Kd.N_drewN | apply Kd.N_drew)); exact HO_5.out) hb); have n1_ := Aside0.mk (Kd.R_below (by (with_reducible repeat (first | apply Kd.R_alloc | apply Kd.R_drewN | apply Kd.R_drew)); exact HO_416003.out) hb); have n2_ := Aside0.mk (Kd.N_below (by (with_reducible repeat (first | apply Kd.N_alloc | apply Kd.N_drewN | apply Kd.N_drew)); exact HO419.out) hb); have n3_ := Aside0.mk (blk_below (g := gb397) (o := .cells #[.slice A0 l0.length c0] 22 (0, 0)) (by (with_reducible repeat (first | refine blk_drewN ?_ _ | refine blk_drew ?_ | refine blk_alloc ?_ _)); exact BK397.out) hb); have n4_ := Aside0.mk (blk_below (g := gb398) (o := .cells #[.int .i64 a1_0, .int .i64 a1_1, .int .i64 a1_2, .slice A1_3 l1_3.length c1_3] 33 (0, 0)) (by (with_reducible repeat (first | refine blk_drewN ?_ _ | refine blk_drew ?_ | refine blk_alloc ?_ _)); exact BK398.out) hb); have n5_ := Aside0.mk (blk_below (g := gb415) (o := .cells #[.int .i64 t408, .int .i64 t409, .int .i64 t410, .slice Ao36 t411.length co36] 33 (0, 0)) (by (with_reducible repeat (first | refine blk_drewN ?_ _ | refine blk_drew ?_ | refine blk_alloc ?_ _)); exact BK415.out) hb); have n6_ := Aside0.mk (below_step (by repeat (with_reducible first | exact HB.out | apply below_alloc | apply pw_below_drewN | apply below_drew1 | refine below_set ?_ GE397.out | refine below_set ?_ GE398.out | refine below_set ?_ GE415.out)) hb); clear HO_5; clear HO_416003; clear HO419; clear BK397; clear BK398; clear BK415; clear HB; have HO_5 := n0_; have HO_416003 := n1_; have HO419 := n2_; have BK397 := n3_; have BK398 := n4_; have BK415 := n5_; have HB := n6_; clear n0_ n1_ n2_ n3_ n4_ n5_ n6_; (try clear hb); (try clear hb2); (try clear hk); (try clear hi)))
              go_meet
              case rel => exact ⟨_, (!t421), (by first | rfl | (simp; done) | (simp [*]; done)), H', ⟨by have := HJ4.out; have := HJ22.out; have := HJ43.out; first | omega | exact Nat.le_refl _⟩, ⟨by (with_reducible repeat (first | apply Kd.N_alloc | apply Kd.N_drewN | apply Kd.N_drew)); exact Kd.N_mono HO_5.out (fun _ hk => ⟨hk.1.1, ⟨hk.1.2.1, ⟨hk.1.2.2.1, hk.1.2.2.2⟩⟩⟩)⟩, ⟨by (with_reducible repeat (first | apply Kd.R_alloc | apply Kd.R_drewN | apply Kd.R_drew)); exact HO_416003.out⟩, ⟨by (with_reducible repeat (first | refine blk_drewN ?_ _ | refine blk_drew ?_ | refine blk_alloc ?_ _)); exact BK397.out⟩, ⟨by (with_reducible repeat (first | refine blk_drewN ?_ _ | refine blk_drew ?_ | refine blk_alloc ?_ _)); exact BK398.out⟩, ⟨by (with_reducible repeat (first | refine blk_drewN ?_ _ | refine blk_drew ?_ | refine blk_alloc ?_ _)); exact BK415.out⟩, ⟨by repeat (first | (with_reducible first | exact HB.out | apply below_alloc | apply pw_below_drewN | apply below_drew1 | refine below_set ?_ GE397.out | refine below_set ?_ GE398.out | refine below_set ?_ GE415.out) | exact HB.out)⟩⟩
             ·
              rw [if_neg c61] at H
              have c61b0 : (t420 == 0) = false := beq_eq_false_iff_ne.mpr c61
              have c61b1 : (t420 != 0) = true := bne_iff_ne.mpr c61
              (first | rw [c61b0] | (simp only [i64_w, i32_w]; rw [c61b0]) | skip)
              have H' := Aside0.mk H
              clear H
              go_wp2
              go_meet
              case rel => exact ⟨_, (true), (by first | rfl | (simp; done) | (simp [*]; done)), H', ⟨by have := HJ4.out; have := HJ22.out; have := HJ43.out; first | omega | exact Nat.le_refl _⟩, ⟨by (with_reducible repeat (first | apply Kd.N_alloc | apply Kd.N_drewN | apply Kd.N_drew)); exact Kd.N_mono HO_5.out (fun _ hk => ⟨hk.1.1, ⟨hk.1.2.1, ⟨hk.1.2.2.1, hk.1.2.2.2⟩⟩⟩)⟩, ⟨by (with_reducible repeat (first | apply Kd.R_alloc | apply Kd.R_drewN | apply Kd.R_drew)); exact HO_416003.out⟩, ⟨by (with_reducible repeat (first | refine blk_drewN ?_ _ | refine blk_drew ?_ | refine blk_alloc ?_ _)); exact BK397.out⟩, ⟨by (with_reducible repeat (first | refine blk_drewN ?_ _ | refine blk_drew ?_ | refine blk_alloc ?_ _)); exact BK398.out⟩, ⟨by (with_reducible repeat (first | refine blk_drewN ?_ _ | refine blk_drew ?_ | refine blk_alloc ?_ _)); exact BK415.out⟩, ⟨by repeat (first | (with_reducible first | exact HB.out | apply below_alloc | apply pw_below_drewN | apply below_drew1 | refine below_set ?_ GE397.out | refine below_set ?_ GE398.out | refine below_set ?_ GE415.out) | exact HB.out)⟩⟩
            case rest =>
             clear HC56
             repeat first | clear c1 | clear c2 | clear p2 | clear c3 | clear c4 | clear c5 | clear c6 | clear c10 | clear c11 | clear c12 | clear c14 | clear c15 | clear c16 | clear c17 | clear c19 | clear c19b0 | clear c19b1 | clear c21 | clear c21b0 | clear c21b1 | clear c22 | clear c24 | clear c33 | clear c34 | clear c37 | clear c37b0 | clear c37b1 | clear c37b2 | clear c38 | clear c39 | clear c41 | clear c42 | clear c45 | clear c45b0 | clear c45b1 | clear c45b2 | clear c46 | clear c48 | clear c49 | clear c51 | clear c54 | clear c57 | clear c58 | clear c61 | clear c61b0 | clear c61b1 | clear hcz13_0 | clear hcz14_0 | clear hcz14_1 | clear hcz14_2 | clear hcz14_3 | clear hcz16_0 | clear hcz25_0 | clear hcz26_0 | clear hcz26_1 | clear hcz26_2 | clear hcz26_3 | clear hcz30_0 | clear hcz30_1 | clear hcz30_2 | clear hcz30_3 | clear hcz35_0 | clear hcz35_1 | clear hcz35_2 | clear hcz35_3 | clear hcz40_0 | clear hcz40_1 | clear hcz40_2 | clear hcz40_3 | clear hcz43_0 | clear hcz43_1 | clear hcz43_2 | clear hcz43_3 | clear hcz50_0 | clear hcz50_1 | clear hcz50_2 | clear hcz50_3 | clear hcz52_0 | clear hcz52_1 | clear hcz52_2 | clear hcz52_3 | clear hcz59_0 | clear hcz59_1 | clear hcz59_2 | clear hcz59_3 | clear hfz13_0 | clear hfz14_0 | clear hfz14_1 | clear hfz14_2 | clear hfz14_3 | clear hfz16_0 | clear hfz25_0 | clear hfz26_0 | clear hfz26_1 | clear hfz26_2 | clear hfz26_3 | clear hfz30_0 | clear hfz30_1 | clear hfz30_2 | clear hfz30_3 | clear hfz35_0 | clear hfz35_1 | clear hfz35_2 | clear hfz35_3 | clear hfz40_0 | clear hfz40_1 | clear hfz40_2 | clear hfz40_3 | clear hfz43_0 | clear hfz43_1 | clear hfz43_2 | clear hfz43_3 | clear hfz50_0 | clear hfz50_1 | clear hfz50_2 | clear hfz50_3 | clear hfz52_0 | clear hfz52_1 | clear hfz52_2 | clear hfz52_3 | clear hfz59_0 | clear hfz59_1 | clear hfz59_2 | clear hfz59_3 | clear p2
             obtain ⟨kq, x89_55, rfl, HA, HJ55, HO_5, HO_416003, BK397, BK398, BK415, HB⟩ := hcut
             cases kq with
             | zero => exact absurd HA.out (by simp [spilelaw22_LotPlaces.j3])
             | succ kj55 =>
              have H := HA.out
              clear HA
              simp only [spilelaw22_LotPlaces.j3] at H
              by_cases c65 : x89_55 = true
              ·
               subst c65
               replace H : (some false) = some r := by rw [if_pos rfl] at H; exact H
               subst hr_
               exact absurd H (by simp)
              ·
               replace c65 := Bool.eq_false_iff.mpr c65
               subst c65
               replace H : (spilelaw22_LotPlaces.l0 kj55 t402 l0 (l0.length : Int) 0 l0 a1_0 a1_1 a1_2 l1_3) = some r := by rw [if_neg (show ¬ (false = true) by decide)] at H; exact H
               have H' := Aside0.mk H
               clear H
               have hnb66 := NB397_398.out
               have hnc66 := NB398_397.out
               have hnb67 := NB397_415.out
               have hnc67 := NB415_397.out
               have hcz68_0 : wc.cell? ⟨gb397, 0, none⟩ = some (.slice A0 l0.length c0) := (blk_cell BK397.out 0).trans rfl
               have hfz68_0 := blk_frozen BK397.out 0
               go_wp2
               go_loopg [92] kj55 (fun kq v92 w' => ∃ (x92_5 : Int), v92 = .int .i64 x92_5 ∧ Aside0 (spilelaw22_LotPlaces.l0 kq t402 l0 (l0.length : Int) x92_5 l0 a1_0 a1_1 a1_2 l1_3 = some r) ∧ Aside0 (kq ≤ kj55) ∧ Aside0 (Kd.N k33 33 w' w.heap.size (fun k_ => some k_ ≠ ((.slice Ao36 t411.length co36) : Value).ownBlock ∧ k_ ≠ gb397 ∧ k_ ≠ gb398 ∧ k_ ≠ gb415) (.slice Ao28 t402.length co28) t402) ∧ Aside0 (Kd.R k35 35 w' w.heap.size (fun _ => True) (.slice Ao36 t411.length co36) t411) ∧ Aside0 (w'.heap[gb397]? = some (.cells #[(.slice A0 l0.length c0)] 22 (0, 0))) ∧ Aside0 (w'.heap[gb398]? = some (.cells #[.int .i64 a1_0, .int .i64 a1_1, .int .i64 a1_2, (.slice A1_3 l1_3.length c1_3)] 33 (0, 0))) ∧ Aside0 (w'.heap[gb415]? = some (.cells #[.int .i64 t408, .int .i64 t409, .int .i64 t410, (.slice Ao36 t411.length co36)] 33 (0, 0))) ∧ Aside0 (Below w.heap.size w w'))
               case atStart => exact ⟨(0), (by first | rfl | (simp; done) | (simp [*]; done)), H', ⟨Nat.le_refl _⟩, ⟨by (with_reducible repeat (first | apply Kd.N_alloc | apply Kd.N_drewN | apply Kd.N_drew)); exact HO_5.out⟩, ⟨by (with_reducible repeat (first | apply Kd.R_alloc | apply Kd.R_drewN | apply Kd.R_drew)); exact HO_416003.out⟩, ⟨by (with_reducible repeat (first | refine blk_drewN ?_ _ | refine blk_drew ?_ | refine blk_alloc ?_ _)); exact BK397.out⟩, ⟨by (with_reducible repeat (first | refine blk_drewN ?_ _ | refine blk_drew ?_ | refine blk_alloc ?_ _)); exact BK398.out⟩, ⟨by (with_reducible repeat (first | refine blk_drewN ?_ _ | refine blk_drew ?_ | refine blk_alloc ?_ _)); exact BK415.out⟩, ⟨by repeat (first | (with_reducible first | exact HB.out | apply below_alloc | apply pw_below_drewN | apply below_drew1 | refine below_set ?_ GE397.out | refine below_set ?_ GE398.out | refine below_set ?_ GE415.out) | exact HB.out)⟩⟩
               case round =>
                clear H'
                repeat first | clear c1 | clear c2 | clear p2 | clear c3 | clear c4 | clear c5 | clear c6 | clear c10 | clear c11 | clear c12 | clear c14 | clear c15 | clear c16 | clear c17 | clear c19 | clear c19b0 | clear c19b1 | clear c21 | clear c21b0 | clear c21b1 | clear c22 | clear c24 | clear c33 | clear c34 | clear c37 | clear c37b0 | clear c37b1 | clear c37b2 | clear c38 | clear c39 | clear c41 | clear c42 | clear c45 | clear c45b0 | clear c45b1 | clear c45b2 | clear c46 | clear c48 | clear c49 | clear c51 | clear c54 | clear c57 | clear c58 | clear c61 | clear c61b0 | clear c61b1 | clear c65 | clear c66 | clear c67 | clear hcz13_0 | clear hcz14_0 | clear hcz14_1 | clear hcz14_2 | clear hcz14_3 | clear hcz16_0 | clear hcz25_0 | clear hcz26_0 | clear hcz26_1 | clear hcz26_2 | clear hcz26_3 | clear hcz30_0 | clear hcz30_1 | clear hcz30_2 | clear hcz30_3 | clear hcz35_0 | clear hcz35_1 | clear hcz35_2 | clear hcz35_3 | clear hcz40_0 | clear hcz40_1 | clear hcz40_2 | clear hcz40_3 | clear hcz43_0 | clear hcz43_1 | clear hcz43_2 | clear hcz43_3 | clear hcz50_0 | clear hcz50_1 | clear hcz50_2 | clear hcz50_3 | clear hcz52_0 | clear hcz52_1 | clear hcz52_2 | clear hcz52_3 | clear hcz59_0 | clear hcz59_1 | clear hcz59_2 | clear hcz59_3 | clear hcz68_0 | clear hfz13_0 | clear hfz14_0 | clear hfz14_1 | clear hfz14_2 | clear hfz14_3 | clear hfz16_0 | clear hfz25_0 | clear hfz26_0 | clear hfz26_1 | clear hfz26_2 | clear hfz26_3 | clear hfz30_0 | clear hfz30_1 | clear hfz30_2 | clear hfz30_3 | clear hfz35_0 | clear hfz35_1 | clear hfz35_2 | clear hfz35_3 | clear hfz40_0 | clear hfz40_1 | clear hfz40_2 | clear hfz40_3 | clear hfz43_0 | clear hfz43_1 | clear hfz43_2 | clear hfz43_3 | clear hfz50_0 | clear hfz50_1 | clear hfz50_2 | clear hfz50_3 | clear hfz52_0 | clear hfz52_1 | clear hfz52_2 | clear hfz52_3 | clear hfz59_0 | clear hfz59_1 | clear hfz59_2 | clear hfz59_3 | clear hfz68_0 | clear p2
                obtain ⟨x92_5, rfl, HA, HK5, HO_5, HO_416003, BK397, BK398, BK415, HB⟩ := hrel
                cases gk with
                | zero => exact absurd HA.out (by simp [spilelaw22_LotPlaces.l0])
                | succ k5 =>
                 have H := HA.out
                 clear HA
                 simp only [spilelaw22_LotPlaces.l0] at H
                 by_cases c69 : x92_5 < (l0.length : Int)
                 ·
                  rw [if_pos c69] at H
                  have c69b0 : decide (x92_5 < (l0.length : Int)) = true := decide_eq_true c69
                  clear c69
                  by_cases c70 : 0 ≤ x92_5
                  ·
                   rw [if_pos c70] at H
                   have c70b0 : decide (0 ≤ x92_5) = true := decide_eq_true c70
                   clear c70
                   by_cases c71 : x92_5 < (l0.length : Int)
                   ·
                    rw [if_pos c71] at H
                    have c71b0 : decide (x92_5 < (l0.length : Int)) = true := decide_eq_true c71
                    clear c71
                    replace H := Option.bind_eq_some_iff.mp H
                    obtain ⟨⟨t425, t426, t427, t428, t431⟩, A720, H⟩ := H
                    replace H : (if ((rd_T33 l0 x92_5).f0) = a1_0 then (spilelaw22_LotPlaces.l0 k5 t402 l0 (l0.length : Int) (wrap64 (x92_5 + 1)) l0 a1_0 a1_1 a1_2 l1_3) else (if t431 = true then ((spileref22_SameLot.f k5 ((rd_T33 l0 x92_5).f0) ((rd_T33 l0 x92_5).f1.f0) ((rd_T33 l0 x92_5).f1.f1) ((rd_T33 l0 x92_5).f2) t425 t426 t427 t428).bind fun t433 => (if t433 = true then (spilelaw22_LotPlaces.l0 k5 t402 l0 (l0.length : Int) (wrap64 (x92_5 + 1)) l0 a1_0 a1_1 a1_2 l1_3) else (some false))) else (some false))) = some r := H
                    have A72 := Aside0.mk A720
                    clear A720
                    by_cases c73 : ((rd_T33 l0 x92_5).f0) = a1_0
                    ·
                     rw [if_pos c73] at H
                     have c73b0 : (((rd_T33 l0 x92_5).f0) == a1_0) = true := beq_iff_eq.mpr c73
                     have c73b1 : (((rd_T33 l0 x92_5).f0) != a1_0) = false := bne_eq_false_iff_eq.mpr c73
                     clear c73
                     have H' := Aside0.mk H
                     clear H
                     have p423 : 0 ≤ (x92_5 : Int) := of_decide_eq_true (by first | (with_reducible assumption) | assumption)
                     have q423 : x92_5 < (l0.length : Int) := of_decide_eq_true (by first | (with_reducible assumption) | assumption)
                     obtain ⟨ad423, A423_3, c423_3, e423, hx423_0, hx423_1, hx423_2, hx423_3, hl423_3, hi423_3⟩ := at_T33 HR0.out x92_5 p423 q423
                     cases e423
                     replace hx423_0 := (HB.out.cell (World.block_lt_of_cell? w _ hx423_0)).trans hx423_0
                     replace hx423_1 := (HB.out.cell (World.block_lt_of_cell? w _ hx423_1)).trans hx423_1
                     replace hx423_2 := (HB.out.cell (World.block_lt_of_cell? w _ hx423_2)).trans hx423_2
                     replace hx423_3 := (HB.out.cell (World.block_lt_of_cell? w _ hx423_3)).trans hx423_3
                     have HR423_3 := Aside0.mk hi423_3
                     have HC423_3 := Aside0.mk hl423_3
                     clear hi423_3 hl423_3
                     replace p423 := eq_true p423
                     replace q423 := eq_true q423
                     go_wp2_with (first | ((with_reducible refine gate_dst (N := 15) rfl ?_); (try (refine gate_guard (by rfl) ?_; dsimp only)); refine box_event ?hg (N := 15) ?hd (cs := #[.int .i64 0, .int .i64 0, .int .i64 0, .slice none 0 0]) (t := 33) ?hr ?_; (case hd => rfl); (case hg => rfl); (case hr => first | (go_simp; done) | (go_simp; rfl)); intro gb424 hg w74 hbox hb; have n0_ := Aside0.mk (Kd.N_below (Kd.N_elderB (by (with_reducible repeat (first | apply Kd.N_alloc | apply Kd.N_drewN | apply Kd.N_drew)); exact HO_5.out) gb424 (Nat.le_of_eq hg.symm)) hb); have n1_ := Aside0.mk (Kd.R_below (by (with_reducible repeat (first | apply Kd.R_alloc | apply Kd.R_drewN | apply Kd.R_drew)); exact HO_416003.out) hb); have n2_ := Aside0.mk (blk_below (g := gb397) (o := .cells #[.slice (some ad423) l0.length c0] 22 (0, 0)) (by (with_reducible repeat (first | refine blk_drewN ?_ _ | refine blk_drew ?_ | refine blk_alloc ?_ _)); exact BK397.out) hb); have n3_ := Aside0.mk (blk_below (g := gb398) (o := .cells #[.int .i64 a1_0, .int .i64 a1_1, .int .i64 a1_2, .slice A1_3 l1_3.length c1_3] 33 (0, 0)) (by (with_reducible repeat (first | refine blk_drewN ?_ _ | refine blk_drew ?_ | refine blk_alloc ?_ _)); exact BK398.out) hb); have n4_ := Aside0.mk (blk_below (g := gb415) (o := .cells #[.int .i64 t408, .int .i64 t409, .int .i64 t410, .slice Ao36 t411.length co36] 33 (0, 0)) (by (with_reducible repeat (first | refine blk_drewN ?_ _ | refine blk_drew ?_ | refine blk_alloc ?_ _)); exact BK415.out) hb); have n5_ := Aside0.mk (below_step (by repeat (with_reducible first | exact HB.out | apply below_alloc | apply pw_below_drewN | apply below_drew1 | refine below_set ?_ GE397.out | refine below_set ?_ GE398.out | refine below_set ?_ GE415.out)) hb); have n6_ := Aside0.mk (hbox); have n7_ := Aside0.mk ((by rw [hg]; exact (below_size (by repeat (with_reducible first | exact HB.out | apply below_alloc | apply pw_below_drewN | apply below_drew1 | refine below_set ?_ GE397.out | refine below_set ?_ GE398.out | refine below_set ?_ GE415.out))) : w.heap.size ≤ gb424)); have n8_ := Aside0.mk ((by rw [hg]; exact (below_size (by repeat (with_reducible first | exact HB.out | apply below_alloc | apply pw_below_drewN | apply below_drew1 | refine below_set ?_ GE397.out | refine below_set ?_ GE398.out | refine below_set ?_ GE415.out))) : w.heap.size ≤ gb424)); have n9_ := Aside0.mk ((by rw [hg]; exact Nat.ne_of_lt (blk_lt (g := gb397) (o := .cells #[.slice (some ad423) l0.length c0] 22 (0, 0)) (by (with_reducible repeat (first | refine blk_drewN ?_ _ | refine blk_drew ?_ | refine blk_alloc ?_ _)); exact BK397.out)) : gb397 ≠ gb424)); have n10_ := Aside0.mk ((by rw [hg]; exact Nat.ne_of_gt (blk_lt (g := gb397) (o := .cells #[.slice (some ad423) l0.length c0] 22 (0, 0)) (by (with_reducible repeat (first | refine blk_drewN ?_ _ | refine blk_drew ?_ | refine blk_alloc ?_ _)); exact BK397.out)) : gb424 ≠ gb397)); have n11_ := Aside0.mk ((by rw [hg]; exact Nat.ne_of_lt (blk_lt (g := gb398) (o := .cells #[.int .i64 a1_0, .int .i64 a1_1, .int .i64 a1_2, .slice A1_3 l1_3.length c1_3] 33 (0, 0)) (by (with_reducible repeat (first | refine blk_drewN ?_ _ | refine blk_drew ?_ | refine blk_alloc ?_ _)); exact BK398.out)) : gb398 ≠ gb424)); have n12_ := Aside0.mk ((by rw [hg]; exact Nat.ne_of_gt (blk_lt (g := gb398) (o := .cells #[.int .i64 a1_0, .int .i64 a1_1, .int .i64 a1_2, .slice A1_3 l1_3.length c1_3] 33 (0, 0)) (by (with_reducible repeat (first | refine blk_drewN ?_ _ | refine blk_drew ?_ | refine blk_alloc ?_ _)); exact BK398.out)) : gb424 ≠ gb398)); have n13_ := Aside0.mk ((by rw [hg]; exact Nat.ne_of_lt (blk_lt (g := gb415) (o := .cells #[.int .i64 t408, .int .i64 t409, .int .i64 t410, .slice Ao36 t411.length co36] 33 (0, 0)) (by (with_reducible repeat (first | refine blk_drewN ?_ _ | refine blk_drew ?_ | refine blk_alloc ?_ _)); exact BK415.out)) : gb415 ≠ gb424)); have n14_ := Aside0.mk ((by rw [hg]; exact Nat.ne_of_gt (blk_lt (g := gb415) (o := .cells #[.int .i64 t408, .int .i64 t409, .int .i64 t410, .slice Ao36 t411.length co36] 33 (0, 0)) (by (with_reducible repeat (first | refine blk_drewN ?_ _ | refine blk_drew ?_ | refine blk_alloc ?_ _)); exact BK415.out)) : gb424 ≠ gb415)); clear HO_5; clear HO_416003; clear BK397; clear BK398; clear BK415; clear HB; have HO_5 := n0_; have HO_416003 := n1_; have BK397 := n2_; have BK398 := n3_; have BK415 := n4_; have HB := n5_; have BK424 := n6_; have GW424 := n7_; have GE424 := n8_; have NB397_424 := n9_; have NB424_397 := n10_; have NB398_424 := n11_; have NB424_398 := n12_; have NB415_424 := n13_; have NB424_415 := n14_; clear n0_ n1_ n2_ n3_ n4_ n5_ n6_ n7_ n8_ n9_ n10_ n11_ n12_ n13_ n14_; clear hb hbox hg; have hnb75 := NB424_397.out; have hnc75 := NB397_424.out; have hnb76 := NB424_398.out; have hnc76 := NB398_424.out; have hnb77 := NB424_415.out; have hnc77 := NB415_424.out; have hcz78_0 : w74.cell? ⟨gb424, 0, none⟩ = some (.int .i64 0) := (blk_cell BK424.out 0).trans rfl; have hcz78_1 : w74.cell? ⟨gb424, 1, none⟩ = some (.int .i64 0) := (blk_cell BK424.out 1).trans rfl; have hcz78_2 : w74.cell? ⟨gb424, 2, none⟩ = some (.int .i64 0) := (blk_cell BK424.out 2).trans rfl; have hcz78_3 : w74.cell? ⟨gb424, 3, none⟩ = some (.slice none 0 0) := (blk_cell BK424.out 3).trans rfl; have hfz78_0 := blk_frozen BK424.out 0; have hfz78_1 := blk_frozen BK424.out 1; have hfz78_2 := blk_frozen BK424.out 2; have hfz78_3 := blk_frozen BK424.out 3) | ((with_reducible refine gate_callee (f := 16) rfl ?_); refine goesL_ (some 100) rfl rfl Tryd.func16 (by kernel_rfl) rfl #[.slice Ao28 t402.length co28, .int .i64 ((rd_T33 l0 x92_5).f0)] rfl (by (try simp only [List.map_toArray, List.map_cons, List.map_nil]); first | done | rfl | (simp only [List.length_drop, List.length_take]; rfl)) ?_; (with_reducible refine (lot_Find.calls k5 _ _ t402 ((rd_T33 l0 x92_5).f0) t425 t426 t427 t428 t431 _ ?side1 ?side2 A72.out).mono ?_); (case side1 => refine (Kd.N_reads' (e := 33) (base := w.heap.size) (ok := fun k_ => ((some k_ ≠ (.slice Ao36 t411.length co36 : Value).ownBlock ∧ (k_ ≠ gb397 ∧ (k_ ≠ gb398 ∧ k_ ≠ gb415))) ∧ k_ ≠ gb424)) (n := t402.length) (c := co28) ?_).2.2; exact (by (with_reducible repeat (first | apply Kd.N_alloc | apply Kd.N_drewN | apply Kd.N_drew)); exact (Kd.N_mono (Kd.N_far (p := ⟨gb424, 3, none⟩) (Kd.N_far (p := ⟨gb424, 2, none⟩) (Kd.N_far (p := ⟨gb424, 1, none⟩) (Kd.N_far (p := ⟨gb424, 0, none⟩) (Kd.N_mono HO_5.out (fun k_ hk => (⟨hk, hk.2⟩ : _ ∧ k_ ≠ gb424))) (fun _ hk => hk.2) (.int .i64 ((rd_T33 l0 x92_5).f0))) (fun _ hk => hk.2) (.int .i64 ((rd_T33 l0 x92_5).f1.f0))) (fun _ hk => hk.2) (.int .i64 ((rd_T33 l0 x92_5).f1.f1))) (fun _ hk => hk.2) (.slice A423_3 ((rd_T33 l0 x92_5).f2).length c423_3)) (fun _ h_ => h_.1)))); (case side2 => exact (Kd.N_reads' HO_5.out).2.1); rintro e w79 ⟨v429, rfl, ho0, hb⟩; refine ⟨_, rfl, ?_⟩; have n0_ := Aside0.mk (Kd.N_elder' (by (with_reducible repeat (first | apply Kd.N_alloc | apply Kd.N_drewN | apply Kd.N_drew)); exact (Kd.N_mono (Kd.N_far (p := ⟨gb424, 3, none⟩) (Kd.N_far (p := ⟨gb424, 2, none⟩) (Kd.N_far (p := ⟨gb424, 1, none⟩) (Kd.N_far (p := ⟨gb424, 0, none⟩) (Kd.N_mono HO_5.out (fun k_ hk => (⟨hk, hk.2⟩ : _ ∧ k_ ≠ gb424))) (fun _ hk => hk.2) (.int .i64 ((rd_T33 l0 x92_5).f0))) (fun _ hk => hk.2) (.int .i64 ((rd_T33 l0 x92_5).f1.f0))) (fun _ hk => hk.2) (.int .i64 ((rd_T33 l0 x92_5).f1.f1))) (fun _ hk => hk.2) (.slice A423_3 ((rd_T33 l0 x92_5).f2).length c423_3)) (fun _ h_ => h_.1))) (Kd.R_base ho0) hb); have n1_ := Aside0.mk (Kd.R_elder' (by (with_reducible repeat (first | apply Kd.R_alloc | apply Kd.R_drewN | apply Kd.R_drew)); exact (Kd.R_mono (Kd.R_far (p := ⟨gb424, 3, none⟩) (Kd.R_far (p := ⟨gb424, 2, none⟩) (Kd.R_far (p := ⟨gb424, 1, none⟩) (Kd.R_far (p := ⟨gb424, 0, none⟩) (Kd.R_types HO_416003.out BK424.out (by decide)) (fun _ hk => hk.2) (.int .i64 ((rd_T33 l0 x92_5).f0))) (fun _ hk => hk.2) (.int .i64 ((rd_T33 l0 x92_5).f1.f0))) (fun _ hk => hk.2) (.int .i64 ((rd_T33 l0 x92_5).f1.f1))) (fun _ hk => hk.2) (.slice A423_3 ((rd_T33 l0 x92_5).f2).length c423_3)) (fun _ h_ => h_.1))) (Kd.R_base ho0) hb); have n2_ := Aside0.mk (Kd.R_lower (Kd.R_new' ho0 (Kd.R_lt (by (with_reducible repeat (first | apply Kd.R_alloc | apply Kd.R_drewN | apply Kd.R_drew)); exact (Kd.R_mono (Kd.R_far (p := ⟨gb424, 3, none⟩) (Kd.R_far (p := ⟨gb424, 2, none⟩) (Kd.R_far (p := ⟨gb424, 1, none⟩) (Kd.R_far (p := ⟨gb424, 0, none⟩) (Kd.R_types HO_416003.out BK424.out (by decide)) (fun _ hk => hk.2) (.int .i64 ((rd_T33 l0 x92_5).f0))) (fun _ hk => hk.2) (.int .i64 ((rd_T33 l0 x92_5).f1.f0))) (fun _ hk => hk.2) (.int .i64 ((rd_T33 l0 x92_5).f1.f1))) (fun _ hk => hk.2) (.slice A423_3 ((rd_T33 l0 x92_5).f2).length c423_3)) (fun _ h_ => h_.1))))) (below_size (by repeat (with_reducible first | exact HB.out | apply below_alloc | apply pw_below_drewN | apply below_drew1 | refine below_set ?_ GE397.out | refine below_set ?_ GE398.out | refine below_set ?_ GE415.out | refine below_set ?_ GE424.out)))); have n3_ := Aside0.mk (blk_below (g := gb397) (o := .cells #[.slice (some ad423) l0.length c0] 22 (0, 0)) (by (with_reducible repeat (first | refine blk_drewN ?_ _ | refine blk_drew ?_ | refine blk_alloc ?_ _)); refine blk_far ?_ NB397_424.out _; (with_reducible repeat (first | refine blk_drewN ?_ _ | refine blk_drew ?_ | refine blk_alloc ?_ _)); refine blk_far ?_ NB397_424.out _; (with_reducible repeat (first | refine blk_drewN ?_ _ | refine blk_drew ?_ | refine blk_alloc ?_ _)); refine blk_far ?_ NB397_424.out _; (with_reducible repeat (first | refine blk_drewN ?_ _ | refine blk_drew ?_ | refine blk_alloc ?_ _)); refine blk_far ?_ NB397_424.out _; (with_reducible repeat (first | refine blk_drewN ?_ _ | refine blk_drew ?_ | refine blk_alloc ?_ _)); exact BK397.out) hb); have n4_ := Aside0.mk (blk_below (g := gb398) (o := .cells #[.int .i64 a1_0, .int .i64 a1_1, .int .i64 a1_2, .slice A1_3 l1_3.length c1_3] 33 (0, 0)) (by (with_reducible repeat (first | refine blk_drewN ?_ _ | refine blk_drew ?_ | refine blk_alloc ?_ _)); refine blk_far ?_ NB398_424.out _; (with_reducible repeat (first | refine blk_drewN ?_ _ | refine blk_drew ?_ | refine blk_alloc ?_ _)); refine blk_far ?_ NB398_424.out _; (with_reducible repeat (first | refine blk_drewN ?_ _ | refine blk_drew ?_ | refine blk_alloc ?_ _)); refine blk_far ?_ NB398_424.out _; (with_reducible repeat (first | refine blk_drewN ?_ _ | refine blk_drew ?_ | refine blk_alloc ?_ _)); refine blk_far ?_ NB398_424.out _; (with_reducible repeat (first | refine blk_drewN ?_ _ | refine blk_drew ?_ | refine blk_alloc ?_ _)); exact BK398.out) hb); have n5_ := Aside0.mk (blk_below (g := gb415) (o := .cells #[.int .i64 t408, .int .i64 t409, .int .i64 t410, .slice Ao36 t411.length co36] 33 (0, 0)) (by (with_reducible repeat (first | refine blk_drewN ?_ _ | refine blk_drew ?_ | refine blk_alloc ?_ _)); refine blk_far ?_ NB415_424.out _; (with_reducible repeat (first | refine blk_drewN ?_ _ | refine blk_drew ?_ | refine blk_alloc ?_ _)); refine blk_far ?_ NB415_424.out _; (with_reducible repeat (first | refine blk_drewN ?_ _ | refine blk_drew ?_ | refine blk_alloc ?_ _)); refine blk_far ?_ NB415_424.out _; (with_reducible repeat (first | refine blk_drewN ?_ _ | refine blk_drew ?_ | refine blk_alloc ?_ _)); refine blk_far ?_ NB415_424.out _; (with_reducible repeat (first | refine blk_drewN ?_ _ | refine blk_drew ?_ | refine blk_alloc ?_ _)); exact BK415.out) hb); have n6_ := Aside0.mk (blk_below (g := gb424) (o := .cells #[.int .i64 ((rd_T33 l0 x92_5).f0), .int .i64 ((rd_T33 l0 x92_5).f1.f0), .int .i64 ((rd_T33 l0 x92_5).f1.f1), .slice A423_3 ((rd_T33 l0 x92_5).f2).length c423_3] 33 (0, 0)) (by (with_reducible repeat (first | refine blk_drewN ?_ _ | refine blk_drew ?_ | refine blk_alloc ?_ _)); refine blk_put (cs := #[.int .i64 ((rd_T33 l0 x92_5).f0), .int .i64 ((rd_T33 l0 x92_5).f1.f0), .int .i64 ((rd_T33 l0 x92_5).f1.f1), .slice none 0 0]) ?_ 3 _ rfl; (with_reducible repeat (first | refine blk_drewN ?_ _ | refine blk_drew ?_ | refine blk_alloc ?_ _)); refine blk_put (cs := #[.int .i64 ((rd_T33 l0 x92_5).f0), .int .i64 ((rd_T33 l0 x92_5).f1.f0), .int .i64 0, .slice none 0 0]) ?_ 2 _ rfl; (with_reducible repeat (first | refine blk_drewN ?_ _ | refine blk_drew ?_ | refine blk_alloc ?_ _)); refine blk_put (cs := #[.int .i64 ((rd_T33 l0 x92_5).f0), .int .i64 0, .int .i64 0, .slice none 0 0]) ?_ 1 _ rfl; (with_reducible repeat (first | refine blk_drewN ?_ _ | refine blk_drew ?_ | refine blk_alloc ?_ _)); refine blk_put (cs := #[.int .i64 0, .int .i64 0, .int .i64 0, .slice none 0 0]) ?_ 0 _ rfl; (with_reducible repeat (first | refine blk_drewN ?_ _ | refine blk_drew ?_ | refine blk_alloc ?_ _)); exact BK424.out) hb); have n7_ := Aside0.mk (below_step (by repeat (with_reducible first | exact HB.out | apply below_alloc | apply pw_below_drewN | apply below_drew1 | refine below_set ?_ GE397.out | refine below_set ?_ GE398.out | refine below_set ?_ GE415.out | refine below_set ?_ GE424.out)) hb); clear HO_5; clear HO_416003; clear BK397; clear BK398; clear BK415; clear BK424; clear HB; have HO_5 := n0_; have HO_416003 := n1_; have HO430 := n2_; have BK397 := n3_; have BK398 := n4_; have BK415 := n5_; have BK424 := n6_; have HB := n7_; clear n0_ n1_ n2_ n3_ n4_ n5_ n6_ n7_; (try clear hb); (try clear hb2); (try clear hk); (try clear hi); (try clear ho0)) | ((with_reducible refine gate_dst (N := 16) rfl ?_); (try (refine gate_guard (by rfl) ?_; dsimp only)); refine box_event ?hg (N := 16) ?hd (cs := #[.int .i64 0, .int .i64 0, .int .i64 0, .slice none 0 0]) (t := 33) ?hr ?_; (case hd => rfl); (case hg => rfl); (case hr => first | (go_simp; done) | (go_simp; rfl)); intro gb432 hg w80 hbox hb; have n0_ := Aside0.mk (Kd.N_below (Kd.N_elderB (by (with_reducible repeat (first | apply Kd.N_alloc | apply Kd.N_drewN | apply Kd.N_drew)); exact HO_5.out) gb432 (Nat.le_of_eq hg.symm)) hb); have n1_ := Aside0.mk (Kd.R_below (by (with_reducible repeat (first | apply Kd.R_alloc | apply Kd.R_drewN | apply Kd.R_drew)); exact HO_416003.out) hb); have n2_ := Aside0.mk (Kd.R_below (by (with_reducible repeat (first | apply Kd.R_alloc | apply Kd.R_drewN | apply Kd.R_drew)); exact HO430.out) hb); have n3_ := Aside0.mk (blk_below (g := gb397) (o := .cells #[.slice (some ad423) l0.length c0] 22 (0, 0)) (by (with_reducible repeat (first | refine blk_drewN ?_ _ | refine blk_drew ?_ | refine blk_alloc ?_ _)); exact BK397.out) hb); have n4_ := Aside0.mk (blk_below (g := gb398) (o := .cells #[.int .i64 a1_0, .int .i64 a1_1, .int .i64 a1_2, .slice A1_3 l1_3.length c1_3] 33 (0, 0)) (by (with_reducible repeat (first | refine blk_drewN ?_ _ | refine blk_drew ?_ | refine blk_alloc ?_ _)); exact BK398.out) hb); have n5_ := Aside0.mk (blk_below (g := gb415) (o := .cells #[.int .i64 t408, .int .i64 t409, .int .i64 t410, .slice Ao36 t411.length co36] 33 (0, 0)) (by (with_reducible repeat (first | refine blk_drewN ?_ _ | refine blk_drew ?_ | refine blk_alloc ?_ _)); exact BK415.out) hb); have n6_ := Aside0.mk (blk_below (g := gb424) (o := .cells #[.int .i64 ((rd_T33 l0 x92_5).f0), .int .i64 ((rd_T33 l0 x92_5).f1.f0), .int .i64 ((rd_T33 l0 x92_5).f1.f1), .slice A423_3 ((rd_T33 l0 x92_5).f2).length c423_3] 33 (0, 0)) (by (with_reducible repeat (first | refine blk_drewN ?_ _ | refine blk_drew ?_ | refine blk_alloc ?_ _)); exact BK424.out) hb); have n7_ := Aside0.mk (below_step (by repeat (with_reducible first | exact HB.out | apply below_alloc | apply pw_below_drewN | apply below_drew1 | refine below_set ?_ GE397.out | refine below_set ?_ GE398.out | refine below_set ?_ GE415.out | refine below_set ?_ GE424.out)) hb); have n8_ := Aside0.mk (hbox); have n9_ := Aside0.mk ((by rw [hg]; exact (below_size (by repeat (with_reducible first | exact HB.out | apply below_alloc | apply pw_below_drewN | apply below_drew1 | refine below_set ?_ GE397.out | refine below_set ?_ GE398.out | refine below_set ?_ GE415.out | refine below_set ?_ GE424.out))) : w.heap.size ≤ gb432)); have n10_ := Aside0.mk ((by rw [hg]; exact (below_size (by repeat (with_reducible first | exact HB.out | apply below_alloc | apply pw_below_drewN | apply below_drew1 | refine below_set ?_ GE397.out | refine below_set ?_ GE398.out | refine below_set ?_ GE415.out | refine below_set ?_ GE424.out))) : w.heap.size ≤ gb432)); have n11_ := Aside0.mk ((by rw [hg]; exact Nat.ne_of_lt (blk_lt (g := gb397) (o := .cells #[.slice (some ad423) l0.length c0] 22 (0, 0)) (by (with_reducible repeat (first | refine blk_drewN ?_ _ | refine blk_drew ?_ | refine blk_alloc ?_ _)); exact BK397.out)) : gb397 ≠ gb432)); have n12_ := Aside0.mk ((by rw [hg]; exact Nat.ne_of_gt (blk_lt (g := gb397) (o := .cells #[.slice (some ad423) l0.length c0] 22 (0, 0)) (by (with_reducible repeat (first | refine blk_drewN ?_ _ | refine blk_drew ?_ | refine blk_alloc ?_ _)); exact BK397.out)) : gb432 ≠ gb397)); have n13_ := Aside0.mk ((by rw [hg]; exact Nat.ne_of_lt (blk_lt (g := gb398) (o := .cells #[.int .i64 a1_0, .int .i64 a1_1, .int .i64 a1_2, .slice A1_3 l1_3.length c1_3] 33 (0, 0)) (by (with_reducible repeat (first | refine blk_drewN ?_ _ | refine blk_drew ?_ | refine blk_alloc ?_ _)); exact BK398.out)) : gb398 ≠ gb432)); have n14_ := Aside0.mk ((by rw [hg]; exact Nat.ne_of_gt (blk_lt (g := gb398) (o := .cells #[.int .i64 a1_0, .int .i64 a1_1, .int .i64 a1_2, .slice A1_3 l1_3.length c1_3] 33 (0, 0)) (by (with_reducible repeat (first | refine blk_drewN ?_ _ | refine blk_drew ?_ | refine blk_alloc ?_ _)); exact BK398.out)) : gb432 ≠ gb398)); have n15_ := Aside0.mk ((by rw [hg]; exact Nat.ne_of_lt (blk_lt (g := gb415) (o := .cells #[.int .i64 t408, .int .i64 t409, .int .i64 t410, .slice Ao36 t411.length co36] 33 (0, 0)) (by (with_reducible repeat (first | refine blk_drewN ?_ _ | refine blk_drew ?_ | refine blk_alloc ?_ _)); exact BK415.out)) : gb415 ≠ gb432)); have n16_ := Aside0.mk ((by rw [hg]; exact Nat.ne_of_gt (blk_lt (g := gb415) (o := .cells #[.int .i64 t408, .int .i64 t409, .int .i64 t410, .slice Ao36 t411.length co36] 33 (0, 0)) (by (with_reducible repeat (first | refine blk_drewN ?_ _ | refine blk_drew ?_ | refine blk_alloc ?_ _)); exact BK415.out)) : gb432 ≠ gb415)); have n17_ := Aside0.mk ((by rw [hg]; exact Nat.ne_of_lt (blk_lt (g := gb424) (o := .cells #[.int .i64 ((rd_T33 l0 x92_5).f0), .int .i64 ((rd_T33 l0 x92_5).f1.f0), .int .i64 ((rd_T33 l0 x92_5).f1.f1), .slice A423_3 ((rd_T33 l0 x92_5).f2).length c423_3] 33 (0, 0)) (by (with_reducible repeat (first | refine blk_drewN ?_ _ | refine blk_drew ?_ | refine blk_alloc ?_ _)); exact BK424.out)) : gb424 ≠ gb432)); have n18_ := Aside0.mk ((by rw [hg]; exact Nat.ne_of_gt (blk_lt (g := gb424) (o := .cells #[.int .i64 ((rd_T33 l0 x92_5).f0), .int .i64 ((rd_T33 l0 x92_5).f1.f0), .int .i64 ((rd_T33 l0 x92_5).f1.f1), .slice A423_3 ((rd_T33 l0 x92_5).f2).length c423_3] 33 (0, 0)) (by (with_reducible repeat (first | refine blk_drewN ?_ _ | refine blk_drew ?_ | refine blk_alloc ?_ _)); exact BK424.out)) : gb432 ≠ gb424)); clear HO_5; clear HO_416003; clear HO430; clear BK397; clear BK398; clear BK415; clear BK424; clear HB; have HO_5 := n0_; have HO_416003 := n1_; have HO430 := n2_; have BK397 := n3_; have BK398 := n4_; have BK415 := n5_; have BK424 := n6_; have HB := n7_; have BK432 := n8_; have GW432 := n9_; have GE432 := n10_; have NB397_432 := n11_; have NB432_397 := n12_; have NB398_432 := n13_; have NB432_398 := n14_; have NB415_432 := n15_; have NB432_415 := n16_; have NB424_432 := n17_; have NB432_424 := n18_; clear n0_ n1_ n2_ n3_ n4_ n5_ n6_ n7_ n8_ n9_ n10_ n11_ n12_ n13_ n14_ n15_ n16_ n17_ n18_; clear hb hbox hg; have hnb81 := NB432_397.out; have hnc81 := NB397_432.out; have hnb82 := NB432_398.out; have hnc82 := NB398_432.out; have hnb83 := NB432_415.out; have hnc83 := NB415_432.out; have hnb84 := NB432_424.out; have hnc84 := NB424_432.out; have hcz85_0 : w80.cell? ⟨gb432, 0, none⟩ = some (.int .i64 0) := (blk_cell BK432.out 0).trans rfl; have hcz85_1 : w80.cell? ⟨gb432, 1, none⟩ = some (.int .i64 0) := (blk_cell BK432.out 1).trans rfl; have hcz85_2 : w80.cell? ⟨gb432, 2, none⟩ = some (.int .i64 0) := (blk_cell BK432.out 2).trans rfl; have hcz85_3 : w80.cell? ⟨gb432, 3, none⟩ = some (.slice none 0 0) := (blk_cell BK432.out 3).trans rfl; have hfz85_0 := blk_frozen BK432.out 0; have hfz85_1 := blk_frozen BK432.out 1; have hfz85_2 := blk_frozen BK432.out 2; have hfz85_3 := blk_frozen BK432.out 3; obtain ⟨Ao86, co86, eo86⟩ := Kd.R_slice HO430.out; subst eo86; have hcz87_0 : w80.cell? ⟨gb424, 0, none⟩ = some (.int .i64 ((rd_T33 l0 x92_5).f0)) := (blk_cell BK424.out 0).trans rfl; have hcz87_1 : w80.cell? ⟨gb424, 1, none⟩ = some (.int .i64 ((rd_T33 l0 x92_5).f1.f0)) := (blk_cell BK424.out 1).trans rfl; have hcz87_2 : w80.cell? ⟨gb424, 2, none⟩ = some (.int .i64 ((rd_T33 l0 x92_5).f1.f1)) := (blk_cell BK424.out 2).trans rfl; have hcz87_3 : w80.cell? ⟨gb424, 3, none⟩ = some (.slice A423_3 ((rd_T33 l0 x92_5).f2).length c423_3) := (blk_cell BK424.out 3).trans rfl; have hfz87_0 := blk_frozen BK424.out 0; have hfz87_1 := blk_frozen BK424.out 1; have hfz87_2 := blk_frozen BK424.out 2; have hfz87_3 := blk_frozen BK424.out 3; have hnb88 := NB398_397.out; have hnc88 := NB397_398.out; have hnb89 := NB398_415.out; have hnc89 := NB415_398.out; have hcz90_0 : w80.cell? ⟨gb398, 0, none⟩ = some (.int .i64 a1_0) := (blk_cell BK398.out 0).trans rfl; have hcz90_1 : w80.cell? ⟨gb398, 1, none⟩ = some (.int .i64 a1_1) := (blk_cell BK398.out 1).trans rfl; have hcz90_2 : w80.cell? ⟨gb398, 2, none⟩ = some (.int .i64 a1_2) := (blk_cell BK398.out 2).trans rfl; have hcz90_3 : w80.cell? ⟨gb398, 3, none⟩ = some (.slice A1_3 l1_3.length c1_3) := (blk_cell BK398.out 3).trans rfl; have hfz90_0 := blk_frozen BK398.out 0; have hfz90_1 := blk_frozen BK398.out 1; have hfz90_2 := blk_frozen BK398.out 2; have hfz90_3 := blk_frozen BK398.out 3))
                     go_roundg k5
                     case measure => have := HJ4.out; have := HJ22.out; have := HJ43.out; have := HJ55.out; have := HK5.out; omega
                     case rel => exact ⟨(wrap64 (x92_5 + 1)), (by first | rfl | (simp; done) | (simp [*]; done)), H', ⟨by have := HJ4.out; have := HJ22.out; have := HJ43.out; have := HJ55.out; have := HK5.out; omega⟩, ⟨by (with_reducible repeat (first | apply Kd.N_alloc | apply Kd.N_drewN | apply Kd.N_drew)); exact Kd.N_mono (Kd.N_far (p := ⟨gb432, 3, none⟩) (Kd.N_far (p := ⟨gb432, 2, none⟩) (Kd.N_far (p := ⟨gb432, 1, none⟩) (Kd.N_far (p := ⟨gb432, 0, none⟩) (Kd.N_mono HO_5.out (fun k_ hk => (⟨hk, hk.2⟩ : _ ∧ k_ ≠ gb432))) (fun _ hk => hk.2) (.int .i64 t425)) (fun _ hk => hk.2) (.int .i64 t426)) (fun _ hk => hk.2) (.int .i64 t427)) (fun _ hk => hk.2) (.slice Ao86 t428.length co86)) (fun _ hk => ⟨hk.1.1.1.1.1, ⟨hk.1.1.1.1.2.1, ⟨hk.1.1.1.1.2.2.1, hk.1.1.1.1.2.2.2⟩⟩⟩)⟩, ⟨by (with_reducible repeat (first | apply Kd.R_alloc | apply Kd.R_drewN | apply Kd.R_drew)); exact Kd.R_mono (Kd.R_far (p := ⟨gb432, 3, none⟩) (Kd.R_far (p := ⟨gb432, 2, none⟩) (Kd.R_far (p := ⟨gb432, 1, none⟩) (Kd.R_far (p := ⟨gb432, 0, none⟩) (Kd.R_types HO_416003.out BK432.out (by decide)) (fun _ hk => hk.2) (.int .i64 t425)) (fun _ hk => hk.2) (.int .i64 t426)) (fun _ hk => hk.2) (.int .i64 t427)) (fun _ hk => hk.2) (.slice Ao86 t428.length co86)) (fun _ hk => trivial)⟩, ⟨by (with_reducible repeat (first | refine blk_drewN ?_ _ | refine blk_drew ?_ | refine blk_alloc ?_ _)); refine blk_far ?_ NB397_432.out _; (with_reducible repeat (first | refine blk_drewN ?_ _ | refine blk_drew ?_ | refine blk_alloc ?_ _)); refine blk_far ?_ NB397_432.out _; (with_reducible repeat (first | refine blk_drewN ?_ _ | refine blk_drew ?_ | refine blk_alloc ?_ _)); refine blk_far ?_ NB397_432.out _; (with_reducible repeat (first | refine blk_drewN ?_ _ | refine blk_drew ?_ | refine blk_alloc ?_ _)); refine blk_far ?_ NB397_432.out _; (with_reducible repeat (first | refine blk_drewN ?_ _ | refine blk_drew ?_ | refine blk_alloc ?_ _)); exact BK397.out⟩, ⟨by (with_reducible repeat (first | refine blk_drewN ?_ _ | refine blk_drew ?_ | refine blk_alloc ?_ _)); refine blk_far ?_ NB398_432.out _; (with_reducible repeat (first | refine blk_drewN ?_ _ | refine blk_drew ?_ | refine blk_alloc ?_ _)); refine blk_far ?_ NB398_432.out _; (with_reducible repeat (first | refine blk_drewN ?_ _ | refine blk_drew ?_ | refine blk_alloc ?_ _)); refine blk_far ?_ NB398_432.out _; (with_reducible repeat (first | refine blk_drewN ?_ _ | refine blk_drew ?_ | refine blk_alloc ?_ _)); refine blk_far ?_ NB398_432.out _; (with_reducible repeat (first | refine blk_drewN ?_ _ | refine blk_drew ?_ | refine blk_alloc ?_ _)); exact BK398.out⟩, ⟨by (with_reducible repeat (first | refine blk_drewN ?_ _ | refine blk_drew ?_ | refine blk_alloc ?_ _)); refine blk_far ?_ NB415_432.out _; (with_reducible repeat (first | refine blk_drewN ?_ _ | refine blk_drew ?_ | refine blk_alloc ?_ _)); refine blk_far ?_ NB415_432.out _; (with_reducible repeat (first | refine blk_drewN ?_ _ | refine blk_drew ?_ | refine blk_alloc ?_ _)); refine blk_far ?_ NB415_432.out _; (with_reducible repeat (first | refine blk_drewN ?_ _ | refine blk_drew ?_ | refine blk_alloc ?_ _)); refine blk_far ?_ NB415_432.out _; (with_reducible repeat (first | refine blk_drewN ?_ _ | refine blk_drew ?_ | refine blk_alloc ?_ _)); exact BK415.out⟩, ⟨by repeat (first | (with_reducible first | exact HB.out | apply below_alloc | apply pw_below_drewN | apply below_drew1 | refine below_set ?_ GE397.out | refine below_set ?_ GE398.out | refine below_set ?_ GE415.out | refine below_set ?_ GE424.out | refine below_set ?_ GE432.out) | exact HB.out)⟩⟩
                    ·
                     rw [if_neg c73] at H
                     have c73b0 : (((rd_T33 l0 x92_5).f0) == a1_0) = false := beq_eq_false_iff_ne.mpr c73
                     have c73b1 : (((rd_T33 l0 x92_5).f0) != a1_0) = true := bne_iff_ne.mpr c73
                     by_cases c91 : t431 = true
                     ·
                      subst c91
                      replace H : ((spileref22_SameLot.f k5 ((rd_T33 l0 x92_5).f0) ((rd_T33 l0 x92_5).f1.f0) ((rd_T33 l0 x92_5).f1.f1) ((rd_T33 l0 x92_5).f2) t425 t426 t427 t428).bind fun t433 => (if t433 = true then (spilelaw22_LotPlaces.l0 k5 t402 l0 (l0.length : Int) (wrap64 (x92_5 + 1)) l0 a1_0 a1_1 a1_2 l1_3) else (some false))) = some r := by rw [if_pos rfl] at H; exact H
                      replace H := Option.bind_eq_some_iff.mp H
                      obtain ⟨t433, A920, H⟩ := H
                      replace H : (if t433 = true then (spilelaw22_LotPlaces.l0 k5 t402 l0 (l0.length : Int) (wrap64 (x92_5 + 1)) l0 a1_0 a1_1 a1_2 l1_3) else (some false)) = some r := H
                      have A92 := Aside0.mk A920
                      clear A920
                      by_cases c93 : t433 = true
                      ·
                       subst c93
                       replace H : (spilelaw22_LotPlaces.l0 k5 t402 l0 (l0.length : Int) (wrap64 (x92_5 + 1)) l0 a1_0 a1_1 a1_2 l1_3) = some r := by rw [if_pos rfl] at H; exact H
                       have H' := Aside0.mk H
                       clear H
                       have p423 : 0 ≤ (x92_5 : Int) := of_decide_eq_true (by first | (with_reducible assumption) | assumption)
                       have q423 : x92_5 < (l0.length : Int) := of_decide_eq_true (by first | (with_reducible assumption) | assumption)
                       obtain ⟨ad423, A423_3, c423_3, e423, hx423_0, hx423_1, hx423_2, hx423_3, hl423_3, hi423_3⟩ := at_T33 HR0.out x92_5 p423 q423
                       cases e423
                       replace hx423_0 := (HB.out.cell (World.block_lt_of_cell? w _ hx423_0)).trans hx423_0
                       replace hx423_1 := (HB.out.cell (World.block_lt_of_cell? w _ hx423_1)).trans hx423_1
                       replace hx423_2 := (HB.out.cell (World.block_lt_of_cell? w _ hx423_2)).trans hx423_2
                       replace hx423_3 := (HB.out.cell (World.block_lt_of_cell? w _ hx423_3)).trans hx423_3
                       have HR423_3 := Aside0.mk hi423_3
                       have HC423_3 := Aside0.mk hl423_3
                       clear hi423_3 hl423_3
                       replace p423 := eq_true p423
                       replace q423 := eq_true q423
                       go_wp2_with (first | ((with_reducible refine gate_dst (N := 15) rfl ?_); (try (refine gate_guard (by rfl) ?_; dsimp only)); refine box_event ?hg (N := 15) ?hd (cs := #[.int .i64 0, .int .i64 0, .int .i64 0, .slice none 0 0]) (t := 33) ?hr ?_; (case hd => rfl); (case hg => rfl); (case hr => first | (go_simp; done) | (go_simp; rfl)); intro gb424 hg w94 hbox hb; have n0_ := Aside0.mk (Kd.N_below (Kd.N_elderB (by (with_reducible repeat (first | apply Kd.N_alloc | apply Kd.N_drewN | apply Kd.N_drew)); exact HO_5.out) gb424 (Nat.le_of_eq hg.symm)) hb); have n1_ := Aside0.mk (Kd.R_below (by (with_reducible repeat (first | apply Kd.R_alloc | apply Kd.R_drewN | apply Kd.R_drew)); exact HO_416003.out) hb); have n2_ := Aside0.mk (blk_below (g := gb397) (o := .cells #[.slice (some ad423) l0.length c0] 22 (0, 0)) (by (with_reducible repeat (first | refine blk_drewN ?_ _ | refine blk_drew ?_ | refine blk_alloc ?_ _)); exact BK397.out) hb); have n3_ := Aside0.mk (blk_below (g := gb398) (o := .cells #[.int .i64 a1_0, .int .i64 a1_1, .int .i64 a1_2, .slice A1_3 l1_3.length c1_3] 33 (0, 0)) (by (with_reducible repeat (first | refine blk_drewN ?_ _ | refine blk_drew ?_ | refine blk_alloc ?_ _)); exact BK398.out) hb); have n4_ := Aside0.mk (blk_below (g := gb415) (o := .cells #[.int .i64 t408, .int .i64 t409, .int .i64 t410, .slice Ao36 t411.length co36] 33 (0, 0)) (by (with_reducible repeat (first | refine blk_drewN ?_ _ | refine blk_drew ?_ | refine blk_alloc ?_ _)); exact BK415.out) hb); have n5_ := Aside0.mk (below_step (by repeat (with_reducible first | exact HB.out | apply below_alloc | apply pw_below_drewN | apply below_drew1 | refine below_set ?_ GE397.out | refine below_set ?_ GE398.out | refine below_set ?_ GE415.out)) hb); have n6_ := Aside0.mk (hbox); have n7_ := Aside0.mk ((by rw [hg]; exact (below_size (by repeat (with_reducible first | exact HB.out | apply below_alloc | apply pw_below_drewN | apply below_drew1 | refine below_set ?_ GE397.out | refine below_set ?_ GE398.out | refine below_set ?_ GE415.out))) : w.heap.size ≤ gb424)); have n8_ := Aside0.mk ((by rw [hg]; exact (below_size (by repeat (with_reducible first | exact HB.out | apply below_alloc | apply pw_below_drewN | apply below_drew1 | refine below_set ?_ GE397.out | refine below_set ?_ GE398.out | refine below_set ?_ GE415.out))) : w.heap.size ≤ gb424)); have n9_ := Aside0.mk ((by rw [hg]; exact Nat.ne_of_lt (blk_lt (g := gb397) (o := .cells #[.slice (some ad423) l0.length c0] 22 (0, 0)) (by (with_reducible repeat (first | refine blk_drewN ?_ _ | refine blk_drew ?_ | refine blk_alloc ?_ _)); exact BK397.out)) : gb397 ≠ gb424)); have n10_ := Aside0.mk ((by rw [hg]; exact Nat.ne_of_gt (blk_lt (g := gb397) (o := .cells #[.slice (some ad423) l0.length c0] 22 (0, 0)) (by (with_reducible repeat (first | refine blk_drewN ?_ _ | refine blk_drew ?_ | refine blk_alloc ?_ _)); exact BK397.out)) : gb424 ≠ gb397)); have n11_ := Aside0.mk ((by rw [hg]; exact Nat.ne_of_lt (blk_lt (g := gb398) (o := .cells #[.int .i64 a1_0, .int .i64 a1_1, .int .i64 a1_2, .slice A1_3 l1_3.length c1_3] 33 (0, 0)) (by (with_reducible repeat (first | refine blk_drewN ?_ _ | refine blk_drew ?_ | refine blk_alloc ?_ _)); exact BK398.out)) : gb398 ≠ gb424)); have n12_ := Aside0.mk ((by rw [hg]; exact Nat.ne_of_gt (blk_lt (g := gb398) (o := .cells #[.int .i64 a1_0, .int .i64 a1_1, .int .i64 a1_2, .slice A1_3 l1_3.length c1_3] 33 (0, 0)) (by (with_reducible repeat (first | refine blk_drewN ?_ _ | refine blk_drew ?_ | refine blk_alloc ?_ _)); exact BK398.out)) : gb424 ≠ gb398)); have n13_ := Aside0.mk ((by rw [hg]; exact Nat.ne_of_lt (blk_lt (g := gb415) (o := .cells #[.int .i64 t408, .int .i64 t409, .int .i64 t410, .slice Ao36 t411.length co36] 33 (0, 0)) (by (with_reducible repeat (first | refine blk_drewN ?_ _ | refine blk_drew ?_ | refine blk_alloc ?_ _)); exact BK415.out)) : gb415 ≠ gb424)); have n14_ := Aside0.mk ((by rw [hg]; exact Nat.ne_of_gt (blk_lt (g := gb415) (o := .cells #[.int .i64 t408, .int .i64 t409, .int .i64 t410, .slice Ao36 t411.length co36] 33 (0, 0)) (by (with_reducible repeat (first | refine blk_drewN ?_ _ | refine blk_drew ?_ | refine blk_alloc ?_ _)); exact BK415.out)) : gb424 ≠ gb415)); clear HO_5; clear HO_416003; clear BK397; clear BK398; clear BK415; clear HB; have HO_5 := n0_; have HO_416003 := n1_; have BK397 := n2_; have BK398 := n3_; have BK415 := n4_; have HB := n5_; have BK424 := n6_; have GW424 := n7_; have GE424 := n8_; have NB397_424 := n9_; have NB424_397 := n10_; have NB398_424 := n11_; have NB424_398 := n12_; have NB415_424 := n13_; have NB424_415 := n14_; clear n0_ n1_ n2_ n3_ n4_ n5_ n6_ n7_ n8_ n9_ n10_ n11_ n12_ n13_ n14_; clear hb hbox hg; have hnb95 := NB424_397.out; have hnc95 := NB397_424.out; have hnb96 := NB424_398.out; have hnc96 := NB398_424.out; have hnb97 := NB424_415.out; have hnc97 := NB415_424.out; have hcz98_0 : w94.cell? ⟨gb424, 0, none⟩ = some (.int .i64 0) := (blk_cell BK424.out 0).trans rfl; have hcz98_1 : w94.cell? ⟨gb424, 1, none⟩ = some (.int .i64 0) := (blk_cell BK424.out 1).trans rfl; have hcz98_2 : w94.cell? ⟨gb424, 2, none⟩ = some (.int .i64 0) := (blk_cell BK424.out 2).trans rfl; have hcz98_3 : w94.cell? ⟨gb424, 3, none⟩ = some (.slice none 0 0) := (blk_cell BK424.out 3).trans rfl; have hfz98_0 := blk_frozen BK424.out 0; have hfz98_1 := blk_frozen BK424.out 1; have hfz98_2 := blk_frozen BK424.out 2; have hfz98_3 := blk_frozen BK424.out 3) | ((with_reducible refine gate_callee (f := 16) rfl ?_); refine goesL_ (some 100) rfl rfl Tryd.func16 (by kernel_rfl) rfl #[.slice Ao28 t402.length co28, .int .i64 ((rd_T33 l0 x92_5).f0)] rfl (by (try simp only [List.map_toArray, List.map_cons, List.map_nil]); first | done | rfl | (simp only [List.length_drop, List.length_take]; rfl)) ?_; (with_reducible refine (lot_Find.calls k5 _ _ t402 ((rd_T33 l0 x92_5).f0) t425 t426 t427 t428 true _ ?side1 ?side2 A72.out).mono ?_); (case side1 => refine (Kd.N_reads' (e := 33) (base := w.heap.size) (ok := fun k_ => ((some k_ ≠ (.slice Ao36 t411.length co36 : Value).ownBlock ∧ (k_ ≠ gb397 ∧ (k_ ≠ gb398 ∧ k_ ≠ gb415))) ∧ k_ ≠ gb424)) (n := t402.length) (c := co28) ?_).2.2; exact (by (with_reducible repeat (first | apply Kd.N_alloc | apply Kd.N_drewN | apply Kd.N_drew)); exact (Kd.N_mono (Kd.N_far (p := ⟨gb424, 3, none⟩) (Kd.N_far (p := ⟨gb424, 2, none⟩) (Kd.N_far (p := ⟨gb424, 1, none⟩) (Kd.N_far (p := ⟨gb424, 0, none⟩) (Kd.N_mono HO_5.out (fun k_ hk => (⟨hk, hk.2⟩ : _ ∧ k_ ≠ gb424))) (fun _ hk => hk.2) (.int .i64 ((rd_T33 l0 x92_5).f0))) (fun _ hk => hk.2) (.int .i64 ((rd_T33 l0 x92_5).f1.f0))) (fun _ hk => hk.2) (.int .i64 ((rd_T33 l0 x92_5).f1.f1))) (fun _ hk => hk.2) (.slice A423_3 ((rd_T33 l0 x92_5).f2).length c423_3)) (fun _ h_ => h_.1)))); (case side2 => exact (Kd.N_reads' HO_5.out).2.1); rintro e w99 ⟨v429, rfl, ho0, hb⟩; refine ⟨_, rfl, ?_⟩; have n0_ := Aside0.mk (Kd.N_elder' (by (with_reducible repeat (first | apply Kd.N_alloc | apply Kd.N_drewN | apply Kd.N_drew)); exact (Kd.N_mono (Kd.N_far (p := ⟨gb424, 3, none⟩) (Kd.N_far (p := ⟨gb424, 2, none⟩) (Kd.N_far (p := ⟨gb424, 1, none⟩) (Kd.N_far (p := ⟨gb424, 0, none⟩) (Kd.N_mono HO_5.out (fun k_ hk => (⟨hk, hk.2⟩ : _ ∧ k_ ≠ gb424))) (fun _ hk => hk.2) (.int .i64 ((rd_T33 l0 x92_5).f0))) (fun _ hk => hk.2) (.int .i64 ((rd_T33 l0 x92_5).f1.f0))) (fun _ hk => hk.2) (.int .i64 ((rd_T33 l0 x92_5).f1.f1))) (fun _ hk => hk.2) (.slice A423_3 ((rd_T33 l0 x92_5).f2).length c423_3)) (fun _ h_ => h_.1))) (Kd.R_base ho0) hb); have n1_ := Aside0.mk (Kd.R_elder' (by (with_reducible repeat (first | apply Kd.R_alloc | apply Kd.R_drewN | apply Kd.R_drew)); exact (Kd.R_mono (Kd.R_far (p := ⟨gb424, 3, none⟩) (Kd.R_far (p := ⟨gb424, 2, none⟩) (Kd.R_far (p := ⟨gb424, 1, none⟩) (Kd.R_far (p := ⟨gb424, 0, none⟩) (Kd.R_types HO_416003.out BK424.out (by decide)) (fun _ hk => hk.2) (.int .i64 ((rd_T33 l0 x92_5).f0))) (fun _ hk => hk.2) (.int .i64 ((rd_T33 l0 x92_5).f1.f0))) (fun _ hk => hk.2) (.int .i64 ((rd_T33 l0 x92_5).f1.f1))) (fun _ hk => hk.2) (.slice A423_3 ((rd_T33 l0 x92_5).f2).length c423_3)) (fun _ h_ => h_.1))) (Kd.R_base ho0) hb); have n2_ := Aside0.mk (Kd.R_lower (Kd.R_new' ho0 (Kd.R_lt (by (with_reducible repeat (first | apply Kd.R_alloc | apply Kd.R_drewN | apply Kd.R_drew)); exact (Kd.R_mono (Kd.R_far (p := ⟨gb424, 3, none⟩) (Kd.R_far (p := ⟨gb424, 2, none⟩) (Kd.R_far (p := ⟨gb424, 1, none⟩) (Kd.R_far (p := ⟨gb424, 0, none⟩) (Kd.R_types HO_416003.out BK424.out (by decide)) (fun _ hk => hk.2) (.int .i64 ((rd_T33 l0 x92_5).f0))) (fun _ hk => hk.2) (.int .i64 ((rd_T33 l0 x92_5).f1.f0))) (fun _ hk => hk.2) (.int .i64 ((rd_T33 l0 x92_5).f1.f1))) (fun _ hk => hk.2) (.slice A423_3 ((rd_T33 l0 x92_5).f2).length c423_3)) (fun _ h_ => h_.1))))) (below_size (by repeat (with_reducible first | exact HB.out | apply below_alloc | apply pw_below_drewN | apply below_drew1 | refine below_set ?_ GE397.out | refine below_set ?_ GE398.out | refine below_set ?_ GE415.out | refine below_set ?_ GE424.out)))); have n3_ := Aside0.mk (blk_below (g := gb397) (o := .cells #[.slice (some ad423) l0.length c0] 22 (0, 0)) (by (with_reducible repeat (first | refine blk_drewN ?_ _ | refine blk_drew ?_ | refine blk_alloc ?_ _)); refine blk_far ?_ NB397_424.out _; (with_reducible repeat (first | refine blk_drewN ?_ _ | refine blk_drew ?_ | refine blk_alloc ?_ _)); refine blk_far ?_ NB397_424.out _; (with_reducible repeat (first | refine blk_drewN ?_ _ | refine blk_drew ?_ | refine blk_alloc ?_ _)); refine blk_far ?_ NB397_424.out _; (with_reducible repeat (first | refine blk_drewN ?_ _ | refine blk_drew ?_ | refine blk_alloc ?_ _)); refine blk_far ?_ NB397_424.out _; (with_reducible repeat (first | refine blk_drewN ?_ _ | refine blk_drew ?_ | refine blk_alloc ?_ _)); exact BK397.out) hb); have n4_ := Aside0.mk (blk_below (g := gb398) (o := .cells #[.int .i64 a1_0, .int .i64 a1_1, .int .i64 a1_2, .slice A1_3 l1_3.length c1_3] 33 (0, 0)) (by (with_reducible repeat (first | refine blk_drewN ?_ _ | refine blk_drew ?_ | refine blk_alloc ?_ _)); refine blk_far ?_ NB398_424.out _; (with_reducible repeat (first | refine blk_drewN ?_ _ | refine blk_drew ?_ | refine blk_alloc ?_ _)); refine blk_far ?_ NB398_424.out _; (with_reducible repeat (first | refine blk_drewN ?_ _ | refine blk_drew ?_ | refine blk_alloc ?_ _)); refine blk_far ?_ NB398_424.out _; (with_reducible repeat (first | refine blk_drewN ?_ _ | refine blk_drew ?_ | refine blk_alloc ?_ _)); refine blk_far ?_ NB398_424.out _; (with_reducible repeat (first | refine blk_drewN ?_ _ | refine blk_drew ?_ | refine blk_alloc ?_ _)); exact BK398.out) hb); have n5_ := Aside0.mk (blk_below (g := gb415) (o := .cells #[.int .i64 t408, .int .i64 t409, .int .i64 t410, .slice Ao36 t411.length co36] 33 (0, 0)) (by (with_reducible repeat (first | refine blk_drewN ?_ _ | refine blk_drew ?_ | refine blk_alloc ?_ _)); refine blk_far ?_ NB415_424.out _; (with_reducible repeat (first | refine blk_drewN ?_ _ | refine blk_drew ?_ | refine blk_alloc ?_ _)); refine blk_far ?_ NB415_424.out _; (with_reducible repeat (first | refine blk_drewN ?_ _ | refine blk_drew ?_ | refine blk_alloc ?_ _)); refine blk_far ?_ NB415_424.out _; (with_reducible repeat (first | refine blk_drewN ?_ _ | refine blk_drew ?_ | refine blk_alloc ?_ _)); refine blk_far ?_ NB415_424.out _; (with_reducible repeat (first | refine blk_drewN ?_ _ | refine blk_drew ?_ | refine blk_alloc ?_ _)); exact BK415.out) hb); have n6_ := Aside0.mk (blk_below (g := gb424) (o := .cells #[.int .i64 ((rd_T33 l0 x92_5).f0), .int .i64 ((rd_T33 l0 x92_5).f1.f0), .int .i64 ((rd_T33 l0 x92_5).f1.f1), .slice A423_3 ((rd_T33 l0 x92_5).f2).length c423_3] 33 (0, 0)) (by (with_reducible repeat (first | refine blk_drewN ?_ _ | refine blk_drew ?_ | refine blk_alloc ?_ _)); refine blk_put (cs := #[.int .i64 ((rd_T33 l0 x92_5).f0), .int .i64 ((rd_T33 l0 x92_5).f1.f0), .int .i64 ((rd_T33 l0 x92_5).f1.f1), .slice none 0 0]) ?_ 3 _ rfl; (with_reducible repeat (first | refine blk_drewN ?_ _ | refine blk_drew ?_ | refine blk_alloc ?_ _)); refine blk_put (cs := #[.int .i64 ((rd_T33 l0 x92_5).f0), .int .i64 ((rd_T33 l0 x92_5).f1.f0), .int .i64 0, .slice none 0 0]) ?_ 2 _ rfl; (with_reducible repeat (first | refine blk_drewN ?_ _ | refine blk_drew ?_ | refine blk_alloc ?_ _)); refine blk_put (cs := #[.int .i64 ((rd_T33 l0 x92_5).f0), .int .i64 0, .int .i64 0, .slice none 0 0]) ?_ 1 _ rfl; (with_reducible repeat (first | refine blk_drewN ?_ _ | refine blk_drew ?_ | refine blk_alloc ?_ _)); refine blk_put (cs := #[.int .i64 0, .int .i64 0, .int .i64 0, .slice none 0 0]) ?_ 0 _ rfl; (with_reducible repeat (first | refine blk_drewN ?_ _ | refine blk_drew ?_ | refine blk_alloc ?_ _)); exact BK424.out) hb); have n7_ := Aside0.mk (below_step (by repeat (with_reducible first | exact HB.out | apply below_alloc | apply pw_below_drewN | apply below_drew1 | refine below_set ?_ GE397.out | refine below_set ?_ GE398.out | refine below_set ?_ GE415.out | refine below_set ?_ GE424.out)) hb); clear HO_5; clear HO_416003; clear BK397; clear BK398; clear BK415; clear BK424; clear HB; have HO_5 := n0_; have HO_416003 := n1_; have HO430 := n2_; have BK397 := n3_; have BK398 := n4_; have BK415 := n5_; have BK424 := n6_; have HB := n7_; clear n0_ n1_ n2_ n3_ n4_ n5_ n6_ n7_; (try clear hb); (try clear hb2); (try clear hk); (try clear hi); (try clear ho0)) | ((with_reducible refine gate_dst (N := 16) rfl ?_); (try (refine gate_guard (by rfl) ?_; dsimp only)); refine box_event ?hg (N := 16) ?hd (cs := #[.int .i64 0, .int .i64 0, .int .i64 0, .slice none 0 0]) (t := 33) ?hr ?_; (case hd => rfl); (case hg => rfl); (case hr => first | (go_simp; done) | (go_simp; rfl)); intro gb432 hg w100 hbox hb; have n0_ := Aside0.mk (Kd.N_below (Kd.N_elderB (by (with_reducible repeat (first | apply Kd.N_alloc | apply Kd.N_drewN | apply Kd.N_drew)); exact HO_5.out) gb432 (Nat.le_of_eq hg.symm)) hb); have n1_ := Aside0.mk (Kd.R_below (by (with_reducible repeat (first | apply Kd.R_alloc | apply Kd.R_drewN | apply Kd.R_drew)); exact HO_416003.out) hb); have n2_ := Aside0.mk (Kd.R_below (by (with_reducible repeat (first | apply Kd.R_alloc | apply Kd.R_drewN | apply Kd.R_drew)); exact HO430.out) hb); have n3_ := Aside0.mk (blk_below (g := gb397) (o := .cells #[.slice (some ad423) l0.length c0] 22 (0, 0)) (by (with_reducible repeat (first | refine blk_drewN ?_ _ | refine blk_drew ?_ | refine blk_alloc ?_ _)); exact BK397.out) hb); have n4_ := Aside0.mk (blk_below (g := gb398) (o := .cells #[.int .i64 a1_0, .int .i64 a1_1, .int .i64 a1_2, .slice A1_3 l1_3.length c1_3] 33 (0, 0)) (by (with_reducible repeat (first | refine blk_drewN ?_ _ | refine blk_drew ?_ | refine blk_alloc ?_ _)); exact BK398.out) hb); have n5_ := Aside0.mk (blk_below (g := gb415) (o := .cells #[.int .i64 t408, .int .i64 t409, .int .i64 t410, .slice Ao36 t411.length co36] 33 (0, 0)) (by (with_reducible repeat (first | refine blk_drewN ?_ _ | refine blk_drew ?_ | refine blk_alloc ?_ _)); exact BK415.out) hb); have n6_ := Aside0.mk (blk_below (g := gb424) (o := .cells #[.int .i64 ((rd_T33 l0 x92_5).f0), .int .i64 ((rd_T33 l0 x92_5).f1.f0), .int .i64 ((rd_T33 l0 x92_5).f1.f1), .slice A423_3 ((rd_T33 l0 x92_5).f2).length c423_3] 33 (0, 0)) (by (with_reducible repeat (first | refine blk_drewN ?_ _ | refine blk_drew ?_ | refine blk_alloc ?_ _)); exact BK424.out) hb); have n7_ := Aside0.mk (below_step (by repeat (with_reducible first | exact HB.out | apply below_alloc | apply pw_below_drewN | apply below_drew1 | refine below_set ?_ GE397.out | refine below_set ?_ GE398.out | refine below_set ?_ GE415.out | refine below_set ?_ GE424.out)) hb); have n8_ := Aside0.mk (hbox); have n9_ := Aside0.mk ((by rw [hg]; exact (below_size (by repeat (with_reducible first | exact HB.out | apply below_alloc | apply pw_below_drewN | apply below_drew1 | refine below_set ?_ GE397.out | refine below_set ?_ GE398.out | refine below_set ?_ GE415.out | refine below_set ?_ GE424.out))) : w.heap.size ≤ gb432)); have n10_ := Aside0.mk ((by rw [hg]; exact (below_size (by repeat (with_reducible first | exact HB.out | apply below_alloc | apply pw_below_drewN | apply below_drew1 | refine below_set ?_ GE397.out | refine below_set ?_ GE398.out | refine below_set ?_ GE415.out | refine below_set ?_ GE424.out))) : w.heap.size ≤ gb432)); have n11_ := Aside0.mk ((by rw [hg]; exact Nat.ne_of_lt (blk_lt (g := gb397) (o := .cells #[.slice (some ad423) l0.length c0] 22 (0, 0)) (by (with_reducible repeat (first | refine blk_drewN ?_ _ | refine blk_drew ?_ | refine blk_alloc ?_ _)); exact BK397.out)) : gb397 ≠ gb432)); have n12_ := Aside0.mk ((by rw [hg]; exact Nat.ne_of_gt (blk_lt (g := gb397) (o := .cells #[.slice (some ad423) l0.length c0] 22 (0, 0)) (by (with_reducible repeat (first | refine blk_drewN ?_ _ | refine blk_drew ?_ | refine blk_alloc ?_ _)); exact BK397.out)) : gb432 ≠ gb397)); have n13_ := Aside0.mk ((by rw [hg]; exact Nat.ne_of_lt (blk_lt (g := gb398) (o := .cells #[.int .i64 a1_0, .int .i64 a1_1, .int .i64 a1_2, .slice A1_3 l1_3.length c1_3] 33 (0, 0)) (by (with_reducible repeat (first | refine blk_drewN ?_ _ | refine blk_drew ?_ | refine blk_alloc ?_ _)); exact BK398.out)) : gb398 ≠ gb432)); have n14_ := Aside0.mk ((by rw [hg]; exact Nat.ne_of_gt (blk_lt (g := gb398) (o := .cells #[.int .i64 a1_0, .int .i64 a1_1, .int .i64 a1_2, .slice A1_3 l1_3.length c1_3] 33 (0, 0)) (by (with_reducible repeat (first | refine blk_drewN ?_ _ | refine blk_drew ?_ | refine blk_alloc ?_ _)); exact BK398.out)) : gb432 ≠ gb398)); have n15_ := Aside0.mk ((by rw [hg]; exact Nat.ne_of_lt (blk_lt (g := gb415) (o := .cells #[.int .i64 t408, .int .i64 t409, .int .i64 t410, .slice Ao36 t411.length co36] 33 (0, 0)) (by (with_reducible repeat (first | refine blk_drewN ?_ _ | refine blk_drew ?_ | refine blk_alloc ?_ _)); exact BK415.out)) : gb415 ≠ gb432)); have n16_ := Aside0.mk ((by rw [hg]; exact Nat.ne_of_gt (blk_lt (g := gb415) (o := .cells #[.int .i64 t408, .int .i64 t409, .int .i64 t410, .slice Ao36 t411.length co36] 33 (0, 0)) (by (with_reducible repeat (first | refine blk_drewN ?_ _ | refine blk_drew ?_ | refine blk_alloc ?_ _)); exact BK415.out)) : gb432 ≠ gb415)); have n17_ := Aside0.mk ((by rw [hg]; exact Nat.ne_of_lt (blk_lt (g := gb424) (o := .cells #[.int .i64 ((rd_T33 l0 x92_5).f0), .int .i64 ((rd_T33 l0 x92_5).f1.f0), .int .i64 ((rd_T33 l0 x92_5).f1.f1), .slice A423_3 ((rd_T33 l0 x92_5).f2).length c423_3] 33 (0, 0)) (by (with_reducible repeat (first | refine blk_drewN ?_ _ | refine blk_drew ?_ | refine blk_alloc ?_ _)); exact BK424.out)) : gb424 ≠ gb432)); have n18_ := Aside0.mk ((by rw [hg]; exact Nat.ne_of_gt (blk_lt (g := gb424) (o := .cells #[.int .i64 ((rd_T33 l0 x92_5).f0), .int .i64 ((rd_T33 l0 x92_5).f1.f0), .int .i64 ((rd_T33 l0 x92_5).f1.f1), .slice A423_3 ((rd_T33 l0 x92_5).f2).length c423_3] 33 (0, 0)) (by (with_reducible repeat (first | refine blk_drewN ?_ _ | refine blk_drew ?_ | refine blk_alloc ?_ _)); exact BK424.out)) : gb432 ≠ gb424)); clear HO_5; clear HO_416003; clear HO430; clear BK397; clear BK398; clear BK415; clear BK424; clear HB; have HO_5 := n0_; have HO_416003 := n1_; have HO430 := n2_; have BK397 := n3_; have BK398 := n4_; have BK415 := n5_; have BK424 := n6_; have HB := n7_; have BK432 := n8_; have GW432 := n9_; have GE432 := n10_; have NB397_432 := n11_; have NB432_397 := n12_; have NB398_432 := n13_; have NB432_398 := n14_; have NB415_432 := n15_; have NB432_415 := n16_; have NB424_432 := n17_; have NB432_424 := n18_; clear n0_ n1_ n2_ n3_ n4_ n5_ n6_ n7_ n8_ n9_ n10_ n11_ n12_ n13_ n14_ n15_ n16_ n17_ n18_; clear hb hbox hg; have hnb101 := NB432_397.out; have hnc101 := NB397_432.out; have hnb102 := NB432_398.out; have hnc102 := NB398_432.out; have hnb103 := NB432_415.out; have hnc103 := NB415_432.out; have hnb104 := NB432_424.out; have hnc104 := NB424_432.out; have hcz105_0 : w100.cell? ⟨gb432, 0, none⟩ = some (.int .i64 0) := (blk_cell BK432.out 0).trans rfl; have hcz105_1 : w100.cell? ⟨gb432, 1, none⟩ = some (.int .i64 0) := (blk_cell BK432.out 1).trans rfl; have hcz105_2 : w100.cell? ⟨gb432, 2, none⟩ = some (.int .i64 0) := (blk_cell BK432.out 2).trans rfl; have hcz105_3 : w100.cell? ⟨gb432, 3, none⟩ = some (.slice none 0 0) := (blk_cell BK432.out 3).trans rfl; have hfz105_0 := blk_frozen BK432.out 0; have hfz105_1 := blk_frozen BK432.out 1; have hfz105_2 := blk_frozen BK432.out 2; have hfz105_3 := blk_frozen BK432.out 3; obtain ⟨Ao106, co106, eo106⟩ := Kd.R_slice HO430.out; subst eo106; have hcz107_0 : w100.cell? ⟨gb424, 0, none⟩ = some (.int .i64 ((rd_T33 l0 x92_5).f0)) := (blk_cell BK424.out 0).trans rfl; have hcz107_1 : w100.cell? ⟨gb424, 1, none⟩ = some (.int .i64 ((rd_T33 l0 x92_5).f1.f0)) := (blk_cell BK424.out 1).trans rfl; have hcz107_2 : w100.cell? ⟨gb424, 2, none⟩ = some (.int .i64 ((rd_T33 l0 x92_5).f1.f1)) := (blk_cell BK424.out 2).trans rfl; have hcz107_3 : w100.cell? ⟨gb424, 3, none⟩ = some (.slice A423_3 ((rd_T33 l0 x92_5).f2).length c423_3) := (blk_cell BK424.out 3).trans rfl; have hfz107_0 := blk_frozen BK424.out 0; have hfz107_1 := blk_frozen BK424.out 1; have hfz107_2 := blk_frozen BK424.out 2; have hfz107_3 := blk_frozen BK424.out 3; have hnb108 := NB398_397.out; have hnc108 := NB397_398.out; have hnb109 := NB398_415.out; have hnc109 := NB415_398.out; have hcz110_0 : w100.cell? ⟨gb398, 0, none⟩ = some (.int .i64 a1_0) := (blk_cell BK398.out 0).trans rfl; have hcz110_1 : w100.cell? ⟨gb398, 1, none⟩ = some (.int .i64 a1_1) := (blk_cell BK398.out 1).trans rfl; have hcz110_2 : w100.cell? ⟨gb398, 2, none⟩ = some (.int .i64 a1_2) := (blk_cell BK398.out 2).trans rfl; have hcz110_3 : w100.cell? ⟨gb398, 3, none⟩ = some (.slice A1_3 l1_3.length c1_3) := (blk_cell BK398.out 3).trans rfl; have hfz110_0 := blk_frozen BK398.out 0; have hfz110_1 := blk_frozen BK398.out 1; have hfz110_2 := blk_frozen BK398.out 2; have hfz110_3 := blk_frozen BK398.out 3) | (go_at_call 20; (with_reducible refine (spileref22_SameLot.calls k5 ((rd_T33 l0 x92_5).f0) ((rd_T33 l0 x92_5).f1.f0) ((rd_T33 l0 x92_5).f1.f1) _ _ ((rd_T33 l0 x92_5).f2) t425 t426 t427 _ _ t428 true _ ?side1 ?side2 ?side3 ?side4 A92.out).mono ?_); (case side1 => exact Kd.C_below HR423_3.out (by repeat (with_reducible first | exact HB.out | apply below_alloc | apply pw_below_drewN | apply below_drew1 | refine below_set ?_ GE397.out | refine below_set ?_ GE398.out | refine below_set ?_ GE415.out | refine below_set ?_ GE424.out | refine below_set ?_ GE432.out))); (case side2 => exact HC423_3.out); (case side3 => refine (Kd.R_reads' (e := 35) (base := w.heap.size) (ok := fun k_ => (True ∧ some k_ ≠ (.slice Ao36 t411.length co36 : Value).ownBlock)) (n := t428.length) (c := co106) ?_).2.2; exact (by (with_reducible repeat (first | apply Kd.R_alloc | apply Kd.R_drewN | apply Kd.R_drew)); exact (Kd.R_mono (Kd.R_far (p := ⟨gb432, 3, none⟩) (Kd.R_far (p := ⟨gb432, 2, none⟩) (Kd.R_far (p := ⟨gb432, 1, none⟩) (Kd.R_far (p := ⟨gb432, 0, none⟩) (Kd.R_types HO430.out BK432.out (by decide)) (fun _ hk => hk.2) (.int .i64 t425)) (fun _ hk => hk.2) (.int .i64 t426)) (fun _ hk => hk.2) (.int .i64 t427)) (fun _ hk => hk.2) (.slice Ao106 t428.length co106)) (fun _ h_ => h_.1)))); (case side4 => exact (Kd.R_reads' HO430.out).2.1); rintro e w111 ⟨rfl, hb⟩; have n0_ := Aside0.mk (Kd.N_below (by (with_reducible repeat (first | apply Kd.N_alloc | apply Kd.N_drewN | apply Kd.N_drew)); exact (Kd.N_mono (Kd.N_far (p := ⟨gb432, 3, none⟩) (Kd.N_far (p := ⟨gb432, 2, none⟩) (Kd.N_far (p := ⟨gb432, 1, none⟩) (Kd.N_far (p := ⟨gb432, 0, none⟩) (Kd.N_mono HO_5.out (fun k_ hk => (⟨hk, hk.2⟩ : _ ∧ k_ ≠ gb432))) (fun _ hk => hk.2) (.int .i64 t425)) (fun _ hk => hk.2) (.int .i64 t426)) (fun _ hk => hk.2) (.int .i64 t427)) (fun _ hk => hk.2) (.slice Ao106 t428.length co106)) (fun _ h_ => h_.1))) hb); have n1_ := Aside0.mk (Kd.R_below (by (with_reducible repeat (first | apply Kd.R_alloc | apply Kd.R_drewN | apply Kd.R_drew)); exact (Kd.R_mono (Kd.R_far (p := ⟨gb432, 3, none⟩) (Kd.R_far (p := ⟨gb432, 2, none⟩) (Kd.R_far (p := ⟨gb432, 1, none⟩) (Kd.R_far (p := ⟨gb432, 0, none⟩) (Kd.R_types HO_416003.out BK432.out (by decide)) (fun _ hk => hk.2) (.int .i64 t425)) (fun _ hk => hk.2) (.int .i64 t426)) (fun _ hk => hk.2) (.int .i64 t427)) (fun _ hk => hk.2) (.slice Ao106 t428.length co106)) (fun _ h_ => h_.1))) hb); have n2_ := Aside0.mk (Kd.R_below (by (with_reducible repeat (first | apply Kd.R_alloc | apply Kd.R_drewN | apply Kd.R_drew)); exact (Kd.R_mono (Kd.R_far (p := ⟨gb432, 3, none⟩) (Kd.R_far (p := ⟨gb432, 2, none⟩) (Kd.R_far (p := ⟨gb432, 1, none⟩) (Kd.R_far (p := ⟨gb432, 0, none⟩) (Kd.R_types HO430.out BK432.out (by decide)) (fun _ hk => hk.2) (.int .i64 t425)) (fun _ hk => hk.2) (.int .i64 t426)) (fun _ hk => hk.2) (.int .i64 t427)) (fun _ hk => hk.2) (.slice Ao106 t428.length co106)) (fun _ h_ => h_.1))) hb); have n3_ := Aside0.mk (blk_below (g := gb397) (o := .cells #[.slice (some ad423) l0.length c0] 22 (0, 0)) (by (with_reducible repeat (first | refine blk_drewN ?_ _ | refine blk_drew ?_ | refine blk_alloc ?_ _)); refine blk_far ?_ NB397_432.out _; (with_reducible repeat (first | refine blk_drewN ?_ _ | refine blk_drew ?_ | refine blk_alloc ?_ _)); refine blk_far ?_ NB397_432.out _; (with_reducible repeat (first | refine blk_drewN ?_ _ | refine blk_drew ?_ | refine blk_alloc ?_ _)); refine blk_far ?_ NB397_432.out _; (with_reducible repeat (first | refine blk_drewN ?_ _ | refine blk_drew ?_ | refine blk_alloc ?_ _)); refine blk_far ?_ NB397_432.out _; (with_reducible repeat (first | refine blk_drewN ?_ _ | refine blk_drew ?_ | refine blk_alloc ?_ _)); exact BK397.out) hb); have n4_ := Aside0.mk (blk_below (g := gb398) (o := .cells #[.int .i64 a1_0, .int .i64 a1_1, .int .i64 a1_2, .slice A1_3 l1_3.length c1_3] 33 (0, 0)) (by (with_reducible repeat (first | refine blk_drewN ?_ _ | refine blk_drew ?_ | refine blk_alloc ?_ _)); refine blk_far ?_ NB398_432.out _; (with_reducible repeat (first | refine blk_drewN ?_ _ | refine blk_drew ?_ | refine blk_alloc ?_ _)); refine blk_far ?_ NB398_432.out _; (with_reducible repeat (first | refine blk_drewN ?_ _ | refine blk_drew ?_ | refine blk_alloc ?_ _)); refine blk_far ?_ NB398_432.out _; (with_reducible repeat (first | refine blk_drewN ?_ _ | refine blk_drew ?_ | refine blk_alloc ?_ _)); refine blk_far ?_ NB398_432.out _; (with_reducible repeat (first | refine blk_drewN ?_ _ | refine blk_drew ?_ | refine blk_alloc ?_ _)); exact BK398.out) hb); have n5_ := Aside0.mk (blk_below (g := gb415) (o := .cells #[.int .i64 t408, .int .i64 t409, .int .i64 t410, .slice Ao36 t411.length co36] 33 (0, 0)) (by (with_reducible repeat (first | refine blk_drewN ?_ _ | refine blk_drew ?_ | refine blk_alloc ?_ _)); refine blk_far ?_ NB415_432.out _; (with_reducible repeat (first | refine blk_drewN ?_ _ | refine blk_drew ?_ | refine blk_alloc ?_ _)); refine blk_far ?_ NB415_432.out _; (with_reducible repeat (first | refine blk_drewN ?_ _ | refine blk_drew ?_ | refine blk_alloc ?_ _)); refine blk_far ?_ NB415_432.out _; (with_reducible repeat (first | refine blk_drewN ?_ _ | refine blk_drew ?_ | refine blk_alloc ?_ _)); refine blk_far ?_ NB415_432.out _; (with_reducible repeat (first | refine blk_drewN ?_ _ | refine blk_drew ?_ | refine blk_alloc ?_ _)); exact BK415.out) hb); have n6_ := Aside0.mk (blk_below (g := gb424) (o := .cells #[.int .i64 ((rd_T33 l0 x92_5).f0), .int .i64 ((rd_T33 l0 x92_5).f1.f0), .int .i64 ((rd_T33 l0 x92_5).f1.f1), .slice A423_3 ((rd_T33 l0 x92_5).f2).length c423_3] 33 (0, 0)) (by (with_reducible repeat (first | refine blk_drewN ?_ _ | refine blk_drew ?_ | refine blk_alloc ?_ _)); refine blk_far ?_ NB424_432.out _; (with_reducible repeat (first | refine blk_drewN ?_ _ | refine blk_drew ?_ | refine blk_alloc ?_ _)); refine blk_far ?_ NB424_432.out _; (with_reducible repeat (first | refine blk_drewN ?_ _ | refine blk_drew ?_ | refine blk_alloc ?_ _)); refine blk_far ?_ NB424_432.out _; (with_reducible repeat (first | refine blk_drewN ?_ _ | refine blk_drew ?_ | refine blk_alloc ?_ _)); refine blk_far ?_ NB424_432.out _; (with_reducible repeat (first | refine blk_drewN ?_ _ | refine blk_drew ?_ | refine blk_alloc ?_ _)); exact BK424.out) hb); have n7_ := Aside0.mk (blk_below (g := gb432) (o := .cells #[.int .i64 t425, .int .i64 t426, .int .i64 t427, .slice Ao106 t428.length co106] 33 (0, 0)) (by (with_reducible repeat (first | refine blk_drewN ?_ _ | refine blk_drew ?_ | refine blk_alloc ?_ _)); refine blk_put (cs := #[.int .i64 t425, .int .i64 t426, .int .i64 t427, .slice none 0 0]) ?_ 3 _ rfl; (with_reducible repeat (first | refine blk_drewN ?_ _ | refine blk_drew ?_ | refine blk_alloc ?_ _)); refine blk_put (cs := #[.int .i64 t425, .int .i64 t426, .int .i64 0, .slice none 0 0]) ?_ 2 _ rfl; (with_reducible repeat (first | refine blk_drewN ?_ _ | refine blk_drew ?_ | refine blk_alloc ?_ _)); refine blk_put (cs := #[.int .i64 t425, .int .i64 0, .int .i64 0, .slice none 0 0]) ?_ 1 _ rfl; (with_reducible repeat (first | refine blk_drewN ?_ _ | refine blk_drew ?_ | refine blk_alloc ?_ _)); refine blk_put (cs := #[.int .i64 0, .int .i64 0, .int .i64 0, .slice none 0 0]) ?_ 0 _ rfl; (with_reducible repeat (first | refine blk_drewN ?_ _ | refine blk_drew ?_ | refine blk_alloc ?_ _)); exact BK432.out) hb); have n8_ := Aside0.mk (below_step (by repeat (with_reducible first | exact HB.out | apply below_alloc | apply pw_below_drewN | apply below_drew1 | refine below_set ?_ GE397.out | refine below_set ?_ GE398.out | refine below_set ?_ GE415.out | refine below_set ?_ GE424.out | refine below_set ?_ GE432.out)) hb); clear HO_5; clear HO_416003; clear HO430; clear BK397; clear BK398; clear BK415; clear BK424; clear BK432; clear HB; have HO_5 := n0_; have HO_416003 := n1_; have HO430 := n2_; have BK397 := n3_; have BK398 := n4_; have BK415 := n5_; have BK424 := n6_; have BK432 := n7_; have HB := n8_; clear n0_ n1_ n2_ n3_ n4_ n5_ n6_ n7_ n8_; (try clear hb); (try clear hb2); (try clear hk); (try clear hi)))
                       go_roundg k5
                       case measure => have := HJ4.out; have := HJ22.out; have := HJ43.out; have := HJ55.out; have := HK5.out; omega
                       case rel => exact ⟨(wrap64 (x92_5 + 1)), (by first | rfl | (simp; done) | (simp [*]; done)), H', ⟨by have := HJ4.out; have := HJ22.out; have := HJ43.out; have := HJ55.out; have := HK5.out; omega⟩, ⟨by (with_reducible repeat (first | apply Kd.N_alloc | apply Kd.N_drewN | apply Kd.N_drew)); exact Kd.N_mono HO_5.out (fun _ hk => ⟨hk.1.1.1.1, ⟨hk.1.1.1.2.1, ⟨hk.1.1.1.2.2.1, hk.1.1.1.2.2.2⟩⟩⟩)⟩, ⟨by (with_reducible repeat (first | apply Kd.R_alloc | apply Kd.R_drewN | apply Kd.R_drew)); exact Kd.R_mono HO_416003.out (fun _ hk => trivial)⟩, ⟨by (with_reducible repeat (first | refine blk_drewN ?_ _ | refine blk_drew ?_ | refine blk_alloc ?_ _)); exact BK397.out⟩, ⟨by (with_reducible repeat (first | refine blk_drewN ?_ _ | refine blk_drew ?_ | refine blk_alloc ?_ _)); exact BK398.out⟩, ⟨by (with_reducible repeat (first | refine blk_drewN ?_ _ | refine blk_drew ?_ | refine blk_alloc ?_ _)); exact BK415.out⟩, ⟨by repeat (first | (with_reducible first | exact HB.out | apply below_alloc | apply pw_below_drewN | apply below_drew1 | refine below_set ?_ GE397.out | refine below_set ?_ GE398.out | refine below_set ?_ GE415.out | refine below_set ?_ GE424.out | refine below_set ?_ GE432.out) | exact HB.out)⟩⟩
                      ·
                       replace c93 := Bool.eq_false_iff.mpr c93
                       subst c93
                       replace H : (some false) = some r := by rw [if_neg (show ¬ (false = true) by decide)] at H; exact H
                       subst hr_
                       exact absurd H (by simp)
                     ·
                      replace c91 := Bool.eq_false_iff.mpr c91
                      subst c91
                      replace H : (some false) = some r := by rw [if_neg (show ¬ (false = true) by decide)] at H; exact H
                      subst hr_
                      exact absurd H (by simp)
                   ·
                    rw [if_neg c71] at H
                    exact absurd H (by simp)
                  ·
                   rw [if_neg c70] at H
                   exact absurd H (by simp)
                 ·
                  rw [if_neg c69] at H
                  have c69b0 : decide (x92_5 < (l0.length : Int)) = false := decide_eq_false c69
                  clear c69
                  replace H := Option.bind_eq_some_iff.mp H
                  obtain ⟨t422, A1120, H⟩ := H
                  replace H : (some (!t422)) = some r := H
                  have A112 := Aside0.mk A1120
                  clear A1120
                  obtain rfl := Option.some.inj H
                  go_wp2_with (first | ((with_reducible refine gate_callee (f := 25) rfl ?_); refine goesL_ (some 121) rfl rfl Tryd.func25 (by kernel_rfl) rfl #[.slice Ao28 t402.length co28, .func (.func 26) #[] #[.pointer (some ⟨gb398, 0, none⟩), .pointer (some ⟨gb397, 0, none⟩)]] rfl (by (try simp only [List.map_toArray, List.map_cons, List.map_nil]); first | done | rfl | (simp only [List.length_drop, List.length_take]; rfl)) ?_; (with_reducible refine (api_Lot_25_at_26.calls k5 _ _ t402  gb398 a1_0 a1_1 a1_2 A1_3 c1_3 l1_3 gb397 A0 c0 l0 t422 _ ?side1 ?side2 ?side3 ?side4 ?side5 ?side6 ?side7 ?side8 A112.out).mono ?_); (case side1 => repeat (first | exact (Kd.N_reads' HO_5.out).2.2 | (with_reducible refine Kd.C_alloc ?_ _) | (with_reducible refine Kd.C_drewN ?_ _) | (with_reducible refine Kd.C_drew ?_))); (case side2 => exact (Kd.N_reads' HO_5.out).2.1); (case side3 => repeat (first | exact (Kd.C_below HR1_3.out HB.out) | (with_reducible refine Kd.C_alloc ?_ _) | (with_reducible refine Kd.C_drewN ?_ _) | (with_reducible refine Kd.C_drew ?_))); (case side4 => exact HC1_3.out); (case side5 => repeat (first | exact (Kd.C_below HR0.out HB.out) | (with_reducible refine Kd.C_alloc ?_ _) | (with_reducible refine Kd.C_drewN ?_ _) | (with_reducible refine Kd.C_drew ?_))); (case side6 => exact HC0.out); (case side7 => (with_reducible repeat (first | refine blk_drewN ?_ _ | refine blk_drew ?_ | refine blk_alloc ?_ _)); exact BK398.out); (case side8 => (with_reducible repeat (first | refine blk_drewN ?_ _ | refine blk_drew ?_ | refine blk_alloc ?_ _)); exact BK397.out); rintro e w113 ⟨rfl, hb⟩; refine ⟨_, rfl, ?_⟩; have n0_ := Aside0.mk (Kd.N_below (by (with_reducible repeat (first | apply Kd.N_alloc | apply Kd.N_drewN | apply Kd.N_drew)); exact HO_5.out) hb); have n1_ := Aside0.mk (Kd.R_below (by (with_reducible repeat (first | apply Kd.R_alloc | apply Kd.R_drewN | apply Kd.R_drew)); exact HO_416003.out) hb); have n2_ := Aside0.mk (blk_below (g := gb397) (o := .cells #[.slice A0 l0.length c0] 22 (0, 0)) (by (with_reducible repeat (first | refine blk_drewN ?_ _ | refine blk_drew ?_ | refine blk_alloc ?_ _)); exact BK397.out) hb); have n3_ := Aside0.mk (blk_below (g := gb398) (o := .cells #[.int .i64 a1_0, .int .i64 a1_1, .int .i64 a1_2, .slice A1_3 l1_3.length c1_3] 33 (0, 0)) (by (with_reducible repeat (first | refine blk_drewN ?_ _ | refine blk_drew ?_ | refine blk_alloc ?_ _)); exact BK398.out) hb); have n4_ := Aside0.mk (blk_below (g := gb415) (o := .cells #[.int .i64 t408, .int .i64 t409, .int .i64 t410, .slice Ao36 t411.length co36] 33 (0, 0)) (by (with_reducible repeat (first | refine blk_drewN ?_ _ | refine blk_drew ?_ | refine blk_alloc ?_ _)); exact BK415.out) hb); have n5_ := Aside0.mk (below_step (by repeat (with_reducible first | exact HB.out | apply below_alloc | apply pw_below_drewN | apply below_drew1 | refine below_set ?_ GE397.out | refine below_set ?_ GE398.out | refine below_set ?_ GE415.out)) hb); clear HO_5; clear HO_416003; clear BK397; clear BK398; clear BK415; clear HB; have HO_5 := n0_; have HO_416003 := n1_; have BK397 := n2_; have BK398 := n3_; have BK415 := n4_; have HB := n5_; clear n0_ n1_ n2_ n3_ n4_ n5_; (try clear hb); (try clear hb2); (try clear hk); (try clear hi)))
                  go_ret
                  exact ⟨by first | rfl | (simp [errW_none, errW_some] <;> rfl) | (simp [*, errW_none, errW_some] <;> rfl), by repeat (first | (with_reducible first | exact HB.out | apply below_alloc | apply pw_below_drewN | apply below_drew1 | refine below_set ?_ GE397.out | refine below_set ?_ GE398.out | refine below_set ?_ GE415.out) | exact HB.out)⟩
      ·
       rw [if_neg c21] at H
       have c21b0 : (t407 == 0) = false := beq_eq_false_iff_ne.mpr c21
       have c21b1 : (t407 != 0) = true := bne_iff_ne.mpr c21
       subst hr_
       exact absurd H (by simp)
     ·
      rw [if_neg c19] at H
      have c19b0 : (t405 == 0) = false := beq_eq_false_iff_ne.mpr c19
      have c19b1 : (t405 != 0) = true := bne_iff_ne.mpr c19
      obtain rfl := Option.some.inj H
      have hnb114 := NB397_398.out
      have hnc114 := NB398_397.out
      have hcz115_0 : wc.cell? ⟨gb397, 0, none⟩ = some (.slice A0 l0.length c0) := (blk_cell BK397.out 0).trans rfl
      have hfz115_0 := blk_frozen BK397.out 0
      have hcz116_0 : wc.cell? ⟨gb398, 0, none⟩ = some (.int .i64 a1_0) := (blk_cell BK398.out 0).trans rfl
      have hcz116_1 : wc.cell? ⟨gb398, 1, none⟩ = some (.int .i64 a1_1) := (blk_cell BK398.out 1).trans rfl
      have hcz116_2 : wc.cell? ⟨gb398, 2, none⟩ = some (.int .i64 a1_2) := (blk_cell BK398.out 2).trans rfl
      have hcz116_3 : wc.cell? ⟨gb398, 3, none⟩ = some (.slice A1_3 l1_3.length c1_3) := (blk_cell BK398.out 3).trans rfl
      have hfz116_0 := blk_frozen BK398.out 0
      have hfz116_1 := blk_frozen BK398.out 1
      have hfz116_2 := blk_frozen BK398.out 2
      have hfz116_3 := blk_frozen BK398.out 3
      go_wp2_with (first | ((with_reducible refine gate_callee (f := 22) rfl ?_); refine goesL_ (some 32) rfl rfl Tryd.func22 (by kernel_rfl) rfl #[.slice A0 l0.length c0, .agg #[.int .i64 a1_0, .int .i64 a1_1, .int .i64 a1_2, .slice A1_3 l1_3.length c1_3]] rfl (by (try simp only [List.map_toArray, List.map_cons, List.map_nil]); first | done | rfl | (simp only [List.length_drop, List.length_take]; rfl)) ?_; (with_reducible refine (lot_Put.calls kj4 (fun k_ => k_ < w.heap.size) _ _ l0 a1_0 a1_1 a1_2 (fun k_ => k_ < w.heap.size) _ _ l1_3 t402 t405 _ ?side1 ?side2 A18.out).mono ?_); (case side1 => exact Kd.V_mk HC0.out (Kd.F_below (Kd.C_F k33_heap HR0.out) (by repeat (with_reducible first | exact HB.out | apply below_alloc | apply pw_below_drewN | apply below_drew1 | refine below_set ?_ GE397.out | refine below_set ?_ GE398.out)))); (case side2 => exact Kd.V_mk HC1_3.out (Kd.F_below (Kd.C_F k35_heap HR1_3.out) (by repeat (with_reducible first | exact HB.out | apply below_alloc | apply pw_below_drewN | apply below_drew1 | refine below_set ?_ GE397.out | refine below_set ?_ GE398.out)))); rintro e w117 ⟨v403, rfl, ho0, hb⟩; refine ⟨_, rfl, ?_⟩; have n0_ := Aside0.mk (Kd.N_lower (Kd.N_mono (ok' := fun k_ => k_ ≠ gb397 ∧ k_ ≠ gb398) ho0 (fun k_ hk_ => ⟨Or.elim hk_ (fun hs_ => Or.elim hs_ (fun hs_ => fun e_ => Nat.not_le.2 hs_ (by rw [e_]; exact GW397.out)) (fun hs_ => fun e_ => Nat.not_le.2 hs_ (by rw [e_]; exact GW397.out))) (fun hn_ => (Kd.freshB (g := gb397) (o := .cells #[.slice A0 l0.length c0] 22 (0, 0)) (by (with_reducible repeat (first | refine blk_drewN ?_ _ | refine blk_drew ?_ | refine blk_alloc ?_ _)); exact BK397.out) k_ hn_)), Or.elim hk_ (fun hs_ => Or.elim hs_ (fun hs_ => fun e_ => Nat.not_le.2 hs_ (by rw [e_]; exact GW398.out)) (fun hs_ => fun e_ => Nat.not_le.2 hs_ (by rw [e_]; exact GW398.out))) (fun hn_ => (Kd.freshB (g := gb398) (o := .cells #[.int .i64 a1_0, .int .i64 a1_1, .int .i64 a1_2, .slice A1_3 l1_3.length c1_3] 33 (0, 0)) (by (with_reducible repeat (first | refine blk_drewN ?_ _ | refine blk_drew ?_ | refine blk_alloc ?_ _)); exact BK398.out) k_ hn_))⟩)) (below_size (by repeat (with_reducible first | exact HB.out | apply below_alloc | apply pw_below_drewN | apply below_drew1 | refine below_set ?_ GE397.out | refine below_set ?_ GE398.out)))); have n1_ := Aside0.mk (blk_below (g := gb397) (o := .cells #[.slice A0 l0.length c0] 22 (0, 0)) (by (with_reducible repeat (first | refine blk_drewN ?_ _ | refine blk_drew ?_ | refine blk_alloc ?_ _)); exact BK397.out) hb); have n2_ := Aside0.mk (blk_below (g := gb398) (o := .cells #[.int .i64 a1_0, .int .i64 a1_1, .int .i64 a1_2, .slice A1_3 l1_3.length c1_3] 33 (0, 0)) (by (with_reducible repeat (first | refine blk_drewN ?_ _ | refine blk_drew ?_ | refine blk_alloc ?_ _)); exact BK398.out) hb); have n3_ := Aside0.mk (below_step (by repeat (with_reducible first | exact HB.out | apply below_alloc | apply pw_below_drewN | apply below_drew1 | refine below_set ?_ GE397.out | refine below_set ?_ GE398.out)) hb); clear BK397; clear BK398; clear HB; have HO404 := n0_; have BK397 := n1_; have BK398 := n2_; have HB := n3_; clear n0_ n1_ n2_ n3_; (try clear hb); (try clear hb2); (try clear hk); (try clear hi); (try clear ho0); obtain ⟨Ao118, co118, eo118⟩ := Kd.N_slice HO404.out; subst eo118))
      go_ret
      exact ⟨by first | rfl | (simp [errW_none, errW_some] <;> rfl) | (simp [*, errW_none, errW_some] <;> rfl), by repeat (first | (with_reducible first | exact HB.out | apply below_alloc | apply pw_below_drewN | apply below_drew1 | refine below_set ?_ GE397.out | refine below_set ?_ GE398.out) | exact HB.out)⟩
 ·
  replace c4 := Bool.eq_false_iff.mpr c4
  subst c4
  replace H : (some false) = some r := by rw [if_neg (show ¬ (false = true) by decide)] at H; exact H
  subst hr_
  exact absurd H (by simp)
end Go.Proofs.YtgjoenoknknoiaaDoor.Pr
namespace Go.Proofs.YtgjoenoknknoiaaDoor.Opn
open Go Go.RowKit Go.Proofs.YtgjoenoknknoiaaDoorW.PrintWords Go.Proofs.YtgjoenoknknoiaaDoor.O Go.Proofs.YtgjoenoknknoiaaDoor.Pr
theorem opens3 : Opens Tryd.prog 3 (Kd.int .i64) (fun x => (Lit.int .i64 x).wf = true) := opens_int Tryd.underlying3 (by kernel_rfl)
def ok26 (x : S26) : Prop := (Lit.int .i64 x.f0).wf = true ∧ (Lit.int .i64 x.f1).wf = true
theorem opens26 : Opens Tryd.prog 26 k26 ok26 :=
  ⟨by kernel_rfl, fun H enc w base sp held fuel cs x h => by
    obtain ⟨xs, n, _, _, hl, hx, hf⟩ := DataW.trod_struct Tryd.underlying26 h
    have hc_ : Tryd.prog.cellsOf 26 = 2 := by kernel_rfl
    rw [hc_] at hl
    obtain ⟨c0, c1, rfl⟩ : ∃ c0 c1, cs = [c0, c1] := by
      clear h hf hx
      rcases cs with _ | ⟨c0, _ | ⟨c1, _ | ⟨_, _⟩⟩⟩
      all_goals first | exact ⟨_, _, rfl⟩ | (simp at hl)
    obtain ⟨y0, hy0⟩ : ∃ y, xs[0]? = some y := ⟨xs[0]'(by rw [hx]; decide), List.getElem?_eq_getElem _⟩
    have e0 : DataW.trod enc Tryd.prog w base sp held n 3 ((List.drop 0 [c0, c1]).take (Tryd.prog.cellsOf 3)) = xs[0]? := hf 0 _ rfl
    rw [hy0, show Tryd.prog.cellsOf 3 = 1 from by kernel_rfl] at e0
    obtain ⟨v0, K0, o0⟩ := opens3.2 H enc w base sp held n _ _ e0
    replace K0 : (Kd.int .i64).K w v0 [c0] := K0
    obtain ⟨y1, hy1⟩ : ∃ y, xs[1]? = some y := ⟨xs[1]'(by rw [hx]; decide), List.getElem?_eq_getElem _⟩
    have e1 : DataW.trod enc Tryd.prog w base sp held n 3 ((List.drop 1 [c0, c1]).take (Tryd.prog.cellsOf 3)) = xs[1]? := hf 1 _ rfl
    rw [hy1, show Tryd.prog.cellsOf 3 = 1 from by kernel_rfl] at e1
    obtain ⟨v1, K1, o1⟩ := opens3.2 H enc w base sp held n _ _ e1
    replace K1 : (Kd.int .i64).K w v1 [c1] := K1
    obtain rfl : c0 = _ := List.singleton_inj.1 K0
    obtain rfl : c1 = _ := List.singleton_inj.1 K1
    refine ⟨⟨v0, v1⟩, ?_, o0, o1⟩
    exact k26_mk w ⟨v0, v1⟩ ⟩
def ok35 (x : S35) : Prop := (Lit.int .i64 x.f0).wf = true ∧ (Lit.int .i64 x.f1).wf = true
theorem opens35 : Opens Tryd.prog 35 k35 ok35 :=
  ⟨by kernel_rfl, fun H enc w base sp held fuel cs x h => by
    obtain ⟨xs, n, _, _, hl, hx, hf⟩ := DataW.trod_struct Tryd.underlying35 h
    have hc_ : Tryd.prog.cellsOf 35 = 2 := by kernel_rfl
    rw [hc_] at hl
    obtain ⟨c0, c1, rfl⟩ : ∃ c0 c1, cs = [c0, c1] := by
      clear h hf hx
      rcases cs with _ | ⟨c0, _ | ⟨c1, _ | ⟨_, _⟩⟩⟩
      all_goals first | exact ⟨_, _, rfl⟩ | (simp at hl)
    obtain ⟨y0, hy0⟩ : ∃ y, xs[0]? = some y := ⟨xs[0]'(by rw [hx]; decide), List.getElem?_eq_getElem _⟩
    have e0 : DataW.trod enc Tryd.prog w base sp held n 3 ((List.drop 0 [c0, c1]).take (Tryd.prog.cellsOf 3)) = xs[0]? := hf 0 _ rfl
    rw [hy0, show Tryd.prog.cellsOf 3 = 1 from by kernel_rfl] at e0
    obtain ⟨v0, K0, o0⟩ := opens3.2 H enc w base sp held n _ _ e0
    replace K0 : (Kd.int .i64).K w v0 [c0] := K0
    obtain ⟨y1, hy1⟩ : ∃ y, xs[1]? = some y := ⟨xs[1]'(by rw [hx]; decide), List.getElem?_eq_getElem _⟩
    have e1 : DataW.trod enc Tryd.prog w base sp held n 3 ((List.drop 1 [c0, c1]).take (Tryd.prog.cellsOf 3)) = xs[1]? := hf 1 _ rfl
    rw [hy1, show Tryd.prog.cellsOf 3 = 1 from by kernel_rfl] at e1
    obtain ⟨v1, K1, o1⟩ := opens3.2 H enc w base sp held n _ _ e1
    replace K1 : (Kd.int .i64).K w v1 [c1] := K1
    obtain rfl : c0 = _ := List.singleton_inj.1 K0
    obtain rfl : c1 = _ := List.singleton_inj.1 K1
    refine ⟨⟨v0, v1⟩, ?_, o0, o1⟩
    exact k35_mk w ⟨v0, v1⟩ ⟩
theorem opens31 : Opens Tryd.prog 31 (Kd.slice 35 k35) (fun x => (x.length ≤ maxLen ∧ ∀ x0_, x0_ ∈ x → ok35 x0_)) := opens_slice (P := Tryd.prog) (t := 31) (e := 35) Tryd.underlying31 (by kernel_rfl) opens35
def ok33 (x : S33) : Prop := (Lit.int .i64 x.f0).wf = true ∧ ok26 x.f1 ∧ (x.f2.length ≤ maxLen ∧ ∀ x0_, x0_ ∈ x.f2 → ok35 x0_)
theorem opens33 : Opens Tryd.prog 33 k33 ok33 :=
  ⟨by kernel_rfl, fun H enc w base sp held fuel cs x h => by
    obtain ⟨xs, n, _, _, hl, hx, hf⟩ := DataW.trod_struct Tryd.underlying33 h
    have hc_ : Tryd.prog.cellsOf 33 = 4 := by kernel_rfl
    rw [hc_] at hl
    obtain ⟨c0, c1, c2, c3, rfl⟩ : ∃ c0 c1 c2 c3, cs = [c0, c1, c2, c3] := by
      clear h hf hx
      rcases cs with _ | ⟨c0, _ | ⟨c1, _ | ⟨c2, _ | ⟨c3, _ | ⟨_, _⟩⟩⟩⟩⟩
      all_goals first | exact ⟨_, _, _, _, rfl⟩ | (simp at hl)
    obtain ⟨y0, hy0⟩ : ∃ y, xs[0]? = some y := ⟨xs[0]'(by rw [hx]; decide), List.getElem?_eq_getElem _⟩
    have e0 : DataW.trod enc Tryd.prog w base sp held n 3 ((List.drop 0 [c0, c1, c2, c3]).take (Tryd.prog.cellsOf 3)) = xs[0]? := hf 0 _ rfl
    rw [hy0, show Tryd.prog.cellsOf 3 = 1 from by kernel_rfl] at e0
    obtain ⟨v0, K0, o0⟩ := opens3.2 H enc w base sp held n _ _ e0
    replace K0 : (Kd.int .i64).K w v0 [c0] := K0
    obtain ⟨y1, hy1⟩ : ∃ y, xs[1]? = some y := ⟨xs[1]'(by rw [hx]; decide), List.getElem?_eq_getElem _⟩
    have e1 : DataW.trod enc Tryd.prog w base sp held n 26 ((List.drop 1 [c0, c1, c2, c3]).take (Tryd.prog.cellsOf 26)) = xs[1]? := hf 1 _ rfl
    rw [hy1, show Tryd.prog.cellsOf 26 = 2 from by kernel_rfl] at e1
    obtain ⟨v1, K1, o1⟩ := opens26.2 H enc w base sp held n _ _ e1
    replace K1 : k26.K w v1 [c1, c2] := K1
    obtain ⟨y2, hy2⟩ : ∃ y, xs[2]? = some y := ⟨xs[2]'(by rw [hx]; decide), List.getElem?_eq_getElem _⟩
    have e2 : DataW.trod enc Tryd.prog w base sp held n 31 ((List.drop 3 [c0, c1, c2, c3]).take (Tryd.prog.cellsOf 31)) = xs[2]? := hf 2 _ rfl
    rw [hy2, show Tryd.prog.cellsOf 31 = 1 from by kernel_rfl] at e2
    obtain ⟨v2, K2, o2⟩ := opens31.2 H enc w base sp held n _ _ e2
    replace K2 : (Kd.slice 35 k35).K w v2 [c3] := K2
    obtain rfl : c0 = _ := List.singleton_inj.1 K0
    have Z1 := k26_open K1
    have w1 := Z1
    simp only [List.cons.injEq, and_true] at w1
    obtain ⟨rfl, rfl⟩ := w1
    obtain ⟨A2, q2, w2, m2, g2⟩ := K2
    obtain rfl : c3 = _ := List.singleton_inj.1 w2
    refine ⟨⟨v0, v1, v2⟩, ?_, o0, o1, o2⟩
    exact k33_mk w ⟨v0, v1, v2⟩ m2 g2⟩
theorem opens22 : Opens Tryd.prog 22 (Kd.slice 33 k33) (fun x => (x.length ≤ maxLen ∧ ∀ x0_, x0_ ∈ x → ok33 x0_)) := opens_slice (P := Tryd.prog) (t := 22) (e := 33) Tryd.underlying22 (by kernel_rfl) opens33
end Go.Proofs.YtgjoenoknknoiaaDoor.Opn
namespace Go.Proofs.YtgjoenoknknoiaaDoor.Pure
open Go Go.RowKit Go.Proofs.YtgjoenoknknoiaaDoor.Pr Go.Proofs.YtgjoenoknknoiaaDoor.Opn
def lotPlacesPure : Prop := ∀ (l0 : (List S33)) (a1_0 : Int) (a1_1 : Int) (a1_2 : Int) (l1_3 : (List S35)), (l0.length ≤ maxLen ∧ ∀ x0_, x0_ ∈ l0 → ok33 x0_) → (Lit.int .i64 a1_0).wf = true → (Lit.int .i64 a1_1).wf = true → (Lit.int .i64 a1_2).wf = true → (l1_3.length ≤ maxLen ∧ ∀ x0_, x0_ ∈ l1_3 → ok35 x0_) → ∃ k, spilelaw22_LotPlaces.f k l0 a1_0 a1_1 a1_2 l1_3 = some true
end Go.Proofs.YtgjoenoknknoiaaDoor.Pure
namespace Go.Proofs.YtgjoenoknknoiaaDoor.PL
open Go Go.RowKit Go.Proofs.YtgjoenoknknoiaaDoorW.PrintWords Go.Proofs.YtgjoenoknknoiaaDoorW.PrintLast Go.Proofs.YtgjoenoknknoiaaDoorW.PrintMore
theorem evp {α : Type} {c : Prop} [Decidable c] {g h : Nat → Option α} {r : α} (hc : c) (k : Ev g r) : Ev (fun n => if c then g n else h n) r :=
  Ev.congr (fun n => if_pos hc) k
theorem evn {α : Type} {c : Prop} [Decidable c] {g h : Nat → Option α} {r : α} (hc : ¬ c) (k : Ev h r) : Ev (fun n => if c then g n else h n) r :=
  Ev.congr (fun n => if_neg hc) k
theorem evb {α β : Type} {g : Nat → Option α} {f : Nat → α → Option β} {a : α} {r : β} (h : Ev g a) (k : Ev (fun n => f n a) r) : Ev (fun n => (g n).bind (f n)) r := Ev.bind h k
theorem evr {α : Type} {a r : α} (h : a = r) : Ev (fun _ => some a) r := by subst h; exact Ev.now _
theorem evc {α : Type} {g : Nat → Option α} {r : α} {o : Option α} (hg : ∀ n, g n = o) (h : o = some r) : Ev g r := by
  subst h
  exact Ev.congr hg (Ev.now _)
theorem ev_unique {α : Type} {g : Nat → Option α} {a b : α} (h : Ev g a) (h2 : Ev g b) : a = b := by
  obtain ⟨K, h⟩ := h
  obtain ⟨K2, h2⟩ := h2
  have e1 := h (K + K2) (by omega)
  have e2 := h2 (K + K2) (by omega)
  rw [e1] at e2
  exact Option.some.inj e2
/-- A loop that counts upwards to n. -/
theorem count_up (a n : Int) (P : Int → Prop) (hend : P n) (hround : ∀ i, a ≤ i → i < n → P (i + 1) → P i) : ∀ i, a ≤ i → i ≤ n → P i := by
  intro i h0 h1
  obtain ⟨d, hd⟩ : ∃ d : Nat, n - i = d := ⟨(n - i).toNat, by omega⟩
  induction d generalizing i with
  | zero =>
    obtain rfl : i = n := by omega
    exact hend
  | succ d ih => exact hround i h0 (by omega) (ih (i + 1) (by omega) (by omega) (by omega))
theorem w64 {x : Int} (h0 : -9223372036854775808 ≤ x) (h1 : x ≤ 9223372036854775807) : wrap64 x = x := by
  unfold wrap64
  omega
theorem w64_succ {i n : Int} (h0 : 0 ≤ i) (h : i < n) (hn : n ≤ 9223372036854775807) : wrap64 (i + 1) = i + 1 := w64 (by omega) (by omega)
theorem w64_pred {i n : Int} (h0 : 0 ≤ i) (h : i ≤ n) (hn : n ≤ 9223372036854775807) : wrap64 (i - 1) = i - 1 := w64 (by omega) (by omega)
theorem len_le {α : Type} {l : List α} (h : l.length ≤ maxLen) : (l.length : Int) ≤ 9223372036854775807 := by
  have : l.length ≤ 9223372036854775807 := by simpa [maxLen] using h
  omega
/-- A test that comes to true where P holds, and else to false. -/
def EvB (g : Nat → Option Bool) (P : Prop) : Prop := (P → Ev g true) ∧ (¬ P → Ev g false)
theorem EvB.map {g : Nat → Option Bool} {f : Nat → Bool → Option Bool} {P Q : Prop} (h : EvB g P) (ht : P → EvB (fun n => f n true) Q) (hf : ¬ P → EvB (fun n => f n false) Q) : EvB (fun n => (g n).bind (f n)) Q := by
  by_cases hp : P
  · exact ⟨fun q => Ev.bind (h.1 hp) ((ht hp).1 q), fun q => Ev.bind (h.1 hp) ((ht hp).2 q)⟩
  · exact ⟨fun q => Ev.bind (h.2 hp) ((hf hp).1 q), fun q => Ev.bind (h.2 hp) ((hf hp).2 q)⟩
theorem index_ev (n : Int) (Q : Int → Prop) (L : Int → Nat → Option Int) (hend : Ev (L n) (-1)) (hyes : ∀ i, 0 ≤ i → i < n → Q i → Ev (L i) i)
    (hno : ∀ i, 0 ≤ i → i < n → ¬ Q i → ∀ r, Ev (L (i + 1)) r → Ev (L i) r) : ∀ i, 0 ≤ i → i ≤ n →
    ∃ r, Ev (L i) r ∧ ((0 ≤ r ∧ i ≤ r ∧ r < n ∧ Q r ∧ ∀ j, i ≤ j → j < r → ¬ Q j) ∨ (r = -1 ∧ ∀ j, i ≤ j → j < n → ¬ Q j)) := by
  refine count_up 0 n _ ⟨-1, hend, .inr ⟨rfl, fun j h1 h2 => absurd h2 (by omega)⟩⟩ ?_
  intro i h0 h1 ih
  by_cases hq : Q i
  · exact ⟨i, hyes i h0 h1 hq, .inl ⟨h0, by omega, h1, hq, fun j h2 h3 => absurd h3 (by omega)⟩⟩
  · obtain ⟨r, hr, h⟩ := ih
    refine ⟨r, hno i h0 h1 hq _ hr, ?_⟩
    have ext : ∀ b, (∀ j, i + 1 ≤ j → j < b → ¬ Q j) → ∀ j, i ≤ j → j < b → ¬ Q j := fun b h2 j hj hb => by
      by_cases e : j = i
      · subst e; exact hq
      · exact h2 j (by omega) hb
    rcases h with ⟨a, b, c, d, e⟩ | ⟨a, b⟩
    · exact .inl ⟨a, by omega, c, d, ext r e⟩
    · exact .inr ⟨a, ext n b⟩
theorem u64w {x : Int} (h0 : 0 ≤ x) (h1 : x ≤ 9223372036854775807) : IntKind.u64.wrap x = x := by
  unfold IntKind.wrap
  simp [IntKind.signed, IntKind.bits]
  omega
theorem half {i j : Int} (h0 : 0 ≤ i) (h1 : i < j) (h2 : j ≤ 4611686018427387904) : wrap64 ((IntKind.u64.wrap (wrap64 (i + j))) / 2) = (i + j) / 2 := by
  rw [w64 (x := i + j) (by omega) (by omega), u64w (by omega) (by omega), w64 (by omega) (by omega)]
/-- A search by halves. -/
theorem search_ev (n : Int) (Q : Int → Prop) (L : Int → Int → Nat → Option Int)
    (hend : ∀ i, 0 ≤ i → i ≤ n → Ev (L i i) i) (hyes : ∀ i j, 0 ≤ i → i < j → j ≤ n → Q ((i + j) / 2) → ∀ r, Ev (L i ((i + j) / 2)) r → Ev (L i j) r)
    (hno : ∀ i j, 0 ≤ i → i < j → j ≤ n → ¬ Q ((i + j) / 2) → ∀ r, Ev (L ((i + j) / 2 + 1) j) r → Ev (L i j) r)
    (mono : ∀ a b, 0 ≤ a → a ≤ b → b < n → Q a → Q b) (hn : 0 ≤ n) :
    ∃ r, Ev (L 0 n) r ∧ 0 ≤ r ∧ r ≤ n ∧ (∀ a, 0 ≤ a → a < r → ¬ Q a) ∧ (∀ a, r ≤ a → a < n → Q a) := by
  have go : ∀ (d : Nat) (i j : Int), 0 ≤ i → i ≤ j → j ≤ n → j - i ≤ d → (∀ a, 0 ≤ a → a < i → ¬ Q a) → (∀ a, j ≤ a → a < n → Q a) →
      ∃ r, Ev (L i j) r ∧ 0 ≤ r ∧ r ≤ n ∧ (∀ a, 0 ≤ a → a < r → ¬ Q a) ∧ (∀ a, r ≤ a → a < n → Q a) := by
    intro d
    induction d with
    | zero =>
      intro i j h0 h1 h2 h3 hl hr
      obtain rfl : i = j := by omega
      exact ⟨i, hend i h0 h2, h0, h2, hl, hr⟩
    | succ d ih =>
      intro i j h0 h1 h2 h3 hl hr
      by_cases e : i = j
      · subst e
        exact ⟨i, hend i h0 h2, h0, h2, hl, hr⟩
      · by_cases q : Q ((i + j) / 2)
        · obtain ⟨r, hr2, h⟩ := ih i ((i + j) / 2) h0 (by omega) (by omega) (by omega) hl (fun a ha hb => mono ((i + j) / 2) a (by omega) ha hb q)
          exact ⟨r, hyes i j h0 (by omega) h2 q r hr2, h⟩
        · obtain ⟨r, hr2, h⟩ := ih ((i + j) / 2 + 1) j (by omega) (by omega) h2 (by omega) (fun a ha hb qa => q (mono a ((i + j) / 2) ha (by omega) (by omega) qa)) hr
          exact ⟨r, hno i j h0 (by omega) h2 q r hr2, h⟩
  exact go n.toNat 0 n (by omega) hn (by omega) (by omega) (fun a h0 h1 => absurd h1 (by omega)) (fun a h0 h1 => absurd h1 (by omega))
end Go.Proofs.YtgjoenoknknoiaaDoor.PL
