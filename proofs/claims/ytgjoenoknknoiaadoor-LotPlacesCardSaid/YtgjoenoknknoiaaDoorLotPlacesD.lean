/-
A part of what these laws rest on: contracts of the functions that they reach, and plain lemmas.
-/
import Derived.Test.YtgjoenoknknoiaaDoorLotPlacesC
set_option linter.unusedVariables false
set_option linter.unusedSimpArgs false
namespace Go.Proofs.YtgjoenoknknoiaaDoor.Pr
open Go.RowKit Go.Proofs.YtgjoenoknknoiaaDoorW.PrintWords Go.Proofs.YtgjoenoknknoiaaDoorW.PrintLast Go.Proofs.YtgjoenoknknoiaaDoorW.PrintMore Go.Proofs.YtgjoenoknknoiaaDoor.X
attribute [local go_sem] max2_int min2_int max_two min_two max_three min_three max_four min_four   -- for this text's walks alone
set_option linter.unusedVariables false
set_option linter.unusedSimpArgs false
attribute [local go_sem high] eqA26
mutual
def lot_Put.j0 : Nat → Bool → List (S33) → Int → Int → Int → List (S35) → Option ((List (S33)) × Int)
 | 0, _, _, _, _, _, _ => none
 | k + 1, x6, x267000, x268000, x268001, x268002, x268003 => (lot_fault.f k (([(⟨x268000, (⟨x268001, x268002⟩ : S26), x268003⟩ : S33)] : List (S33))) 0).bind fun t271 => ((lot_right.f k x267000).bind fun t272 => (if t272 = true then (if t271 = 2 then (some (([] : List (S33)), t271)) else (if x6 = true then (lot_Put.j1 k x6 x267000 x268000 x268001 x268002 x268003) else (if t271 = 0 then (lot_Put.j1 k x6 x267000 x268000 x268001 x268002 x268003) else (some (([] : List (S33)), t271))))) else (some (([] : List (S33)), 1))))
def lot_Put.j1 : Nat → Bool → List (S33) → Int → Int → Int → List (S35) → Option ((List (S33)) × Int)
 | 0, _, _, _, _, _, _ => none
 | k + 1, x6, x267000, x268000, x268001, x268002, x268003 => (sort_Search_44_at_45.f k (x267000.length : Int) x267000 x268000 x268001 x268002 x268003).bind fun t273 => (if 0 ≤ t273 then (if t273 ≤ (x267000.length : Int) then ((some (x267000.drop (t273 : Int).toNat : List (S33))).bind fun y274 => (if t273 < (x267000.length : Int) then (lot_Put.j2 k x6 t273 y274 (((rd_T33 x267000 t273).f0) == x268000) x267000 x268000 x268001 x268002 x268003) else (lot_Put.j2 k x6 t273 y274 false x267000 x268000 x268001 x268002 x268003))) else (none)) else (none))
def lot_Put.j2 : Nat → Bool → Int → List (S33) → Bool → List (S33) → Int → Int → Int → List (S35) → Option ((List (S33)) × Int)
 | 0, _, _, _, _, _, _, _, _, _ => none
 | k + 1, x6, x8, x9, x64, x267000, x268000, x268001, x268002, x268003 => if x64 = true then (if 0 ≤ (wrap64 (x8 + 1)) then (if (wrap64 (x8 + 1)) ≤ (x267000.length : Int) then (lot_Put.j3 k x6 x8 (x267000.drop ((wrap64 (x8 + 1)) : Int).toNat) x267000 x268000 x268001 x268002 x268003) else (none)) else (none)) else (lot_Put.j3 k x6 x8 x9 x267000 x268000 x268001 x268002 x268003)
def lot_Put.j3 : Nat → Bool → Int → List (S33) → List (S33) → Int → Int → Int → List (S35) → Option ((List (S33)) × Int)
 | 0, _, _, _, _, _, _, _, _ => none
 | k + 1, x6, x8, x9, x267000, x268000, x268001, x268002, x268003 => if 0 ≤ x8 then (if x8 ≤ (x267000.length : Int) then ((some (x267000.take (x8 : Int).toNat : List (S33))).bind fun y285 => (lot_Put.l0 k x6 x9 ([] : List (S33)) y285 (y285.length : Int) 0 x268000 x268001 x268002 x268003)) else (none)) else (none)
def lot_Put.l0 : Nat → Bool → List (S33) → List (S33) → List (S33) → Int → Int → Int → Int → Int → List (S35) → Option ((List (S33)) × Int)
 | 0, _, _, _, _, _, _, _, _, _, _ => none
 | k + 1, x6, x9, x10, x71, x72, x73, x268000, x268001, x268002, x268003 => if x73 < x72 then (if 0 ≤ x73 then (if x73 < (x71.length : Int) then ((lot_own.f ((rd_T33 x71 x73).f0) ((rd_T33 x71 x73).f1.f0) ((rd_T33 x71 x73).f1.f1) ((rd_T33 x71 x73).f2)).bind fun bt292 => (if x10.length < 2932031007402 then (lot_Put.l0 k x6 x9 (x10 ++ [(⟨bt292.1, (⟨bt292.2.1, bt292.2.2.1⟩ : S26), bt292.2.2.2⟩ : S33)]) x71 x72 (wrap64 (x73 + 1)) x268000 x268001 x268002 x268003) else (none))) else (none)) else (none)) else (if x6 = true then (lot_Put.j5 k x9 x10) else ((lot_own.f x268000 x268001 x268002 x268003).bind fun bt301 => (if x10.length < 2932031007402 then (lot_Put.j5 k x9 (x10 ++ [(⟨bt301.1, (⟨bt301.2.1, bt301.2.2.1⟩ : S26), bt301.2.2.2⟩ : S33)])) else (none))))
def lot_Put.j5 : Nat → List (S33) → List (S33) → Option ((List (S33)) × Int)
 | 0, _, _ => none
 | k + 1, x9, x10 => lot_Put.l1 k x10 x9 (x9.length : Int) 0
def lot_Put.l1 : Nat → List (S33) → List (S33) → Int → Int → Option ((List (S33)) × Int)
 | 0, _, _, _, _ => none
 | k + 1, x10, x90, x91, x92 => if x92 < x91 then (if 0 ≤ x92 then (if x92 < (x90.length : Int) then ((lot_own.f ((rd_T33 x90 x92).f0) ((rd_T33 x90 x92).f1.f0) ((rd_T33 x90 x92).f1.f1) ((rd_T33 x90 x92).f2)).bind fun bt312 => (if x10.length < 2932031007402 then (lot_Put.l1 k (x10 ++ [(⟨bt312.1, (⟨bt312.2.1, bt312.2.2.1⟩ : S26), bt312.2.2.2⟩ : S33)]) x90 x91 (wrap64 (x92 + 1))) else (none))) else (none)) else (none)) else (if (x10.length : Int) > 32 then (some (([] : List (S33)), 8)) else (some (x10, 0)))
end
def lot_Put.f (k : Nat) (l0 : List (S33)) (a1_0 : Int) (a1_1 : Int) (a1_2 : Int) (l1_3 : List (S35)) : Option ((List (S33)) × Int) := if (a1_1 == 0 && (a1_2 == 0)) = true then (lot_Put.j0 k ((l1_3.length : Int) == 0) l0 a1_0 a1_1 a1_2 l1_3) else (lot_Put.j0 k false l0 a1_0 a1_1 a1_2 l1_3)
theorem lot_Put.mono_l : ∀ k, (∀ y0 y1 y2 y3 y4 y5, LeO (lot_Put.j0 k y0 y1 y2 y3 y4 y5) (lot_Put.j0 (k + 1) y0 y1 y2 y3 y4 y5)) ∧ (∀ y0 y1 y2 y3 y4 y5, LeO (lot_Put.j1 k y0 y1 y2 y3 y4 y5) (lot_Put.j1 (k + 1) y0 y1 y2 y3 y4 y5)) ∧ (∀ y0 y1 y2 y3 y4 y5 y6 y7 y8, LeO (lot_Put.j2 k y0 y1 y2 y3 y4 y5 y6 y7 y8) (lot_Put.j2 (k + 1) y0 y1 y2 y3 y4 y5 y6 y7 y8)) ∧ (∀ y0 y1 y2 y3 y4 y5 y6 y7, LeO (lot_Put.j3 k y0 y1 y2 y3 y4 y5 y6 y7) (lot_Put.j3 (k + 1) y0 y1 y2 y3 y4 y5 y6 y7)) ∧ (∀ y0 y1 y2 y3 y4 y5 y6 y7 y8 y9, LeO (lot_Put.l0 k y0 y1 y2 y3 y4 y5 y6 y7 y8 y9) (lot_Put.l0 (k + 1) y0 y1 y2 y3 y4 y5 y6 y7 y8 y9)) ∧ (∀ y0 y1, LeO (lot_Put.j5 k y0 y1) (lot_Put.j5 (k + 1) y0 y1)) ∧ (∀ y0 y1 y2 y3, LeO (lot_Put.l1 k y0 y1 y2 y3) (lot_Put.l1 (k + 1) y0 y1 y2 y3))
 | 0 => ⟨fun _ _ _ _ _ _ r h => by simp [lot_Put.j0] at h, fun _ _ _ _ _ _ r h => by simp [lot_Put.j1] at h, fun _ _ _ _ _ _ _ _ _ r h => by simp [lot_Put.j2] at h, fun _ _ _ _ _ _ _ _ r h => by simp [lot_Put.j3] at h, fun _ _ _ _ _ _ _ _ _ _ r h => by simp [lot_Put.l0] at h, fun _ _ r h => by simp [lot_Put.j5] at h, fun _ _ _ _ r h => by simp [lot_Put.l1] at h⟩
 | k + 1 => by
  obtain ⟨ih0, ih1, ih2, ih3, ih4, ih5, ih6⟩ := lot_Put.mono_l k
  refine ⟨?_, ?_, ?_, ?_, ?_, ?_, ?_⟩
  ·
   intro y0 y1 y2 y3 y4 y5
   unfold lot_Put.j0
   repeat' first
   | (with_reducible exact ih0 _ _ _ _ _ _)
   | (with_reducible exact ih1 _ _ _ _ _ _)
   | (with_reducible exact ih2 _ _ _ _ _ _ _ _ _)
   | (with_reducible exact ih3 _ _ _ _ _ _ _ _)
   | (with_reducible exact ih4 _ _ _ _ _ _ _ _ _ _)
   | (with_reducible exact ih5 _ _)
   | (with_reducible exact ih6 _ _ _ _)
   | (with_reducible exact lot_fault.mono _ _ _)
   | (with_reducible exact lot_right.mono _ _)
   | (with_reducible exact sort_Search_44_at_45.mono _ _ _ _ _ _ _)
   | (with_reducible exact LeO.refl _)
   | (with_reducible exact LeO.none _)
   | (with_reducible refine LeO.ite ?_ ?_)
   | (with_reducible refine LeO.bind ?_ (fun _ => ?_))
   | exact ih0 _ _ _ _ _ _
   | exact ih1 _ _ _ _ _ _
   | exact ih2 _ _ _ _ _ _ _ _ _
   | exact ih3 _ _ _ _ _ _ _ _
   | exact ih4 _ _ _ _ _ _ _ _ _ _
   | exact ih5 _ _
   | exact ih6 _ _ _ _
   | exact lot_fault.mono _ _ _
   | exact lot_right.mono _ _
   | exact sort_Search_44_at_45.mono _ _ _ _ _ _ _
   | exact LeO.none _
   | refine LeO.ite ?_ ?_
   | refine LeO.bind ?_ (fun _ => ?_)
  ·
   intro y0 y1 y2 y3 y4 y5
   unfold lot_Put.j1
   repeat' first
   | (with_reducible exact ih0 _ _ _ _ _ _)
   | (with_reducible exact ih1 _ _ _ _ _ _)
   | (with_reducible exact ih2 _ _ _ _ _ _ _ _ _)
   | (with_reducible exact ih3 _ _ _ _ _ _ _ _)
   | (with_reducible exact ih4 _ _ _ _ _ _ _ _ _ _)
   | (with_reducible exact ih5 _ _)
   | (with_reducible exact ih6 _ _ _ _)
   | (with_reducible exact lot_fault.mono _ _ _)
   | (with_reducible exact lot_right.mono _ _)
   | (with_reducible exact sort_Search_44_at_45.mono _ _ _ _ _ _ _)
   | (with_reducible exact LeO.refl _)
   | (with_reducible exact LeO.none _)
   | (with_reducible refine LeO.ite ?_ ?_)
   | (with_reducible refine LeO.bind ?_ (fun _ => ?_))
   | exact ih0 _ _ _ _ _ _
   | exact ih1 _ _ _ _ _ _
   | exact ih2 _ _ _ _ _ _ _ _ _
   | exact ih3 _ _ _ _ _ _ _ _
   | exact ih4 _ _ _ _ _ _ _ _ _ _
   | exact ih5 _ _
   | exact ih6 _ _ _ _
   | exact lot_fault.mono _ _ _
   | exact lot_right.mono _ _
   | exact sort_Search_44_at_45.mono _ _ _ _ _ _ _
   | exact LeO.none _
   | refine LeO.ite ?_ ?_
   | refine LeO.bind ?_ (fun _ => ?_)
  ·
   intro y0 y1 y2 y3 y4 y5 y6 y7 y8
   unfold lot_Put.j2
   repeat' first
   | (with_reducible exact ih0 _ _ _ _ _ _)
   | (with_reducible exact ih1 _ _ _ _ _ _)
   | (with_reducible exact ih2 _ _ _ _ _ _ _ _ _)
   | (with_reducible exact ih3 _ _ _ _ _ _ _ _)
   | (with_reducible exact ih4 _ _ _ _ _ _ _ _ _ _)
   | (with_reducible exact ih5 _ _)
   | (with_reducible exact ih6 _ _ _ _)
   | (with_reducible exact lot_fault.mono _ _ _)
   | (with_reducible exact lot_right.mono _ _)
   | (with_reducible exact sort_Search_44_at_45.mono _ _ _ _ _ _ _)
   | (with_reducible exact LeO.refl _)
   | (with_reducible exact LeO.none _)
   | (with_reducible refine LeO.ite ?_ ?_)
   | (with_reducible refine LeO.bind ?_ (fun _ => ?_))
   | exact ih0 _ _ _ _ _ _
   | exact ih1 _ _ _ _ _ _
   | exact ih2 _ _ _ _ _ _ _ _ _
   | exact ih3 _ _ _ _ _ _ _ _
   | exact ih4 _ _ _ _ _ _ _ _ _ _
   | exact ih5 _ _
   | exact ih6 _ _ _ _
   | exact lot_fault.mono _ _ _
   | exact lot_right.mono _ _
   | exact sort_Search_44_at_45.mono _ _ _ _ _ _ _
   | exact LeO.none _
   | refine LeO.ite ?_ ?_
   | refine LeO.bind ?_ (fun _ => ?_)
  ·
   intro y0 y1 y2 y3 y4 y5 y6 y7
   unfold lot_Put.j3
   repeat' first
   | (with_reducible exact ih0 _ _ _ _ _ _)
   | (with_reducible exact ih1 _ _ _ _ _ _)
   | (with_reducible exact ih2 _ _ _ _ _ _ _ _ _)
   | (with_reducible exact ih3 _ _ _ _ _ _ _ _)
   | (with_reducible exact ih4 _ _ _ _ _ _ _ _ _ _)
   | (with_reducible exact ih5 _ _)
   | (with_reducible exact ih6 _ _ _ _)
   | (with_reducible exact lot_fault.mono _ _ _)
   | (with_reducible exact lot_right.mono _ _)
   | (with_reducible exact sort_Search_44_at_45.mono _ _ _ _ _ _ _)
   | (with_reducible exact LeO.refl _)
   | (with_reducible exact LeO.none _)
   | (with_reducible refine LeO.ite ?_ ?_)
   | (with_reducible refine LeO.bind ?_ (fun _ => ?_))
   | exact ih0 _ _ _ _ _ _
   | exact ih1 _ _ _ _ _ _
   | exact ih2 _ _ _ _ _ _ _ _ _
   | exact ih3 _ _ _ _ _ _ _ _
   | exact ih4 _ _ _ _ _ _ _ _ _ _
   | exact ih5 _ _
   | exact ih6 _ _ _ _
   | exact lot_fault.mono _ _ _
   | exact lot_right.mono _ _
   | exact sort_Search_44_at_45.mono _ _ _ _ _ _ _
   | exact LeO.none _
   | refine LeO.ite ?_ ?_
   | refine LeO.bind ?_ (fun _ => ?_)
  ·
   intro y0 y1 y2 y3 y4 y5 y6 y7 y8 y9
   unfold lot_Put.l0
   repeat' first
   | (with_reducible exact ih0 _ _ _ _ _ _)
   | (with_reducible exact ih1 _ _ _ _ _ _)
   | (with_reducible exact ih2 _ _ _ _ _ _ _ _ _)
   | (with_reducible exact ih3 _ _ _ _ _ _ _ _)
   | (with_reducible exact ih4 _ _ _ _ _ _ _ _ _ _)
   | (with_reducible exact ih5 _ _)
   | (with_reducible exact ih6 _ _ _ _)
   | (with_reducible exact lot_fault.mono _ _ _)
   | (with_reducible exact lot_right.mono _ _)
   | (with_reducible exact sort_Search_44_at_45.mono _ _ _ _ _ _ _)
   | (with_reducible exact LeO.refl _)
   | (with_reducible exact LeO.none _)
   | (with_reducible refine LeO.ite ?_ ?_)
   | (with_reducible refine LeO.bind ?_ (fun _ => ?_))
   | exact ih0 _ _ _ _ _ _
   | exact ih1 _ _ _ _ _ _
   | exact ih2 _ _ _ _ _ _ _ _ _
   | exact ih3 _ _ _ _ _ _ _ _
   | exact ih4 _ _ _ _ _ _ _ _ _ _
   | exact ih5 _ _
   | exact ih6 _ _ _ _
   | exact lot_fault.mono _ _ _
   | exact lot_right.mono _ _
   | exact sort_Search_44_at_45.mono _ _ _ _ _ _ _
   | exact LeO.none _
   | refine LeO.ite ?_ ?_
   | refine LeO.bind ?_ (fun _ => ?_)
  ·
   intro y0 y1
   unfold lot_Put.j5
   repeat' first
   | (with_reducible exact ih0 _ _ _ _ _ _)
   | (with_reducible exact ih1 _ _ _ _ _ _)
   | (with_reducible exact ih2 _ _ _ _ _ _ _ _ _)
   | (with_reducible exact ih3 _ _ _ _ _ _ _ _)
   | (with_reducible exact ih4 _ _ _ _ _ _ _ _ _ _)
   | (with_reducible exact ih5 _ _)
   | (with_reducible exact ih6 _ _ _ _)
   | (with_reducible exact lot_fault.mono _ _ _)
   | (with_reducible exact lot_right.mono _ _)
   | (with_reducible exact sort_Search_44_at_45.mono _ _ _ _ _ _ _)
   | (with_reducible exact LeO.refl _)
   | (with_reducible exact LeO.none _)
   | (with_reducible refine LeO.ite ?_ ?_)
   | (with_reducible refine LeO.bind ?_ (fun _ => ?_))
   | exact ih0 _ _ _ _ _ _
   | exact ih1 _ _ _ _ _ _
   | exact ih2 _ _ _ _ _ _ _ _ _
   | exact ih3 _ _ _ _ _ _ _ _
   | exact ih4 _ _ _ _ _ _ _ _ _ _
   | exact ih5 _ _
   | exact ih6 _ _ _ _
   | exact lot_fault.mono _ _ _
   | exact lot_right.mono _ _
   | exact sort_Search_44_at_45.mono _ _ _ _ _ _ _
   | exact LeO.none _
   | refine LeO.ite ?_ ?_
   | refine LeO.bind ?_ (fun _ => ?_)
  ·
   intro y0 y1 y2 y3
   unfold lot_Put.l1
   repeat' first
   | (with_reducible exact ih0 _ _ _ _ _ _)
   | (with_reducible exact ih1 _ _ _ _ _ _)
   | (with_reducible exact ih2 _ _ _ _ _ _ _ _ _)
   | (with_reducible exact ih3 _ _ _ _ _ _ _ _)
   | (with_reducible exact ih4 _ _ _ _ _ _ _ _ _ _)
   | (with_reducible exact ih5 _ _)
   | (with_reducible exact ih6 _ _ _ _)
   | (with_reducible exact lot_fault.mono _ _ _)
   | (with_reducible exact lot_right.mono _ _)
   | (with_reducible exact sort_Search_44_at_45.mono _ _ _ _ _ _ _)
   | (with_reducible exact LeO.refl _)
   | (with_reducible exact LeO.none _)
   | (with_reducible refine LeO.ite ?_ ?_)
   | (with_reducible refine LeO.bind ?_ (fun _ => ?_))
   | exact ih0 _ _ _ _ _ _
   | exact ih1 _ _ _ _ _ _
   | exact ih2 _ _ _ _ _ _ _ _ _
   | exact ih3 _ _ _ _ _ _ _ _
   | exact ih4 _ _ _ _ _ _ _ _ _ _
   | exact ih5 _ _
   | exact ih6 _ _ _ _
   | exact lot_fault.mono _ _ _
   | exact lot_right.mono _ _
   | exact sort_Search_44_at_45.mono _ _ _ _ _ _ _
   | exact LeO.none _
   | refine LeO.ite ?_ ?_
   | refine LeO.bind ?_ (fun _ => ?_)
theorem lot_Put.mono : ∀ a0 a1 a2 a3 a4 k, LeO (lot_Put.f k a0 a1 a2 a3 a4) (lot_Put.f (k + 1) a0 a1 a2 a3 a4) := by
 intro a0 a1 a2 a3 a4 k
 obtain ⟨ih0, ih1, ih2, ih3, ih4, ih5, ih6⟩ := lot_Put.mono_l k
 unfold lot_Put.f
 repeat' first
   | (with_reducible exact ih0 _ _ _ _ _ _)
   | (with_reducible exact ih1 _ _ _ _ _ _)
   | (with_reducible exact ih2 _ _ _ _ _ _ _ _ _)
   | (with_reducible exact ih3 _ _ _ _ _ _ _ _)
   | (with_reducible exact ih4 _ _ _ _ _ _ _ _ _ _)
   | (with_reducible exact ih5 _ _)
   | (with_reducible exact ih6 _ _ _ _)
   | (with_reducible exact lot_fault.mono _ _ _)
   | (with_reducible exact lot_right.mono _ _)
   | (with_reducible exact sort_Search_44_at_45.mono _ _ _ _ _ _ _)
   | (with_reducible exact LeO.refl _)
   | (with_reducible exact LeO.none _)
   | (with_reducible refine LeO.ite ?_ ?_)
   | (with_reducible refine LeO.bind ?_ (fun _ => ?_))
   | exact ih0 _ _ _ _ _ _
   | exact ih1 _ _ _ _ _ _
   | exact ih2 _ _ _ _ _ _ _ _ _
   | exact ih3 _ _ _ _ _ _ _ _
   | exact ih4 _ _ _ _ _ _ _ _ _ _
   | exact ih5 _ _
   | exact ih6 _ _ _ _
   | exact lot_fault.mono _ _ _
   | exact lot_right.mono _ _
   | exact sort_Search_44_at_45.mono _ _ _ _ _ _ _
   | exact LeO.none _
   | refine LeO.ite ?_ ?_
   | refine LeO.bind ?_ (fun _ => ?_)
end Go.Proofs.YtgjoenoknknoiaaDoor.Pr
