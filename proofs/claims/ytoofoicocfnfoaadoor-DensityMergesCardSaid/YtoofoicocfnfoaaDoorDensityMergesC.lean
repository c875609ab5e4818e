/-
A part of what these laws rest on: contracts of the functions that they reach, and plain lemmas.
-/
import Derived.Test.YtoofoicocfnfoaaDoorDensityMergesB
set_option linter.unusedVariables false
set_option linter.unusedSimpArgs false
namespace Go.Proofs.YtoofoicocfnfoaaDoor.Pr
open Go.RowKit Go.Proofs.YtoofoicocfnfoaaDoorW.PrintWords Go.Proofs.YtoofoicocfnfoaaDoorW.PrintLast Go.Proofs.YtoofoicocfnfoaaDoorW.PrintMore Go.Proofs.YtoofoicocfnfoaaDoor.X
attribute [local go_sem] max2_int min2_int max_two min_two max_three min_three max_four min_four   -- for this text's walks alone
set_option linter.unusedVariables false
set_option linter.unusedSimpArgs false
mutual
def density_Merge.j0 : Nat → List (S30) → List (S30) → Bool → Option ((List (S30)) × Int)
 | 0, _, _, _ => none
 | k + 1, x0, x1, x16 => if x16 = true then (some (([] : List (S30)), 1)) else (density_Merge.l0 k x0 x1 ([] : List (S30)))
def density_Merge.l0 : Nat → List (S30) → List (S30) → List (S30) → Option ((List (S30)) × Int)
 | 0, _, _, _ => none
 | k + 1, x0, x1, x6 => if (x0.length : Int) > 0 then (density_Merge.j2 k x0 x1 x6 true) else (density_Merge.j2 k x0 x1 x6 (decide ((x1.length : Int) > 0)))
def density_Merge.j2 : Nat → List (S30) → List (S30) → List (S30) → Bool → Option ((List (S30)) × Int)
 | 0, _, _, _, _ => none
 | k + 1, x0, x1, x6, x24 => if x24 = true then (if (x1.length : Int) = 0 then (density_Merge.j3 k x0 x1 x6 true) else (if (x0.length : Int) > 0 then (if 0 < (x0.length : Int) then (if 0 < (x1.length : Int) then (density_Merge.j3 k x0 x1 x6 (decide (((rd_T30 x0 0).f0) < ((rd_T30 x1 0).f0)))) else (none)) else (none)) else (density_Merge.j3 k x0 x1 x6 false))) else ((density_Check.f k x6).bind fun bt199 => (if bt199.2 = 0 then (some (x6, 0)) else (some (([] : List (S30)), bt199.2))))
def density_Merge.j3 : Nat → List (S30) → List (S30) → List (S30) → Bool → Option ((List (S30)) × Int)
 | 0, _, _, _, _ => none
 | k + 1, x0, x1, x6, x33 => if x33 = true then (if 0 < (x0.length : Int) then (if x6.length < 8796093022208 then (if 1 ≤ (x0.length : Int) then (density_Merge.l0 k (x0.drop 1) x1 (x6 ++ [(⟨(rd_T30 x0 0).f0, (rd_T30 x0 0).f1⟩ : S30)])) else (none)) else (none)) else (none)) else (if (x0.length : Int) > 0 then (if 0 < (x0.length : Int) then (if 0 < (x1.length : Int) then (if ((rd_T30 x0 0).f0) = ((rd_T30 x1 0).f0) then (if 1 ≤ (x0.length : Int) then (density_Merge.l0 k (x0.drop 1) x1 x6) else (none)) else (if x6.length < 8796093022208 then (if 1 ≤ (x1.length : Int) then (density_Merge.l0 k x0 (x1.drop 1) (x6 ++ [(⟨(rd_T30 x1 0).f0, (rd_T30 x1 0).f1⟩ : S30)])) else (none)) else (none))) else (none)) else (none)) else (if 0 < (x1.length : Int) then (if x6.length < 8796093022208 then (if 1 ≤ (x1.length : Int) then (density_Merge.l0 k x0 (x1.drop 1) (x6 ++ [(⟨(rd_T30 x1 0).f0, (rd_T30 x1 0).f1⟩ : S30)])) else (none)) else (none)) else (none)))
end
def density_Merge.f (k : Nat) (l0 : List (S30)) (l1 : List (S30)) : Option ((List (S30)) × Int) := (density_right.f k l0).bind fun t197 => (if t197 = true then ((density_right.f k l1).bind fun t198 => (density_Merge.j0 k l0 l1 (!t198))) else (density_Merge.j0 k l0 l1 true))
def density_Merge.T5 : Bool × List (List Nat × List Nat) := (true, [([], []), ([], []), ([1], [1]), ([2], [2]), ([3], [3]), ([0, 4], [0, 4]), ([], []), ([6], [6]), ([5, 5, 0, 1, 2, 3, 4, 5], [0, 5]), ([7, 8, 0, 1, 2, 3, 4, 5, 6, 7, 8], [1, 6, 7])])
def density_Merge.B5 : List Nat := [0, 0, 2, 6, 14, 31, 0, 64, 63, 511]
theorem density_Merge.tab5 : rtab .any (opsOf Tryd.f20 5) = density_Merge.T5 := by kernel_rfl
theorem density_Merge.bits5 : waitsOk density_Merge.T5.2 density_Merge.B5 = true := by kernel_rfl
def density_Merge.T6 : Bool × List (List Nat × List Nat) := (true, [([], []), ([0], [0]), ([1], [1]), ([2], [2]), ([3], [3]), ([4, 3], [3, 4]), ([5, 3], [3, 5]), ([6, 3, 3], [3, 6]), ([7], [7]), ([8, 7], [7, 8]), ([9, 7], [7, 9]), ([10, 7], [7, 10]), ([7], [7]), ([12, 7], [7, 12]), ([13, 7], [7, 13]), ([14, 7], [7, 14]), ([11, 15, 7], [7, 11, 15]), ([7, 16, 3], [3, 7, 16]), ([3, 17], [3, 17]), ([18, 7], [18])])
def density_Merge.B6 : List Nat := [0, 1, 3, 7, 15, 31, 63, 127, 255, 511, 1023, 2047, 255, 4351, 12543, 28927, 65535, 131071, 262143, 524287]
theorem density_Merge.tab6 : rtab .any (opsOf Tryd.f20 6) = density_Merge.T6 := by kernel_rfl
theorem density_Merge.bits6 : waitsOk density_Merge.T6.2 density_Merge.B6 = true := by kernel_rfl
def density_Merge.T7 : Bool × List (List Nat × List Nat) := (true, [([], []), ([], []), ([1], [1]), ([2], [2]), ([3], [3]), ([0, 4], [0, 4]), ([], []), ([6], [6]), ([5, 5, 0, 1, 2, 3, 4, 5], [0, 5]), ([7, 8, 0, 1, 2, 3, 4, 5, 6, 7, 8], [1, 6, 7])])
def density_Merge.B7 : List Nat := [0, 0, 2, 6, 14, 31, 0, 64, 63, 511]
theorem density_Merge.tab7 : rtab .any (opsOf Tryd.f20 7) = density_Merge.T7 := by kernel_rfl
theorem density_Merge.bits7 : waitsOk density_Merge.T7.2 density_Merge.B7 = true := by kernel_rfl
def density_Merge.T8 : Bool × List (List Nat × List Nat) := (true, [([], []), ([0], [0]), ([1], [1]), ([2], [2]), ([3], [3]), ([4, 3], [3, 4]), ([5, 3], [3, 5]), ([6, 3], [3, 6]), ([3], [3]), ([8, 3], [3, 8]), ([9, 3], [3, 9]), ([10, 3], [3, 10]), ([7, 11, 3], [3, 7, 11]), ([3, 12], [3, 12]), ([13, 3], [13])])
def density_Merge.B8 : List Nat := [0, 1, 3, 7, 15, 31, 63, 127, 15, 271, 783, 1807, 4095, 8191, 16383]
theorem density_Merge.tab8 : rtab .any (opsOf Tryd.f20 8) = density_Merge.T8 := by kernel_rfl
theorem density_Merge.bits8 : waitsOk density_Merge.T8.2 density_Merge.B8 = true := by kernel_rfl
set_option maxHeartbeats 8000000 in
set_option maxRecDepth 100000 in
theorem density_Merge.calls (k : Nat) (P0_ : Nat → Prop) (A0 : Option Addr) (c0 : Nat) (l0 : List (S30)) (P1_ : Nat → Prop) (A1 : Option Addr) (c1 : Nat) (l1 : List (S30)) (r1 : List (S30)) (r2 : Int) (w : World) (hs0 : Kd.V k30 30 w w.heap.size (fun k_ => P0_ k_) (.slice A0 l0.length c0) l0) (hs1 : Kd.V k30 30 w w.heap.size (fun k_ => P1_ k_) (.slice A1 l1.length c1) l1) (h : density_Merge.f k l0 l1 = some (r1, r2)) :
  Calls Tryd.prog 20 #[.slice A0 l0.length c0, .slice A1 l1.length c1] w fun e w' => ∃ v0_ : Value, e = .returned (.tuple #[v0_, .int .i64 r2]) ∧ Kd.R k30 30 w' w.heap.size (fun k_ => (w.heap.size ≤ k_)) v0_ r1 ∧ Below w.heap.size w w' := by
 have hu30 := Tryd.underlying30
 have HO0 := Aside0.mk (show Kd.V k30 30 w w.heap.size (fun k_ => ((P0_ k_ ∨ P1_ k_) ∨ w.heap.size ≤ k_)) (.slice A0 l0.length c0) l0 from Kd.V_mono hs0 (fun k_ hk => .inl (.inl hk)))
 have HO1 := Aside0.mk (show Kd.V k30 30 w w.heap.size (fun k_ => ((P0_ k_ ∨ P1_ k_) ∨ w.heap.size ≤ k_)) (.slice A1 l1.length c1) l1 from Kd.V_mono hs1 (fun k_ hk => .inl (.inr hk)))
 have HB := Aside0.mk (Below.refl w.heap.size w)
 have H : ((density_right.f k l0).bind fun t197 => (if t197 = true then ((density_right.f k l1).bind fun t198 => (density_Merge.j0 k l0 l1 (!t198))) else (density_Merge.j0 k l0 l1 true))) = some (r1, r2) := h
 clear h
 have HC3 := Aside0.mk H
 clear H
 go_enter Tryd.func20, Tryd.ntmps20
 go_upto_region 1 with (fail)
 go_cut [16] (fun v16 wc => ∃ (kq : Nat) (x16_2 : Bool), v16 = .bool x16_2 ∧ Aside0 (density_Merge.j0 kq l0 l1 x16_2 = some (r1, r2)) ∧ Aside0 (kq ≤ k) ∧ Aside0 (Kd.V k30 30 wc w.heap.size (fun k_ => ((P0_ k_ ∨ P1_ k_) ∨ w.heap.size ≤ k_)) (.slice A0 l0.length c0) l0) ∧ Aside0 (Kd.V k30 30 wc w.heap.size (fun k_ => ((P0_ k_ ∨ P1_ k_) ∨ w.heap.size ≤ k_)) (.slice A1 l1.length c1) l1) ∧ Aside0 (Below w.heap.size w wc))
 case first =>
  have H := HC3.out
  clear HC3
  replace H := Option.bind_eq_some_iff.mp H
  obtain ⟨t197, A40, H⟩ := H
  replace H : (if t197 = true then ((density_right.f k l1).bind fun t198 => (density_Merge.j0 k l0 l1 (!t198))) else (density_Merge.j0 k l0 l1 true)) = some (r1, r2) := H
  have A4 := Aside0.mk A40
  clear A40
  by_cases c5 : t197 = true
  ·
   subst c5
   replace H : ((density_right.f k l1).bind fun t198 => (density_Merge.j0 k l0 l1 (!t198))) = some (r1, r2) := by rw [if_pos rfl] at H; exact H
   replace H := Option.bind_eq_some_iff.mp H
   obtain ⟨t198, A60, H⟩ := H
   replace H : (density_Merge.j0 k l0 l1 (!t198)) = some (r1, r2) := H
   have A6 := Aside0.mk A60
   clear A60
   have H' := Aside0.mk H
   clear H
   go_wp2_with (first | ((with_reducible refine gate_callee (f := 33) rfl ?_); refine goesL_ (some 10) rfl rfl Tryd.func33 (by kernel_rfl) rfl #[.slice A0 l0.length c0] rfl (by (try simp only [List.map_toArray, List.map_cons, List.map_nil]); first | done | rfl | (simp only [List.length_drop, List.length_take]; rfl)) ?_; (with_reducible refine (density_right.calls k _ _ l0 true _ ?side1 ?side2 A4.out).mono ?_); (case side1 => repeat (first | exact (Kd.V_reads' HO0.out).2.2 | (with_reducible refine Kd.C_alloc ?_ _) | (with_reducible refine Kd.C_drewN ?_ _) | (with_reducible refine Kd.C_drew ?_))); (case side2 => exact (Kd.V_reads' HO0.out).2.1); rintro e w7 ⟨rfl, hb⟩; refine ⟨_, rfl, ?_⟩; have n0_ := Aside0.mk (Kd.V_below (by (with_reducible repeat (first | apply Kd.V_alloc | apply Kd.V_drewN | apply Kd.V_drew)); exact HO0.out) hb); have n1_ := Aside0.mk (Kd.V_below (by (with_reducible repeat (first | apply Kd.V_alloc | apply Kd.V_drewN | apply Kd.V_drew)); exact HO1.out) hb); have n2_ := Aside0.mk (below_step (by repeat (with_reducible first | exact HB.out | apply below_alloc | apply pw_below_drewN | apply below_drew1)) hb); clear HO0; clear HO1; clear HB; have HO0 := n0_; have HO1 := n1_; have HB := n2_; clear n0_ n1_ n2_; (try clear hb); (try clear hb2); (try clear hk); (try clear hi)) | (go_at_call 33; (with_reducible refine (density_right.calls k _ _ l1 t198 _ ?side1 ?side2 A6.out).mono ?_); (case side1 => repeat (first | exact (Kd.V_reads' HO1.out).2.2 | (with_reducible refine Kd.C_alloc ?_ _) | (with_reducible refine Kd.C_drewN ?_ _) | (with_reducible refine Kd.C_drew ?_))); (case side2 => exact (Kd.V_reads' HO1.out).2.1); rintro e w8 ⟨rfl, hb⟩; have n0_ := Aside0.mk (Kd.V_below (by (with_reducible repeat (first | apply Kd.V_alloc | apply Kd.V_drewN | apply Kd.V_drew)); exact HO0.out) hb); have n1_ := Aside0.mk (Kd.V_below (by (with_reducible repeat (first | apply Kd.V_alloc | apply Kd.V_drewN | apply Kd.V_drew)); exact HO1.out) hb); have n2_ := Aside0.mk (below_step (by repeat (with_reducible first | exact HB.out | apply below_alloc | apply pw_below_drewN | apply below_drew1)) hb); clear HO0; clear HO1; clear HB; have HO0 := n0_; have HO1 := n1_; have HB := n2_; clear n0_ n1_ n2_; (try clear hb); (try clear hb2); (try clear hk); (try clear hi)))
   go_meet
   case rel => exact ⟨_, (!t198), (by first | rfl | (simp; done) | (simp [*]; done)), H', ⟨by first | omega | exact Nat.le_refl _⟩, ⟨by (with_reducible repeat (first | apply Kd.V_alloc | apply Kd.V_drewN | apply Kd.V_drew)); exact HO0.out⟩, ⟨by (with_reducible repeat (first | apply Kd.V_alloc | apply Kd.V_drewN | apply Kd.V_drew)); exact HO1.out⟩, ⟨by repeat (first | (with_reducible first | exact HB.out | apply below_alloc | apply pw_below_drewN | apply below_drew1) | exact HB.out)⟩⟩
  ·
   replace c5 := Bool.eq_false_iff.mpr c5
   subst c5
   replace H : (density_Merge.j0 k l0 l1 true) = some (r1, r2) := by rw [if_neg (show ¬ (false = true) by decide)] at H; exact H
   have H' := Aside0.mk H
   clear H
   go_wp2_with (first | ((with_reducible refine gate_callee (f := 33) rfl ?_); refine goesL_ (some 10) rfl rfl Tryd.func33 (by kernel_rfl) rfl #[.slice A0 l0.length c0] rfl (by (try simp only [List.map_toArray, List.map_cons, List.map_nil]); first | done | rfl | (simp only [List.length_drop, List.length_take]; rfl)) ?_; (with_reducible refine (density_right.calls k _ _ l0 false _ ?side1 ?side2 A4.out).mono ?_); (case side1 => repeat (first | exact (Kd.V_reads' HO0.out).2.2 | (with_reducible refine Kd.C_alloc ?_ _) | (with_reducible refine Kd.C_drewN ?_ _) | (with_reducible refine Kd.C_drew ?_))); (case side2 => exact (Kd.V_reads' HO0.out).2.1); rintro e w9 ⟨rfl, hb⟩; refine ⟨_, rfl, ?_⟩; have n0_ := Aside0.mk (Kd.V_below (by (with_reducible repeat (first | apply Kd.V_alloc | apply Kd.V_drewN | apply Kd.V_drew)); exact HO0.out) hb); have n1_ := Aside0.mk (Kd.V_below (by (with_reducible repeat (first | apply Kd.V_alloc | apply Kd.V_drewN | apply Kd.V_drew)); exact HO1.out) hb); have n2_ := Aside0.mk (below_step (by repeat (with_reducible first | exact HB.out | apply below_alloc | apply pw_below_drewN | apply below_drew1)) hb); clear HO0; clear HO1; clear HB; have HO0 := n0_; have HO1 := n1_; have HB := n2_; clear n0_ n1_ n2_; (try clear hb); (try clear hb2); (try clear hk); (try clear hi)))
   go_meet
   case rel => exact ⟨_, (true), (by first | rfl | (simp; done) | (simp [*]; done)), H', ⟨by first | omega | exact Nat.le_refl _⟩, ⟨by (with_reducible repeat (first | apply Kd.V_alloc | apply Kd.V_drewN | apply Kd.V_drew)); exact HO0.out⟩, ⟨by (with_reducible repeat (first | apply Kd.V_alloc | apply Kd.V_drewN | apply Kd.V_drew)); exact HO1.out⟩, ⟨by repeat (first | (with_reducible first | exact HB.out | apply below_alloc | apply pw_below_drewN | apply below_drew1) | exact HB.out)⟩⟩
 case rest =>
  clear HC3
  repeat first | clear c1 | clear c2 | clear p2 | clear c3 | clear c5
  obtain ⟨kq, x16_2, rfl, HA, HJ2, HO_0, HO_1, HB⟩ := hcut
  cases kq with
  | zero => exact absurd HA.out (by simp [density_Merge.j0])
  | succ kj2 =>
   have H := HA.out
   clear HA
   simp only [density_Merge.j0] at H
   by_cases c10 : x16_2 = true
   ·
    subst c10
    replace H : (some (([] : List (S30)), 1)) = some (r1, r2) := by rw [if_pos rfl] at H; exact H
    simp only [Option.some.injEq, Prod.mk.injEq] at H
    obtain ⟨rfl, rfl⟩ := H
    go_wp2
    go_ret2
    exact ⟨_, by first | rfl | (simp [errW_none, errW_some] <;> rfl) | (simp [*, errW_none, errW_some] <;> rfl), by first | exact Kd.R_nil _ _ _ _ _ | exact Kd.N_nil _ _ _ _ _ | exact Kd.V_nil _ _ _ _ _ | exact Kd.Q_nil _ _ _ _ _ | exact Kd.S_nil _ _ _ _ _, by repeat (first | (with_reducible first | exact HB.out | apply below_alloc | apply pw_below_drewN | apply below_drew1) | exact HB.out)⟩
   ·
    replace c10 := Bool.eq_false_iff.mpr c10
    subst c10
    replace H : (density_Merge.l0 kj2 l0 l1 ([] : List (S30))) = some (r1, r2) := by rw [if_neg (show ¬ (false = true) by decide)] at H; exact H
    have H' := Aside0.mk H
    clear H
    go_wp2
    go_loopg [0, 1, 6] kj2 (fun kq v0 v1 v6 w' => ∃ (x0_2 : List (S30)) (x1_2 : List (S30)) (x6_2 : List (S30)), Aside0 (density_Merge.l0 kq x0_2 x1_2 x6_2 = some (r1, r2)) ∧ Aside0 (kq ≤ kj2) ∧ Aside0 (Kd.V k30 30 w' w.heap.size (fun k_ => ((P0_ k_ ∨ P1_ k_) ∨ w.heap.size ≤ k_) ∧ some k_ ≠ (v6 : Value).ownBlock) v0 x0_2) ∧ Aside0 (Kd.V k30 30 w' w.heap.size (fun k_ => ((P0_ k_ ∨ P1_ k_) ∨ w.heap.size ≤ k_) ∧ some k_ ≠ (v6 : Value).ownBlock) v1 x1_2) ∧ Aside0 (Kd.R k30 30 w' w.heap.size (fun k_ => (w.heap.size ≤ k_)) v6 x6_2) ∧ Aside0 (Below w.heap.size w w'))
    case atStart => exact ⟨(l0), (l1), (([] : List (S30))), H', ⟨Nat.le_refl _⟩, ⟨by (with_reducible repeat (first | apply Kd.V_alloc | apply Kd.V_drewN | apply Kd.V_drew)); exact Kd.V_mono HO_0.out (fun _ hk => ⟨hk, (by simp [Value.ownBlock])⟩)⟩, ⟨by (with_reducible repeat (first | apply Kd.V_alloc | apply Kd.V_drewN | apply Kd.V_drew)); exact Kd.V_mono HO_1.out (fun _ hk => ⟨hk, (by simp [Value.ownBlock])⟩)⟩, ⟨by first | exact Kd.R_nil _ _ _ _ _ | exact Kd.N_nil _ _ _ _ _ | exact Kd.V_nil _ _ _ _ _ | exact Kd.Q_nil _ _ _ _ _ | exact Kd.S_nil _ _ _ _ _⟩, ⟨by repeat (first | (with_reducible first | exact HB.out | apply below_alloc | apply pw_below_drewN | apply below_drew1) | exact HB.out)⟩⟩
    case round =>
     clear H'
     repeat first | clear c1 | clear c2 | clear p2 | clear c3 | clear c5 | clear c10 | clear p2
     obtain ⟨x0_2, x1_2, x6_2, HA, HK2, HO_0, HO_1, HO_6, HB⟩ := hrel
     cases gk with
     | zero => exact absurd HA.out (by simp [density_Merge.l0])
     | succ k2 =>
      have H := HA.out
      clear HA
      simp only [density_Merge.l0] at H
      have HC11 := Aside0.mk H
      clear H
      go_upto_region 4 with (fail)
      go_cut [24] (fun v24 wc => ∃ (kq : Nat) (x24_10 : Bool), v24 = .bool x24_10 ∧ Aside0 (density_Merge.j2 kq x0_2 x1_2 x6_2 x24_10 = some (r1, r2)) ∧ Aside0 (kq ≤ k2) ∧ Aside0 (Kd.V k30 30 wc w.heap.size (fun k_ => ((P0_ k_ ∨ P1_ k_) ∨ w.heap.size ≤ k_) ∧ some k_ ≠ (u6 : Value).ownBlock) u0 x0_2) ∧ Aside0 (Kd.V k30 30 wc w.heap.size (fun k_ => ((P0_ k_ ∨ P1_ k_) ∨ w.heap.size ≤ k_) ∧ some k_ ≠ (u6 : Value).ownBlock) u1 x1_2) ∧ Aside0 (Kd.R k30 30 wc w.heap.size (fun k_ => (w.heap.size ≤ k_)) u6 x6_2) ∧ Aside0 (Below w.heap.size w wc))
      case first =>
       have H := HC11.out
       clear HC11
       by_cases c12 : (x0_2.length : Int) > 0
       ·
        rw [if_pos c12] at H
        have c12b0 : decide (0 < (x0_2.length : Int)) = true := decide_eq_true c12
        have c12b1 : decide (0 < x0_2.length) = true := decide_eq_true (by omega)
        clear c12
        (first | rw [c12b0] | (simp only [i64_w, i32_w]; rw [c12b0]) | skip)
        have H' := Aside0.mk H
        clear H
        obtain ⟨Ao13, co13, eo13⟩ := Kd.V_slice HO_0.out
        subst eo13
        go_wp2
        go_meet
        case rel => exact ⟨_, (true), (by first | rfl | (simp; done) | (simp [*]; done)), H', ⟨by have := HJ2.out; have := HK2.out; first | omega | exact Nat.le_refl _⟩, ⟨by (with_reducible repeat (first | apply Kd.V_alloc | apply Kd.V_drewN | apply Kd.V_drew)); exact HO_0.out⟩, ⟨by (with_reducible repeat (first | apply Kd.V_alloc | apply Kd.V_drewN | apply Kd.V_drew)); exact HO_1.out⟩, ⟨by (with_reducible repeat (first | apply Kd.R_alloc | apply Kd.R_drewN | apply Kd.R_drew)); exact HO_6.out⟩, ⟨by repeat (first | (with_reducible first | exact HB.out | apply below_alloc | apply pw_below_drewN | apply below_drew1) | exact HB.out)⟩⟩
       ·
        rw [if_neg c12] at H
        have c12b0 : decide (0 < (x0_2.length : Int)) = false := decide_eq_false c12
        have c12b1 : decide (0 < x0_2.length) = false := decide_eq_false (by omega)
        clear c12
        (first | rw [c12b0] | (simp only [i64_w, i32_w]; rw [c12b0]) | skip)
        have H' := Aside0.mk H
        clear H
        obtain ⟨Ao14, co14, eo14⟩ := Kd.V_slice HO_0.out
        subst eo14
        obtain ⟨Ao15, co15, eo15⟩ := Kd.V_slice HO_1.out
        subst eo15
        go_wp2
        go_meet
        case rel => exact ⟨_, (decide ((x1_2.length : Int) > 0)), (by first | rfl | (simp; done) | (simp [*]; done)), H', ⟨by have := HJ2.out; have := HK2.out; first | omega | exact Nat.le_refl _⟩, ⟨by (with_reducible repeat (first | apply Kd.V_alloc | apply Kd.V_drewN | apply Kd.V_drew)); exact HO_0.out⟩, ⟨by (with_reducible repeat (first | apply Kd.V_alloc | apply Kd.V_drewN | apply Kd.V_drew)); exact HO_1.out⟩, ⟨by (with_reducible repeat (first | apply Kd.R_alloc | apply Kd.R_drewN | apply Kd.R_drew)); exact HO_6.out⟩, ⟨by repeat (first | (with_reducible first | exact HB.out | apply below_alloc | apply pw_below_drewN | apply below_drew1) | exact HB.out)⟩⟩
      case rest =>
       clear HC11
       repeat first | clear c1 | clear c2 | clear p2 | clear c3 | clear c5 | clear c10 | clear c12 | clear c12b0 | clear c12b1 | clear p2
       obtain ⟨kq, x24_10, rfl, HA, HJ10, HO_0, HO_1, HO_6, HB⟩ := hcut
       cases kq with
       | zero => exact absurd HA.out (by simp [density_Merge.j2])
       | succ kj10 =>
        have H := HA.out
        clear HA
        simp only [density_Merge.j2] at H
        by_cases c16 : x24_10 = true
        ·
         subst c16
         replace H : (if (x1_2.length : Int) = 0 then (density_Merge.j3 kj10 x0_2 x1_2 x6_2 true) else (if (x0_2.length : Int) > 0 then (if 0 < (x0_2.length : Int) then (if 0 < (x1_2.length : Int) then (density_Merge.j3 kj10 x0_2 x1_2 x6_2 (decide (((rd_T30 x0_2 0).f0) < ((rd_T30 x1_2 0).f0)))) else (none)) else (none)) else (density_Merge.j3 kj10 x0_2 x1_2 x6_2 false))) = some (r1, r2) := by rw [if_pos rfl] at H; exact H
         have HC17 := Aside0.mk H
         clear H
         go_upto_region 6 with (fail)
         go_cut [33] (fun v33 wc => ∃ (kq : Nat) (x33_16 : Bool), v33 = .bool x33_16 ∧ Aside0 (density_Merge.j3 kq x0_2 x1_2 x6_2 x33_16 = some (r1, r2)) ∧ Aside0 (kq ≤ kj10) ∧ Aside0 (Kd.V k30 30 wc w.heap.size (fun k_ => ((P0_ k_ ∨ P1_ k_) ∨ w.heap.size ≤ k_) ∧ some k_ ≠ (u6 : Value).ownBlock) u0 x0_2) ∧ Aside0 (Kd.V k30 30 wc w.heap.size (fun k_ => ((P0_ k_ ∨ P1_ k_) ∨ w.heap.size ≤ k_) ∧ some k_ ≠ (u6 : Value).ownBlock) u1 x1_2) ∧ Aside0 (Kd.R k30 30 wc w.heap.size (fun k_ => (w.heap.size ≤ k_)) u6 x6_2) ∧ Aside0 (Below w.heap.size w wc))
         case first =>
          have H := HC17.out
          clear HC17
          by_cases c18 : (x1_2.length : Int) = 0
          ·
           rw [if_pos c18] at H
           have c18b0 : ((x1_2.length : Int) == 0) = true := beq_iff_eq.mpr c18
           have c18b1 : ((x1_2.length : Int) != 0) = false := bne_eq_false_iff_eq.mpr c18
           clear c18
           (first | rw [c18b0] | (simp only [i64_w, i32_w]; rw [c18b0]) | skip)
           have H' := Aside0.mk H
           clear H
           try go_wp2
           have n0_ := Aside0.mk (Kd.V_drew HO_0.out)
           have n1_ := Aside0.mk (Kd.V_drew HO_1.out)
           have n2_ := Aside0.mk (Kd.R_drew HO_6.out)
           have n3_ := Aside0.mk (below_drew1 HB.out)
           clear HO_0
           clear HO_1
           clear HO_6
           clear HB
           have HO_0 := n0_
           have HO_1 := n1_
           have HO_6 := n2_
           have HB := n3_
           clear n0_ n1_ n2_ n3_
           obtain ⟨Ao20, co20, eo20⟩ := Kd.V_slice HO_1.out
           (first | subst eo20 | (injection eo20 with f1_ f2_ f3_; have f4_ := f1_.symm; have f5_ := f3_.symm; clear f1_ f2_ f3_; subst f4_; subst f5_))
           refine start_ (n := 20) (S := fun w' => True) (ds := []) #[false, false, false, false, false, false, false, false, false, false, false, false, false, false, false, false, false, false, false, false] (by kernel_rfl) rfl rfl trivial (fun hHeld => ?_); refine with_tabW density_Merge.tab6 density_Merge.bits6 (fun HT_ HW_ => ?_)
           generalize wc.drew = w19 at HO_0 HO_1 HO_6 HB hHeld ⊢
           refine pure_ (i := 0) (N := some 34) (v := ?_) (a' := ?_) #[true, false, false, false, false, false, false, false, false, false, false, false, false, false, false, false, false, false, false, false] rfl rfl (any_of HT_.out (by kernel_rfl)) (fun _ _ _ h => h) (Or.inl ⟨by rfl, ?_⟩) ?_ ?_
           rotate_left
           ·
            intro w'
            go_simp
            with_reducible rfl
           rotate_left
           ·
            simp only [Act.put, List.setIfInBounds_toArray, List.set_cons_zero, List.set_cons_succ, i64_w, i32_w]
            rfl
           refine pure_ (i := 1) (N := some 35) (v := ?_) (a' := ?_) #[true, true, false, false, false, false, false, false, false, false, false, false, false, false, false, false, false, false, false, false] rfl rfl (any_of HT_.out (by kernel_rfl)) (fun _ _ _ h => h) (Or.inl ⟨by rfl, ?_⟩) ?_ ?_
           rotate_left
           ·
            intro w'
            go_simp
            with_reducible rfl
           rotate_left
           ·
            simp only [Act.put, List.setIfInBounds_toArray, List.set_cons_zero, List.set_cons_succ, i64_w, i32_w]
            rfl
           refine pure_ (i := 2) (N := some 36) (v := ?_) (a' := ?_) #[true, true, true, false, false, false, false, false, false, false, false, false, false, false, false, false, false, false, false, false] rfl rfl (any_of HT_.out (by kernel_rfl)) (fun _ _ _ h => h) (Or.inl ⟨by rfl, ?_⟩) ?_ ?_
           rotate_left
           ·
            intro w'
            go_simp
            with_reducible rfl
           rotate_left
           ·
            simp only [Act.put, List.setIfInBounds_toArray, List.set_cons_zero, List.set_cons_succ, i64_w, i32_w]
            rfl
           refine pure_ (i := 3) (N := some 37) (v := ?_) (a' := ?_) #[true, true, true, true, false, false, false, false, false, false, false, false, false, false, false, false, false, false, false, false] rfl rfl (any_of HT_.out (by kernel_rfl)) (fun _ _ _ h => h) (Or.inl ⟨by rfl, ?_⟩) ?_ ?_
           rotate_left
           ·
            intro w'
            go_simp
            with_reducible rfl
           rotate_left
           ·
            simp only [Act.put, List.setIfInBounds_toArray, List.set_cons_zero, List.set_cons_succ, i64_w, i32_w]
            rfl
           refine pure_ (i := 4) (N := some 38) (v := undef) (a' := ?_) #[true, true, true, true, true, false, false, false, false, false, false, false, false, false, false, false, false, false, false, false] rfl rfl (any_of HT_.out (by kernel_rfl)) (fun _ _ _ h => h) (Or.inr ⟨by rfl, rfl⟩) ?_ ?_
           rotate_left
           ·
            simp only [Act.put, List.setIfInBounds_toArray, List.set_cons_zero, List.set_cons_succ, i64_w, i32_w]
            rfl
           refine pure_ (i := 5) (N := some 39) (v := undef) (a' := ?_) #[true, true, true, true, true, true, false, false, false, false, false, false, false, false, false, false, false, false, false, false] rfl rfl (any_of HT_.out (by kernel_rfl)) (fun _ _ _ h => h) (Or.inr ⟨by rfl, rfl⟩) ?_ ?_
           rotate_left
           ·
            simp only [Act.put, List.setIfInBounds_toArray, List.set_cons_zero, List.set_cons_succ, i64_w, i32_w]
            rfl
           refine pure_ (i := 6) (N := some 40) (v := undef) (a' := ?_) #[true, true, true, true, true, true, true, false, false, false, false, false, false, false, false, false, false, false, false, false] rfl rfl (any_of HT_.out (by kernel_rfl)) (fun _ _ _ h => h) (Or.inr ⟨by rfl, rfl⟩) ?_ ?_
           rotate_left
           ·
            simp only [Act.put, List.setIfInBounds_toArray, List.set_cons_zero, List.set_cons_succ, i64_w, i32_w]
            rfl
           refine pure_ (i := 7) (N := some 41) (v := undef) (a' := ?_) #[true, true, true, true, true, true, true, true, false, false, false, false, false, false, false, false, false, false, false, false] rfl rfl (any_of HT_.out (by kernel_rfl)) (fun _ _ _ h => h) (Or.inr ⟨by rfl, rfl⟩) ?_ ?_
           rotate_left
           ·
            simp only [Act.put, List.setIfInBounds_toArray, List.set_cons_zero, List.set_cons_succ, i64_w, i32_w]
            rfl
           refine pure_ (i := 8) (N := some 42) (v := undef) (a' := ?_) #[true, true, true, true, true, true, true, true, true, false, false, false, false, false, false, false, false, false, false, false] rfl rfl (any_of HT_.out (by kernel_rfl)) (fun _ _ _ h => h) (Or.inr ⟨by rfl, rfl⟩) ?_ ?_
           rotate_left
           ·
            simp only [Act.put, List.setIfInBounds_toArray, List.set_cons_zero, List.set_cons_succ, i64_w, i32_w]
            rfl
           refine pure_ (i := 9) (N := some 43) (v := undef) (a' := ?_) #[true, true, true, true, true, true, true, true, true, true, false, false, false, false, false, false, false, false, false, false] rfl rfl (any_of HT_.out (by kernel_rfl)) (fun _ _ _ h => h) (Or.inr ⟨by rfl, rfl⟩) ?_ ?_
           rotate_left
           ·
            simp only [Act.put, List.setIfInBounds_toArray, List.set_cons_zero, List.set_cons_succ, i64_w, i32_w]
            rfl
           refine pure_ (i := 10) (N := some 44) (v := undef) (a' := ?_) #[true, true, true, true, true, true, true, true, true, true, true, false, false, false, false, false, false, false, false, false] rfl rfl (any_of HT_.out (by kernel_rfl)) (fun _ _ _ h => h) (Or.inr ⟨by rfl, rfl⟩) ?_ ?_
           rotate_left
           ·
            simp only [Act.put, List.setIfInBounds_toArray, List.set_cons_zero, List.set_cons_succ, i64_w, i32_w]
            rfl
           refine pure_ (i := 11) (N := some 45) (v := undef) (a' := ?_) #[true, true, true, true, true, true, true, true, true, true, true, true, false, false, false, false, false, false, false, false] rfl rfl (any_of HT_.out (by kernel_rfl)) (fun _ _ _ h => h) (Or.inr ⟨by rfl, rfl⟩) ?_ ?_
           rotate_left
           ·
            simp only [Act.put, List.setIfInBounds_toArray, List.set_cons_zero, List.set_cons_succ, i64_w, i32_w]
            rfl
           refine pure_ (i := 12) (N := some 46) (v := undef) (a' := ?_) #[true, true, true, true, true, true, true, true, true, true, true, true, true, false, false, false, false, false, false, false] rfl rfl (any_of HT_.out (by kernel_rfl)) (fun _ _ _ h => h) (Or.inr ⟨by rfl, rfl⟩) ?_ ?_
           rotate_left
           ·
            simp only [Act.put, List.setIfInBounds_toArray, List.set_cons_zero, List.set_cons_succ, i64_w, i32_w]
            rfl
           refine pure_ (i := 13) (N := some 47) (v := undef) (a' := ?_) #[true, true, true, true, true, true, true, true, true, true, true, true, true, true, false, false, false, false, false, false] rfl rfl (any_of HT_.out (by kernel_rfl)) (fun _ _ _ h => h) (Or.inr ⟨by rfl, rfl⟩) ?_ ?_
           rotate_left
           ·
            simp only [Act.put, List.setIfInBounds_toArray, List.set_cons_zero, List.set_cons_succ, i64_w, i32_w]
            rfl
           refine pure_ (i := 14) (N := some 48) (v := undef) (a' := ?_) #[true, true, true, true, true, true, true, true, true, true, true, true, true, true, true, false, false, false, false, false] rfl rfl (any_of HT_.out (by kernel_rfl)) (fun _ _ _ h => h) (Or.inr ⟨by rfl, rfl⟩) ?_ ?_
           rotate_left
           ·
            simp only [Act.put, List.setIfInBounds_toArray, List.set_cons_zero, List.set_cons_succ, i64_w, i32_w]
            rfl
           refine pure_ (i := 15) (N := some 49) (v := undef) (a' := ?_) #[true, true, true, true, true, true, true, true, true, true, true, true, true, true, true, true, false, false, false, false] rfl rfl (any_of HT_.out (by kernel_rfl)) (fun _ _ _ h => h) (Or.inr ⟨by rfl, rfl⟩) ?_ ?_
           rotate_left
           ·
            simp only [Act.put, List.setIfInBounds_toArray, List.set_cons_zero, List.set_cons_succ, i64_w, i32_w]
            rfl
           refine pure_ (i := 16) (N := some 50) (v := undef) (a' := ?_) #[true, true, true, true, true, true, true, true, true, true, true, true, true, true, true, true, true, false, false, false] rfl rfl (any_of HT_.out (by kernel_rfl)) (fun _ _ _ h => h) (Or.inr ⟨by rfl, rfl⟩) ?_ ?_
           rotate_left
           ·
            simp only [Act.put, List.setIfInBounds_toArray, List.set_cons_zero, List.set_cons_succ, i64_w, i32_w]
            rfl
           refine pure_ (i := 17) (N := some 51) (v := undef) (a' := ?_) #[true, true, true, true, true, true, true, true, true, true, true, true, true, true, true, true, true, true, false, false] rfl rfl (any_of HT_.out (by kernel_rfl)) (fun _ _ _ h => h) (Or.inr ⟨by rfl, rfl⟩) ?_ ?_
           rotate_left
           ·
            simp only [Act.put, List.setIfInBounds_toArray, List.set_cons_zero, List.set_cons_succ, i64_w, i32_w]
            rfl
           refine pure_ (i := 18) (N := some 52) (v := ?_) (a' := ?_) #[true, true, true, true, true, true, true, true, true, true, true, true, true, true, true, true, true, true, true, false] rfl rfl (any_of HT_.out (by kernel_rfl)) (fun _ _ _ h => h) (Or.inl ⟨by rfl, ?_⟩) ?_ ?_
           rotate_left
           ·
            intro w'
            go_simp
            with_reducible rfl
           rotate_left
           ·
            simp only [Act.put, List.setIfInBounds_toArray, List.set_cons_zero, List.set_cons_succ, i64_w, i32_w]
            rfl
           refine pure_ (i := 19) (N := some 33) (v := ?_) (a' := ?_) #[true, true, true, true, true, true, true, true, true, true, true, true, true, true, true, true, true, true, true, true] rfl rfl (any_of HT_.out (by kernel_rfl)) (fun _ _ _ h => h) (Or.inl ⟨by rfl, ?_⟩) ?_ ?_
           rotate_left
           ·
            intro w'
            go_simp
            with_reducible rfl
           rotate_left
           ·
            simp only [Act.put, List.setIfInBounds_toArray, List.set_cons_zero, List.set_cons_succ, i64_w, i32_w]
            rfl
           refine done_ (done_of HT_.out (by kernel_rfl)) ?_
           try go_wp2
           go_meet
           case rel => exact ⟨_, (true), (by first | rfl | (simp; done) | (simp [*]; done)), H', ⟨by have := HJ2.out; have := HK2.out; have := HJ10.out; first | omega | exact Nat.le_refl _⟩, ⟨by (with_reducible repeat (first | apply Kd.V_alloc | apply Kd.V_drewN | apply Kd.V_drew)); exact HO_0.out⟩, ⟨by (with_reducible repeat (first | apply Kd.V_alloc | apply Kd.V_drewN | apply Kd.V_drew)); exact HO_1.out⟩, ⟨by (with_reducible repeat (first | apply Kd.R_alloc | apply Kd.R_drewN | apply Kd.R_drew)); exact HO_6.out⟩, ⟨by repeat (first | (with_reducible first | exact HB.out | apply below_alloc | apply pw_below_drewN | apply below_drew1) | exact HB.out)⟩⟩
          ·
           rw [if_neg c18] at H
           have c18b0 : ((x1_2.length : Int) == 0) = false := beq_eq_false_iff_ne.mpr c18
           have c18b1 : ((x1_2.length : Int) != 0) = true := bne_iff_ne.mpr c18
           have c18b2 : ¬ (x1_2 = []) := fun h_ => c18 (by rw [h_]; rfl)
           (first | rw [c18b0] | (simp only [i64_w, i32_w]; rw [c18b0]) | skip)
           by_cases c21 : (x0_2.length : Int) > 0
           ·
            rw [if_pos c21] at H
            have c21b0 : decide (0 < (x0_2.length : Int)) = true := decide_eq_true c21
            have c21b1 : decide (0 < x0_2.length) = true := decide_eq_true (by omega)
            clear c21
            by_cases c22 : 0 < (x0_2.length : Int)
            ·
             rw [if_pos c22] at H
             have c22b0 : decide (0 < (x0_2.length : Int)) = true := decide_eq_true c22
             have c22b1 : decide (0 < x0_2.length) = true := decide_eq_true (by omega)
             clear c22
             by_cases c23 : 0 < (x1_2.length : Int)
             ·
              rw [if_pos c23] at H
              have c23b0 : decide (0 < (x1_2.length : Int)) = true := decide_eq_true c23
              have c23b1 : decide (0 < x1_2.length) = true := decide_eq_true (by omega)
              clear c23
              have H' := Aside0.mk H
              clear H
              try go_wp2
              have n0_ := Aside0.mk (Kd.V_drew HO_0.out)
              have n1_ := Aside0.mk (Kd.V_drew HO_1.out)
              have n2_ := Aside0.mk (Kd.R_drew HO_6.out)
              have n3_ := Aside0.mk (below_drew1 HB.out)
              clear HO_0
              clear HO_1
              clear HO_6
              clear HB
              have HO_0 := n0_
              have HO_1 := n1_
              have HO_6 := n2_
              have HB := n3_
              clear n0_ n1_ n2_ n3_
              obtain ⟨Ao25, co25, eo25⟩ := Kd.V_slice HO_1.out
              (first | subst eo25 | (injection eo25 with f1_ f2_ f3_; have f4_ := f1_.symm; have f5_ := f3_.symm; clear f1_ f2_ f3_; subst f4_; subst f5_))
              obtain ⟨Ao26, co26, eo26⟩ := Kd.V_slice HO_0.out
              (first | subst eo26 | (injection eo26 with f1_ f2_ f3_; have f4_ := f1_.symm; have f5_ := f3_.symm; clear f1_ f2_ f3_; subst f4_; subst f5_))
              have p201 : 0 ≤ (0 : Int) := (by omega)
              have q201 : 0 < (x0_2.length : Int) := of_decide_eq_true (by first | (with_reducible assumption) | assumption)
              obtain ⟨ad201, e201, hx201_0, hx201_1⟩ := at_T30 (Kd.V_reads' HO_0.out).2.2 0 p201 q201
              cases e201
              have qi201 : (0 < x0_2.length) = True := eq_true (by omega)
              (try rw [show ((0 : Int)).toNat = 0 from rfl] at hx201_0)
              (try rw [show 0 * 2 = 0 from rfl] at hx201_0)
              (try rw [Addr.add_zero'] at hx201_0)
              (try rw [show ((0 : Int)).toNat = 0 from rfl] at hx201_1)
              (try rw [show 0 * 2 = 0 from rfl] at hx201_1)
              (try rw [Addr.add_zero'] at hx201_1)
              replace p201 := eq_true p201
              replace q201 := eq_true q201
              have p202 : 0 ≤ (0 : Int) := (by omega)
              have q202 : 0 < (x1_2.length : Int) := of_decide_eq_true (by first | (with_reducible assumption) | assumption)
              obtain ⟨ad202, e202, hx202_0, hx202_1⟩ := at_T30 (Kd.V_reads' HO_1.out).2.2 0 p202 q202
              cases e202
              have qi202 : (0 < x1_2.length) = True := eq_true (by omega)
              (try rw [show ((0 : Int)).toNat = 0 from rfl] at hx202_0)
              (try rw [show 0 * 2 = 0 from rfl] at hx202_0)
              (try rw [Addr.add_zero'] at hx202_0)
              (try rw [show ((0 : Int)).toNat = 0 from rfl] at hx202_1)
              (try rw [show 0 * 2 = 0 from rfl] at hx202_1)
              (try rw [Addr.add_zero'] at hx202_1)
              replace p202 := eq_true p202
              replace q202 := eq_true q202
              refine start_ (n := 20) (S := fun w' => w'.cell? ad201 = some (.int .i64 ((rd_T30 x0_2 0).f0)) ∧ w'.cell? ⟨ad201.block, ad201.off + 1, none⟩ = some (.int .i64 ((rd_T30 x0_2 0).f1)) ∧ w'.cell? ad202 = some (.int .i64 ((rd_T30 x1_2 0).f0)) ∧ w'.cell? ⟨ad202.block, ad202.off + 1, none⟩ = some (.int .i64 ((rd_T30 x1_2 0).f1))) (ds := []) #[false, false, false, false, false, false, false, false, false, false, false, false, false, false, false, false, false, false, false, false] (by kernel_rfl) rfl rfl ⟨hx201_0, hx201_1, hx202_0, hx202_1⟩ (fun hHeld => ?_); refine with_tabW density_Merge.tab6 density_Merge.bits6 (fun HT_ HW_ => ?_)
              generalize wc.drew = w24 at HO_0 HO_1 HO_6 HB hx201_0 hx201_1 hx202_0 hx202_1 hHeld ⊢
              refine pure_ (i := 0) (N := some 34) (v := ?_) (a' := ?_) #[true, false, false, false, false, false, false, false, false, false, false, false, false, false, false, false, false, false, false, false] rfl rfl (any_of HT_.out (by kernel_rfl)) (fun _ _ _ h => h) (Or.inl ⟨by rfl, ?_⟩) ?_ ?_
              rotate_left
              ·
               intro w'
               go_simp
               with_reducible rfl
              rotate_left
              ·
               simp only [Act.put, List.setIfInBounds_toArray, List.set_cons_zero, List.set_cons_succ, i64_w, i32_w]
               rfl
              refine pure_ (i := 1) (N := some 35) (v := ?_) (a' := ?_) #[true, true, false, false, false, false, false, false, false, false, false, false, false, false, false, false, false, false, false, false] rfl rfl (any_of HT_.out (by kernel_rfl)) (fun _ _ _ h => h) (Or.inl ⟨by rfl, ?_⟩) ?_ ?_
              rotate_left
              ·
               intro w'
               go_simp
               with_reducible rfl
              rotate_left
              ·
               simp only [Act.put, List.setIfInBounds_toArray, List.set_cons_zero, List.set_cons_succ, i64_w, i32_w]
               rfl
              refine pure_ (i := 2) (N := some 36) (v := ?_) (a' := ?_) #[true, true, true, false, false, false, false, false, false, false, false, false, false, false, false, false, false, false, false, false] rfl rfl (any_of HT_.out (by kernel_rfl)) (fun _ _ _ h => h) (Or.inl ⟨by rfl, ?_⟩) ?_ ?_
              rotate_left
              ·
               intro w'
               go_simp
               with_reducible rfl
              rotate_left
              ·
               simp only [Act.put, List.setIfInBounds_toArray, List.set_cons_zero, List.set_cons_succ, i64_w, i32_w]
               rfl
              refine pure_ (i := 3) (N := some 37) (v := ?_) (a' := ?_) #[true, true, true, true, false, false, false, false, false, false, false, false, false, false, false, false, false, false, false, false] rfl rfl (any_of HT_.out (by kernel_rfl)) (fun _ _ _ h => h) (Or.inl ⟨by rfl, ?_⟩) ?_ ?_
              rotate_left
              ·
               intro w'
               go_simp
               with_reducible rfl
              rotate_left
              ·
               simp only [Act.put, List.setIfInBounds_toArray, List.set_cons_zero, List.set_cons_succ, i64_w, i32_w]
               rfl
              refine pure_ (i := 4) (N := some 38) (v := ?_) (a' := ?_) #[true, true, true, true, true, false, false, false, false, false, false, false, false, false, false, false, false, false, false, false] rfl rfl (any_of HT_.out (by kernel_rfl)) (fun _ _ _ h => h) (Or.inl ⟨by rfl, ?_⟩) ?_ ?_
              rotate_left
              ·
               intro w'
               go_simp
               with_reducible rfl
              rotate_left
              ·
               simp only [Act.put, List.setIfInBounds_toArray, List.set_cons_zero, List.set_cons_succ, i64_w, i32_w]
               rfl
              refine pure_ (i := 5) (N := some 39) (v := ?_) (a' := ?_) #[true, true, true, true, true, true, false, false, false, false, false, false, false, false, false, false, false, false, false, false] rfl rfl (any_of HT_.out (by kernel_rfl)) (fun _ _ _ h => h) (Or.inl ⟨by rfl, ?_⟩) ?_ ?_
              rotate_left
              ·
               intro w'
               go_simp
               with_reducible rfl
              rotate_left
              ·
               simp only [Act.put, List.setIfInBounds_toArray, List.set_cons_zero, List.set_cons_succ, i64_w, i32_w]
               rfl
              refine pure_ (i := 6) (N := some 40) (v := ?_) (a' := ?_) #[true, true, true, true, true, true, true, false, false, false, false, false, false, false, false, false, false, false, false, false] rfl rfl (any_of HT_.out (by kernel_rfl)) (fun _ _ _ h => h) (Or.inl ⟨by rfl, ?_⟩) ?_ ?_
              rotate_left
              ·
               intro w'
               go_simp
               with_reducible rfl
              rotate_left
              ·
               simp only [Act.put, List.setIfInBounds_toArray, List.set_cons_zero, List.set_cons_succ, i64_w, i32_w]
               rfl
              refine pure_ (i := 7) (N := some 41) (v := ?_) (a' := ?_) #[true, true, true, true, true, true, true, true, false, false, false, false, false, false, false, false, false, false, false, false] rfl rfl (any_of HT_.out (by kernel_rfl)) (fun _ _ _ h => h) (Or.inl ⟨by rfl, ?_⟩) ?_ ?_
              rotate_left
              ·
               intro w'
               go_simp
               with_reducible rfl
              rotate_left
              ·
               simp only [Act.put, List.setIfInBounds_toArray, List.set_cons_zero, List.set_cons_succ, i64_w, i32_w]
               rfl
              refine pure_ (i := 8) (N := some 42) (v := ?_) (a' := ?_) #[true, true, true, true, true, true, true, true, true, false, false, false, false, false, false, false, false, false, false, false] rfl rfl (any_of HT_.out (by kernel_rfl)) (fun _ _ _ h => h) (Or.inl ⟨by rfl, ?_⟩) ?_ ?_
              rotate_left
              ·
               intro w'
               go_simp
               with_reducible rfl
              rotate_left
              ·
               simp only [Act.put, List.setIfInBounds_toArray, List.set_cons_zero, List.set_cons_succ, i64_w, i32_w]
               rfl
              refine pure_ (i := 9) (N := some 43) (v := ?_) (a' := ?_) #[true, true, true, true, true, true, true, true, true, true, false, false, false, false, false, false, false, false, false, false] rfl rfl (any_of HT_.out (by kernel_rfl)) (fun _ _ _ h => h) (Or.inl ⟨by rfl, ?_⟩) ?_ ?_
              rotate_left
              ·
               intro w'
               go_simp
               with_reducible rfl
              rotate_left
              ·
               simp only [Act.put, List.setIfInBounds_toArray, List.set_cons_zero, List.set_cons_succ, i64_w, i32_w]
               rfl
              refine pure_ (i := 10) (N := some 44) (v := ?_) (a' := ?_) #[true, true, true, true, true, true, true, true, true, true, true, false, false, false, false, false, false, false, false, false] rfl rfl (any_of HT_.out (by kernel_rfl)) (fun _ _ _ h => h) (Or.inl ⟨by rfl, ?_⟩) ?_ ?_
              rotate_left
              ·
               intro w'
               go_simp
               with_reducible rfl
              rotate_left
              ·
               simp only [Act.put, List.setIfInBounds_toArray, List.set_cons_zero, List.set_cons_succ, i64_w, i32_w]
               rfl
              refine pure_ (i := 12) (N := some 46) (v := ?_) (a' := ?_) #[true, true, true, true, true, true, true, true, true, true, true, false, true, false, false, false, false, false, false, false] rfl rfl (any_of HT_.out (by kernel_rfl)) (fun _ _ _ h => h) (Or.inl ⟨by rfl, ?_⟩) ?_ ?_
              rotate_left
              ·
               intro w'
               go_simp
               with_reducible rfl
              rotate_left
              ·
               simp only [Act.put, List.setIfInBounds_toArray, List.set_cons_zero, List.set_cons_succ, i64_w, i32_w]
               rfl
              refine pure_ (i := 13) (N := some 47) (v := ?_) (a' := ?_) #[true, true, true, true, true, true, true, true, true, true, true, false, true, true, false, false, false, false, false, false] rfl rfl (any_of HT_.out (by kernel_rfl)) (fun _ _ _ h => h) (Or.inl ⟨by rfl, ?_⟩) ?_ ?_
              rotate_left
              ·
               intro w'
               go_simp
               with_reducible rfl
              rotate_left
              ·
               simp only [Act.put, List.setIfInBounds_toArray, List.set_cons_zero, List.set_cons_succ, i64_w, i32_w]
               rfl
              refine pure_ (i := 14) (N := some 48) (v := ?_) (a' := ?_) #[true, true, true, true, true, true, true, true, true, true, true, false, true, true, true, false, false, false, false, false] rfl rfl (any_of HT_.out (by kernel_rfl)) (fun _ _ _ h => h) (Or.inl ⟨by rfl, ?_⟩) ?_ ?_
              rotate_left
              ·
               intro w'
               go_simp
               with_reducible rfl
              rotate_left
              ·
               simp only [Act.put, List.setIfInBounds_toArray, List.set_cons_zero, List.set_cons_succ, i64_w, i32_w]
               rfl
              refine take_ (i := 11) (N := some 45) (v := ?_) (a' := ?_) #[true, true, true, true, true, true, true, true, true, true, true, true, true, true, true, false, false, false, false, false] rfl rfl (take_ofW HT_.out HW_.out (by kernel_rfl)) (fun _ _ _ h => h) (Or.inl ⟨by rfl, ?_⟩) hHeld ?_ ?_
              rotate_left
              ·
               rintro w' ⟨s0, s1, s2, s3⟩
               go_simp
               with_reducible rfl
              rotate_left
              ·
               simp only [Act.put, List.setIfInBounds_toArray, List.set_cons_zero, List.set_cons_succ, i64_w, i32_w]
               rfl
              refine take_ (i := 15) (N := some 49) (v := ?_) (a' := ?_) #[true, true, true, true, true, true, true, true, true, true, true, true, true, true, true, true, false, false, false, false] rfl rfl (take_ofW HT_.out HW_.out (by kernel_rfl)) (fun _ _ _ h => h) (Or.inl ⟨by rfl, ?_⟩) hHeld ?_ ?_
              rotate_left
              ·
               rintro w' ⟨s0, s1, s2, s3⟩
               go_simp
               with_reducible rfl
              rotate_left
              ·
               simp only [Act.put, List.setIfInBounds_toArray, List.set_cons_zero, List.set_cons_succ, i64_w, i32_w]
               rfl
              refine pure_ (i := 16) (N := some 50) (v := ?_) (a' := ?_) #[true, true, true, true, true, true, true, true, true, true, true, true, true, true, true, true, true, false, false, false] rfl rfl (any_of HT_.out (by kernel_rfl)) (fun _ _ _ h => h) (Or.inl ⟨by rfl, ?_⟩) ?_ ?_
              rotate_left
              ·
               intro w'
               go_simp
               with_reducible rfl
              rotate_left
              ·
               simp only [Act.put, List.setIfInBounds_toArray, List.set_cons_zero, List.set_cons_succ, i64_w, i32_w]
               rfl
              refine pure_ (i := 17) (N := some 51) (v := ?_) (a' := ?_) #[true, true, true, true, true, true, true, true, true, true, true, true, true, true, true, true, true, true, false, false] rfl rfl (any_of HT_.out (by kernel_rfl)) (fun _ _ _ h => h) (Or.inl ⟨by rfl, ?_⟩) ?_ ?_
              rotate_left
              ·
               intro w'
               go_simp
               with_reducible rfl
              rotate_left
              ·
               simp only [Act.put, List.setIfInBounds_toArray, List.set_cons_zero, List.set_cons_succ, i64_w, i32_w]
               rfl
              refine pure_ (i := 18) (N := some 52) (v := ?_) (a' := ?_) #[true, true, true, true, true, true, true, true, true, true, true, true, true, true, true, true, true, true, true, false] rfl rfl (any_of HT_.out (by kernel_rfl)) (fun _ _ _ h => h) (Or.inl ⟨by rfl, ?_⟩) ?_ ?_
              rotate_left
              ·
               intro w'
               go_simp
               with_reducible rfl
              rotate_left
              ·
               simp only [Act.put, List.setIfInBounds_toArray, List.set_cons_zero, List.set_cons_succ, i64_w, i32_w]
               rfl
              refine pure_ (i := 19) (N := some 33) (v := ?_) (a' := ?_) #[true, true, true, true, true, true, true, true, true, true, true, true, true, true, true, true, true, true, true, true] rfl rfl (any_of HT_.out (by kernel_rfl)) (fun _ _ _ h => h) (Or.inl ⟨by rfl, ?_⟩) ?_ ?_
              rotate_left
              ·
               intro w'
               go_simp
               with_reducible rfl
              rotate_left
              ·
               simp only [Act.put, List.setIfInBounds_toArray, List.set_cons_zero, List.set_cons_succ, i64_w, i32_w]
               rfl
              refine done_ (done_of HT_.out (by kernel_rfl)) ?_
              try go_wp2
              go_meet
              case rel => exact ⟨_, (decide (((rd_T30 x0_2 0).f0) < ((rd_T30 x1_2 0).f0))), (by first | rfl | (simp; done) | (simp [*]; done)), H', ⟨by have := HJ2.out; have := HK2.out; have := HJ10.out; first | omega | exact Nat.le_refl _⟩, ⟨by (with_reducible repeat (first | apply Kd.V_alloc | apply Kd.V_drewN | apply Kd.V_drew)); exact HO_0.out⟩, ⟨by (with_reducible repeat (first | apply Kd.V_alloc | apply Kd.V_drewN | apply Kd.V_drew)); exact HO_1.out⟩, ⟨by (with_reducible repeat (first | apply Kd.R_alloc | apply Kd.R_drewN | apply Kd.R_drew)); exact HO_6.out⟩, ⟨by repeat (first | (with_reducible first | exact HB.out | apply below_alloc | apply pw_below_drewN | apply below_drew1) | exact HB.out)⟩⟩
             ·
              rw [if_neg c23] at H
              exact absurd H (by simp)
            ·
             rw [if_neg c22] at H
             exact absurd H (by simp)
           ·
            rw [if_neg c21] at H
            have c21b0 : decide (0 < (x0_2.length : Int)) = false := decide_eq_false c21
            have c21b1 : decide (0 < x0_2.length) = false := decide_eq_false (by omega)
            clear c21
            have H' := Aside0.mk H
            clear H
            try go_wp2
            have n0_ := Aside0.mk (Kd.V_drew HO_0.out)
            have n1_ := Aside0.mk (Kd.V_drew HO_1.out)
            have n2_ := Aside0.mk (Kd.R_drew HO_6.out)
            have n3_ := Aside0.mk (below_drew1 HB.out)
            clear HO_0
            clear HO_1
            clear HO_6
            clear HB
            have HO_0 := n0_
            have HO_1 := n1_
            have HO_6 := n2_
            have HB := n3_
            clear n0_ n1_ n2_ n3_
            obtain ⟨Ao28, co28, eo28⟩ := Kd.V_slice HO_1.out
            (first | subst eo28 | (injection eo28 with f1_ f2_ f3_; have f4_ := f1_.symm; have f5_ := f3_.symm; clear f1_ f2_ f3_; subst f4_; subst f5_))
            obtain ⟨Ao29, co29, eo29⟩ := Kd.V_slice HO_0.out
            (first | subst eo29 | (injection eo29 with f1_ f2_ f3_; have f4_ := f1_.symm; have f5_ := f3_.symm; clear f1_ f2_ f3_; subst f4_; subst f5_))
            refine start_ (n := 20) (S := fun w' => True) (ds := []) #[false, false, false, false, false, false, false, false, false, false, false, false, false, false, false, false, false, false, false, false] (by kernel_rfl) rfl rfl trivial (fun hHeld => ?_); refine with_tabW density_Merge.tab6 density_Merge.bits6 (fun HT_ HW_ => ?_)
            generalize wc.drew = w27 at HO_0 HO_1 HO_6 HB hHeld ⊢
            refine pure_ (i := 0) (N := some 34) (v := ?_) (a' := ?_) #[true, false, false, false, false, false, false, false, false, false, false, false, false, false, false, false, false, false, false, false] rfl rfl (any_of HT_.out (by kernel_rfl)) (fun _ _ _ h => h) (Or.inl ⟨by rfl, ?_⟩) ?_ ?_
            rotate_left
            ·
             intro w'
             go_simp
             with_reducible rfl
            rotate_left
            ·
             simp only [Act.put, List.setIfInBounds_toArray, List.set_cons_zero, List.set_cons_succ, i64_w, i32_w]
             rfl
            refine pure_ (i := 1) (N := some 35) (v := ?_) (a' := ?_) #[true, true, false, false, false, false, false, false, false, false, false, false, false, false, false, false, false, false, false, false] rfl rfl (any_of HT_.out (by kernel_rfl)) (fun _ _ _ h => h) (Or.inl ⟨by rfl, ?_⟩) ?_ ?_
            rotate_left
            ·
             intro w'
             go_simp
             with_reducible rfl
            rotate_left
            ·
             simp only [Act.put, List.setIfInBounds_toArray, List.set_cons_zero, List.set_cons_succ, i64_w, i32_w]
             rfl
            refine pure_ (i := 2) (N := some 36) (v := ?_) (a' := ?_) #[true, true, true, false, false, false, false, false, false, false, false, false, false, false, false, false, false, false, false, false] rfl rfl (any_of HT_.out (by kernel_rfl)) (fun _ _ _ h => h) (Or.inl ⟨by rfl, ?_⟩) ?_ ?_
            rotate_left
            ·
             intro w'
             go_simp
             with_reducible rfl
            rotate_left
            ·
             simp only [Act.put, List.setIfInBounds_toArray, List.set_cons_zero, List.set_cons_succ, i64_w, i32_w]
             rfl
            refine pure_ (i := 3) (N := some 37) (v := ?_) (a' := ?_) #[true, true, true, true, false, false, false, false, false, false, false, false, false, false, false, false, false, false, false, false] rfl rfl (any_of HT_.out (by kernel_rfl)) (fun _ _ _ h => h) (Or.inl ⟨by rfl, ?_⟩) ?_ ?_
            rotate_left
            ·
             intro w'
             go_simp
             with_reducible rfl
            rotate_left
            ·
             simp only [Act.put, List.setIfInBounds_toArray, List.set_cons_zero, List.set_cons_succ, i64_w, i32_w]
             rfl
            refine pure_ (i := 4) (N := some 38) (v := ?_) (a' := ?_) #[true, true, true, true, true, false, false, false, false, false, false, false, false, false, false, false, false, false, false, false] rfl rfl (any_of HT_.out (by kernel_rfl)) (fun _ _ _ h => h) (Or.inl ⟨by rfl, ?_⟩) ?_ ?_
            rotate_left
            ·
             intro w'
             go_simp
             with_reducible rfl
            rotate_left
            ·
             simp only [Act.put, List.setIfInBounds_toArray, List.set_cons_zero, List.set_cons_succ, i64_w, i32_w]
             rfl
            refine pure_ (i := 5) (N := some 39) (v := ?_) (a' := ?_) #[true, true, true, true, true, true, false, false, false, false, false, false, false, false, false, false, false, false, false, false] rfl rfl (any_of HT_.out (by kernel_rfl)) (fun _ _ _ h => h) (Or.inl ⟨by rfl, ?_⟩) ?_ ?_
            rotate_left
            ·
             intro w'
             go_simp
             with_reducible rfl
            rotate_left
            ·
             simp only [Act.put, List.setIfInBounds_toArray, List.set_cons_zero, List.set_cons_succ, i64_w, i32_w]
             rfl
            refine pure_ (i := 6) (N := some 40) (v := ?_) (a' := ?_) #[true, true, true, true, true, true, true, false, false, false, false, false, false, false, false, false, false, false, false, false] rfl rfl (any_of HT_.out (by kernel_rfl)) (fun _ _ _ h => h) (Or.inl ⟨by rfl, ?_⟩) ?_ ?_
            rotate_left
            ·
             intro w'
             go_simp
             with_reducible rfl
            rotate_left
            ·
             simp only [Act.put, List.setIfInBounds_toArray, List.set_cons_zero, List.set_cons_succ, i64_w, i32_w]
             rfl
            refine pure_ (i := 7) (N := some 41) (v := ?_) (a' := ?_) #[true, true, true, true, true, true, true, true, false, false, false, false, false, false, false, false, false, false, false, false] rfl rfl (any_of HT_.out (by kernel_rfl)) (fun _ _ _ h => h) (Or.inl ⟨by rfl, ?_⟩) ?_ ?_
            rotate_left
            ·
             intro w'
             go_simp
             with_reducible rfl
            rotate_left
            ·
             simp only [Act.put, List.setIfInBounds_toArray, List.set_cons_zero, List.set_cons_succ, i64_w, i32_w]
             rfl
            refine pure_ (i := 8) (N := some 42) (v := undef) (a' := ?_) #[true, true, true, true, true, true, true, true, true, false, false, false, false, false, false, false, false, false, false, false] rfl rfl (any_of HT_.out (by kernel_rfl)) (fun _ _ _ h => h) (Or.inr ⟨by rfl, rfl⟩) ?_ ?_
            rotate_left
            ·
             simp only [Act.put, List.setIfInBounds_toArray, List.set_cons_zero, List.set_cons_succ, i64_w, i32_w]
             rfl
            refine pure_ (i := 9) (N := some 43) (v := undef) (a' := ?_) #[true, true, true, true, true, true, true, true, true, true, false, false, false, false, false, false, false, false, false, false] rfl rfl (any_of HT_.out (by kernel_rfl)) (fun _ _ _ h => h) (Or.inr ⟨by rfl, rfl⟩) ?_ ?_
            rotate_left
            ·
             simp only [Act.put, List.setIfInBounds_toArray, List.set_cons_zero, List.set_cons_succ, i64_w, i32_w]
             rfl
            refine pure_ (i := 10) (N := some 44) (v := undef) (a' := ?_) #[true, true, true, true, true, true, true, true, true, true, true, false, false, false, false, false, false, false, false, false] rfl rfl (any_of HT_.out (by kernel_rfl)) (fun _ _ _ h => h) (Or.inr ⟨by rfl, rfl⟩) ?_ ?_
            rotate_left
            ·
             simp only [Act.put, List.setIfInBounds_toArray, List.set_cons_zero, List.set_cons_succ, i64_w, i32_w]
             rfl
            refine pure_ (i := 11) (N := some 45) (v := undef) (a' := ?_) #[true, true, true, true, true, true, true, true, true, true, true, true, false, false, false, false, false, false, false, false] rfl rfl (any_of HT_.out (by kernel_rfl)) (fun _ _ _ h => h) (Or.inr ⟨by rfl, rfl⟩) ?_ ?_
            rotate_left
            ·
             simp only [Act.put, List.setIfInBounds_toArray, List.set_cons_zero, List.set_cons_succ, i64_w, i32_w]
             rfl
            refine pure_ (i := 12) (N := some 46) (v := undef) (a' := ?_) #[true, true, true, true, true, true, true, true, true, true, true, true, true, false, false, false, false, false, false, false] rfl rfl (any_of HT_.out (by kernel_rfl)) (fun _ _ _ h => h) (Or.inr ⟨by rfl, rfl⟩) ?_ ?_
            rotate_left
            ·
             simp only [Act.put, List.setIfInBounds_toArray, List.set_cons_zero, List.set_cons_succ, i64_w, i32_w]
             rfl
            refine pure_ (i := 13) (N := some 47) (v := undef) (a' := ?_) #[true, true, true, true, true, true, true, true, true, true, true, true, true, true, false, false, false, false, false, false] rfl rfl (any_of HT_.out (by kernel_rfl)) (fun _ _ _ h => h) (Or.inr ⟨by rfl, rfl⟩) ?_ ?_
            rotate_left
            ·
             simp only [Act.put, List.setIfInBounds_toArray, List.set_cons_zero, List.set_cons_succ, i64_w, i32_w]
             rfl
            refine pure_ (i := 14) (N := some 48) (v := undef) (a' := ?_) #[true, true, true, true, true, true, true, true, true, true, true, true, true, true, true, false, false, false, false, false] rfl rfl (any_of HT_.out (by kernel_rfl)) (fun _ _ _ h => h) (Or.inr ⟨by rfl, rfl⟩) ?_ ?_
            rotate_left
            ·
             simp only [Act.put, List.setIfInBounds_toArray, List.set_cons_zero, List.set_cons_succ, i64_w, i32_w]
             rfl
            refine pure_ (i := 15) (N := some 49) (v := undef) (a' := ?_) #[true, true, true, true, true, true, true, true, true, true, true, true, true, true, true, true, false, false, false, false] rfl rfl (any_of HT_.out (by kernel_rfl)) (fun _ _ _ h => h) (Or.inr ⟨by rfl, rfl⟩) ?_ ?_
            rotate_left
            ·
             simp only [Act.put, List.setIfInBounds_toArray, List.set_cons_zero, List.set_cons_succ, i64_w, i32_w]
             rfl
            refine pure_ (i := 16) (N := some 50) (v := undef) (a' := ?_) #[true, true, true, true, true, true, true, true, true, true, true, true, true, true, true, true, true, false, false, false] rfl rfl (any_of HT_.out (by kernel_rfl)) (fun _ _ _ h => h) (Or.inr ⟨by rfl, rfl⟩) ?_ ?_
            rotate_left
            ·
             simp only [Act.put, List.setIfInBounds_toArray, List.set_cons_zero, List.set_cons_succ, i64_w, i32_w]
             rfl
            refine pure_ (i := 17) (N := some 51) (v := ?_) (a' := ?_) #[true, true, true, true, true, true, true, true, true, true, true, true, true, true, true, true, true, true, false, false] rfl rfl (any_of HT_.out (by kernel_rfl)) (fun _ _ _ h => h) (Or.inl ⟨by rfl, ?_⟩) ?_ ?_
            rotate_left
            ·
             intro w'
             go_simp
             with_reducible rfl
            rotate_left
            ·
             simp only [Act.put, List.setIfInBounds_toArray, List.set_cons_zero, List.set_cons_succ, i64_w, i32_w]
             rfl
            refine pure_ (i := 18) (N := some 52) (v := ?_) (a' := ?_) #[true, true, true, true, true, true, true, true, true, true, true, true, true, true, true, true, true, true, true, false] rfl rfl (any_of HT_.out (by kernel_rfl)) (fun _ _ _ h => h) (Or.inl ⟨by rfl, ?_⟩) ?_ ?_
            rotate_left
            ·
             intro w'
             go_simp
             with_reducible rfl
            rotate_left
            ·
             simp only [Act.put, List.setIfInBounds_toArray, List.set_cons_zero, List.set_cons_succ, i64_w, i32_w]
             rfl
            refine pure_ (i := 19) (N := some 33) (v := ?_) (a' := ?_) #[true, true, true, true, true, true, true, true, true, true, true, true, true, true, true, true, true, true, true, true] rfl rfl (any_of HT_.out (by kernel_rfl)) (fun _ _ _ h => h) (Or.inl ⟨by rfl, ?_⟩) ?_ ?_
            rotate_left
            ·
             intro w'
             go_simp
             with_reducible rfl
            rotate_left
            ·
             simp only [Act.put, List.setIfInBounds_toArray, List.set_cons_zero, List.set_cons_succ, i64_w, i32_w]
             rfl
            refine done_ (done_of HT_.out (by kernel_rfl)) ?_
            try go_wp2
            go_meet
            case rel => exact ⟨_, (false), (by first | rfl | (simp; done) | (simp [*]; done)), H', ⟨by have := HJ2.out; have := HK2.out; have := HJ10.out; first | omega | exact Nat.le_refl _⟩, ⟨by (with_reducible repeat (first | apply Kd.V_alloc | apply Kd.V_drewN | apply Kd.V_drew)); exact HO_0.out⟩, ⟨by (with_reducible repeat (first | apply Kd.V_alloc | apply Kd.V_drewN | apply Kd.V_drew)); exact HO_1.out⟩, ⟨by (with_reducible repeat (first | apply Kd.R_alloc | apply Kd.R_drewN | apply Kd.R_drew)); exact HO_6.out⟩, ⟨by repeat (first | (with_reducible first | exact HB.out | apply below_alloc | apply pw_below_drewN | apply below_drew1) | exact HB.out)⟩⟩
         case rest =>
          clear HC17
          repeat first | clear c1 | clear c2 | clear p2 | clear q2 | clear hx2 | clear qi2 | clear c3 | clear c5 | clear c10 | clear c12 | clear c12b0 | clear c12b1 | clear c16 | clear c18 | clear c18b0 | clear c18b1 | clear c18b2 | clear p20 | clear q20 | clear hx20 | clear qi20 | clear c21 | clear c21b0 | clear c21b1 | clear c22 | clear c22b0 | clear c22b1 | clear c23 | clear c23b0 | clear c23b1 | clear hx201_0 | clear hx201_1 | clear hx202_0 | clear hx202_1 | clear p2 | clear p201 | clear p202 | clear q201 | clear q202
          obtain ⟨kq, x33_16, rfl, HA, HJ16, HO_0, HO_1, HO_6, HB⟩ := hcut
          cases kq with
          | zero => exact absurd HA.out (by simp [density_Merge.j3])
          | succ kj16 =>
           have H := HA.out
           clear HA
           simp only [density_Merge.j3] at H
           by_cases c30 : x33_16 = true
           ·
            subst c30
            replace H : (if 0 < (x0_2.length : Int) then (if x6_2.length < 8796093022208 then (if 1 ≤ (x0_2.length : Int) then (density_Merge.l0 kj16 (x0_2.drop 1) x1_2 (x6_2 ++ [(⟨(rd_T30 x0_2 0).f0, (rd_T30 x0_2 0).f1⟩ : S30)])) else (none)) else (none)) else (none)) = some (r1, r2) := by rw [if_pos rfl] at H; exact H
            by_cases c31 : 0 < (x0_2.length : Int)
            ·
             rw [if_pos c31] at H
             have c31b0 : decide (0 < (x0_2.length : Int)) = true := decide_eq_true c31
             have c31b1 : decide (0 < x0_2.length) = true := decide_eq_true (by omega)
             clear c31
             by_cases c32 : x6_2.length < 8796093022208
             ·
              rw [if_pos c32] at H
              have LMc32 := Aside0.mk c32
              clear c32
              obtain ⟨y204, hy204⟩ : ∃ y_ : List (S30), y_ = (x6_2 ++ [(⟨(rd_T30 x0_2 0).f0, (rd_T30 x0_2 0).f1⟩ : S30)]) := ⟨_, rfl⟩
              replace H : (if 1 ≤ (x0_2.length : Int) then (density_Merge.l0 kj16 (x0_2.drop 1) x1_2 y204) else (none)) = some (r1, r2) := by first | (rw [hy204]; with_reducible exact H) | (have H2_ := (Option.bind_some _ _).symm.trans H; rw [hy204]; with_reducible exact H2_) | (have H2_ := (Option.bind_some _ _).symm.trans H; with_reducible exact H2_) | with_reducible exact H | (rw [hy204]; exact H) | exact H
              have Ny204 := Aside0.mk hy204
              clear hy204
              by_cases c33 : 1 ≤ (x0_2.length : Int)
              ·
               rw [if_pos c33] at H
               have c33b0 := eq_true c33
               have c33b1 : decide (1 ≤ (x0_2.length : Int)) = true := decide_eq_true c33
               clear c33
               obtain ⟨y207, hy207⟩ : ∃ y_ : List (S30), y_ = (x0_2.drop 1) := ⟨_, rfl⟩
               replace H : (density_Merge.l0 kj16 y207 x1_2 y204) = some (r1, r2) := by first | (rw [hy207]; with_reducible exact H) | (have H2_ := (Option.bind_some _ _).symm.trans H; rw [hy207]; with_reducible exact H2_) | (have H2_ := (Option.bind_some _ _).symm.trans H; with_reducible exact H2_) | with_reducible exact H | (rw [hy207]; exact H) | exact H
               have Ny207 := Aside0.mk hy207
               clear hy207
               have H' := Aside0.mk H
               clear H
               try go_wp2
               have n0_ := Aside0.mk (Kd.V_drew HO_0.out)
               have n1_ := Aside0.mk (Kd.V_drew HO_1.out)
               have n2_ := Aside0.mk (Kd.R_drew HO_6.out)
               have n3_ := Aside0.mk (below_drew1 HB.out)
               clear HO_0
               clear HO_1
               clear HO_6
               clear HB
               have HO_0 := n0_
               have HO_1 := n1_
               have HO_6 := n2_
               have HB := n3_
               clear n0_ n1_ n2_ n3_
               obtain ⟨Ao35, co35, eo35⟩ := Kd.V_slice HO_0.out
               (first | subst eo35 | (injection eo35 with f1_ f2_ f3_; have f4_ := f1_.symm; have f5_ := f3_.symm; clear f1_ f2_ f3_; subst f4_; subst f5_))
               have p203 : 0 ≤ (0 : Int) := (by omega)
               have q203 : 0 < (x0_2.length : Int) := of_decide_eq_true (by first | (with_reducible assumption) | assumption)
               obtain ⟨ad203, e203, hx203_0, hx203_1⟩ := at_T30 (Kd.V_reads' HO_0.out).2.2 0 p203 q203
               cases e203
               have qi203 : (0 < x0_2.length) = True := eq_true (by omega)
               (try rw [show ((0 : Int)).toNat = 0 from rfl] at hx203_0)
               (try rw [show 0 * 2 = 0 from rfl] at hx203_0)
               (try rw [Addr.add_zero'] at hx203_0)
               (try rw [show ((0 : Int)).toNat = 0 from rfl] at hx203_1)
               (try rw [show 0 * 2 = 0 from rfl] at hx203_1)
               (try rw [Addr.add_zero'] at hx203_1)
               replace p203 := eq_true p203
               replace q203 := eq_true q203
               have q36 : (1 : Int) ≤ ((x0_2.length : Int) : Int) := of_decide_eq_true (by first | (with_reducible assumption) | assumption)
               obtain ⟨i036, hi036, _, hsz36, _⟩ := info_parts info30
               have hroom36 : x0_2.length ≤ co35 := (Kd.V_reads' HO_0.out).2.1
               have hC36 : Kd.F k30 _ _ (some ad203) x0_2.length x0_2 := (Kd.V_at (base := w.heap.size) HO_0.out).2.2
               have hcut36 := cut_from (P := Tryd.prog) 22 30 .i64 Tryd.underlying22 hi036 2 hsz36 (some ad203) x0_2.length co35 1 (by omega) q36
               have hr36 := Kd.F_cut (m := (1 : Int).toNat) (c := co35) hC36 (by omega) hroom36
               obtain ⟨A36, hA36⟩ : ∃ A1, A1 = (if co35 = (1 : Int).toNat then (some ad203) else ((some ad203) : Option Addr).map (·.add ((1 : Int).toNat * 2))) := ⟨_, rfl⟩
               obtain ⟨c36, hc36⟩ : ∃ c1, c1 = co35 - (1 : Int).toNat := ⟨_, rfl⟩
               have hy36 : y207.length = x0_2.length - (1 : Int).toNat := (by rw [Ny207.out, List.length_drop] <;> omega)
               rw [show (x0_2).drop (1 : Int).toNat = y207 from Ny207.out.symm] at hr36
               replace hr36 : Kd.F k30 _ _ A36 y207.length y207 := (by rw [hA36]; exact hr36)
               rw [← hy36, ← hA36, ← hc36] at hcut36
               have HO211 := Aside0.mk (show Kd.V k30 30 _ w.heap.size _ (.slice A36 y207.length c36) y207 from Kd.V_mk (by rw [hy36, hc36]; exact Nat.sub_le_sub_right hroom36 _) hr36)
               have HC211 := Aside0.mk (show y207.length ≤ c36 from by rw [hy36, hc36]; exact Nat.sub_le_sub_right hroom36 _)
               clear hr36 hC36 hroom36 hi036 hsz36 hc36
               have KY36 := Aside0.mk hy36
               have KA36 := Aside0.mk hA36
               clear hy36 hA36
               replace q36 := eq_true q36
               refine start_ (n := 10) (S := fun w' => w'.cell? ad203 = some (.int .i64 ((rd_T30 x0_2 0).f0)) ∧ w'.cell? ⟨ad203.block, ad203.off + 1, none⟩ = some (.int .i64 ((rd_T30 x0_2 0).f1))) (ds := [4, 5]) #[false, false, false, false, false, false, false, false, false, false] (by kernel_rfl) rfl rfl ⟨hx203_0, hx203_1⟩ (fun hHeld => ?_); refine with_tabW density_Merge.tab7 density_Merge.bits7 (fun HT_ HW_ => ?_)
               generalize wc.drew = w34 at HO_0 HO_1 HO_6 HB HO211 hx203_0 hx203_1 hHeld ⊢
               refine pure_ (i := 0) (N := some 53) (v := ?_) (a' := ?_) #[true, false, false, false, false, false, false, false, false, false] rfl rfl (any_of HT_.out (by kernel_rfl)) (fun _ _ _ h => h) (Or.inl ⟨by rfl, ?_⟩) ?_ ?_
               rotate_left
               ·
                intro w'
                go_simp
                with_reducible rfl
               rotate_left
               ·
                simp only [Act.put, List.setIfInBounds_toArray, List.set_cons_zero, List.set_cons_succ, i64_w, i32_w]
                rfl
               refine pure_ (i := 1) (N := some 54) (v := ?_) (a' := ?_) #[true, true, false, false, false, false, false, false, false, false] rfl rfl (any_of HT_.out (by kernel_rfl)) (fun _ _ _ h => h) (Or.inl ⟨by rfl, ?_⟩) ?_ ?_
               rotate_left
               ·
                intro w'
                go_simp
                with_reducible rfl
               rotate_left
               ·
                simp only [Act.put, List.setIfInBounds_toArray, List.set_cons_zero, List.set_cons_succ, i64_w, i32_w]
                rfl
               refine pure_ (i := 2) (N := some 55) (v := ?_) (a' := ?_) #[true, true, true, false, false, false, false, false, false, false] rfl rfl (any_of HT_.out (by kernel_rfl)) (fun _ _ _ h => h) (Or.inl ⟨by rfl, ?_⟩) ?_ ?_
               rotate_left
               ·
                intro w'
                go_simp
                with_reducible rfl
               rotate_left
               ·
                simp only [Act.put, List.setIfInBounds_toArray, List.set_cons_zero, List.set_cons_succ, i64_w, i32_w]
                rfl
               refine pure_ (i := 6) (N := some 59) (v := ?_) (a' := ?_) #[true, true, true, false, false, false, true, false, false, false] rfl rfl (any_of HT_.out (by kernel_rfl)) (fun _ _ _ h => h) (Or.inl ⟨by rfl, ?_⟩) ?_ ?_
               rotate_left
               ·
                intro w'
                go_simp
                with_reducible rfl
               rotate_left
               ·
                simp only [Act.put, List.setIfInBounds_toArray, List.set_cons_zero, List.set_cons_succ, i64_w, i32_w]
                rfl
               refine pure_ (i := 7) (N := some 60) (v := ?_) (a' := ?_) #[true, true, true, false, false, false, true, true, false, false] rfl rfl (any_of HT_.out (by kernel_rfl)) (fun _ _ _ h => h) (Or.inl ⟨by rfl, ?_⟩) ?_ ?_
               rotate_left
               ·
                intro w'
                go_simp
                with_reducible rfl
               rotate_left
               ·
                simp only [Act.put, List.setIfInBounds_toArray, List.set_cons_zero, List.set_cons_succ, i64_w, i32_w]
                rfl
               refine take_ (i := 3) (N := some 56) (v := ?_) (a' := ?_) #[true, true, true, true, false, false, true, true, false, false] rfl rfl (take_ofW HT_.out HW_.out (by kernel_rfl)) (fun _ _ _ h => h) (Or.inl ⟨by rfl, ?_⟩) hHeld ?_ ?_
               rotate_left
               ·
                rintro w' ⟨s0, s1⟩
                go_simp
                with_reducible rfl
               rotate_left
               ·
                simp only [Act.put, List.setIfInBounds_toArray, List.set_cons_zero, List.set_cons_succ, i64_w, i32_w]
                rfl
               refine last_ (i := 4) (N := some 57) #[true, true, true, true, true, false, true, true, false, false] rfl rfl (one_of HT_.out (by kernel_rfl)) (by decide) (fun K hK => ?_)
               refine value_ (w1 := ?_) (v := ?_) (by rfl) rfl ?_ ?_
               rotate_left 2
               ·
                go_simp
                constructor
                ·
                 rfl
                ·
                 rfl
               refine hK.out _ _ ?_
               clear hK K
               refine norm_ (a' := ?_) ?_ ?_
               rotate_left
               ·
                show Act.put _ (some 57) _ = _
                simp only [Act.put, List.setIfInBounds_toArray, List.set_cons_zero, List.set_cons_succ, i64_w, i32_w]
                rfl
               refine last_ (i := 5) (N := some 58) #[true, true, true, true, true, true, true, true, false, false] rfl rfl (one_of HT_.out (by kernel_rfl)) (by decide) (fun K hK => ?_)
               refine Kd.R_append_step k30 (w0 := w) w.heap.size (by rfl) (.tmp 53) (.tmp 57) 22 30 (.agg #[(.int .i64 0), (.int .i64 0)]) 16 rfl Tryd.underlying22 info30 rfl (by decide) (by omega) u6 x6_2 (⟨(rd_T30 x0_2 0).f0, (rd_T30 x0_2 0).f1⟩ : S30) [.int .i64 ((rd_T30 x0_2 0).f0), .int .i64 ((rd_T30 x0_2 0).f1)] (fun k_ => (w.heap.size ≤ k_)) (fun _ => False) rfl rfl ?aP (fun _ hk => hk.elim) ?aF ?aO ?aB ?aS ?aL ?_
               (case aP => exact k30_mkM _ _ _ (⟨(rd_T30 x0_2 0).f0, (rd_T30 x0_2 0).f1⟩ : S30))
               (case aB => exact (by repeat (with_reducible first | exact HB.out | apply below_alloc | apply pw_below_drewN | apply below_drew1)))
               (case aF => exact (fun k_ hk => (Nat.le_trans (below_size (by repeat (with_reducible first | exact HB.out | apply below_alloc | apply pw_below_drewN | apply below_drew1))) hk)))
               (case aO => exact (by (with_reducible repeat (first | apply Kd.R_alloc | apply Kd.R_drewN | apply Kd.R_drew)); exact HO_6.out))
               (case aS => exact (below_size (by repeat (with_reducible first | exact HB.out | apply below_alloc | apply pw_below_drewN | apply below_drew1))))
               (case aL => have := LMc32.out; omega)
               intro v205 w37 ho hb hg hat
               rw [← Ny204.out] at ho
               have n0_ := Aside0.mk (Kd.V_afterv (ok := (fun k_ => ((P0_ k_ ∨ P1_ k_) ∨ w.heap.size ≤ k_))) (by (with_reducible repeat (first | apply Kd.V_alloc | apply Kd.V_drewN | apply Kd.V_drew)); exact HO_0.out) hg hat)
               have n1_ := Aside0.mk (Kd.V_afterv (ok := (fun k_ => ((P0_ k_ ∨ P1_ k_) ∨ w.heap.size ≤ k_))) (by (with_reducible repeat (first | apply Kd.V_alloc | apply Kd.V_drewN | apply Kd.V_drew)); exact HO_1.out) hg hat)
               have n2_ := Aside0.mk (Kd.V_afterv (ok := (fun k_ => ((P0_ k_ ∨ P1_ k_) ∨ w.heap.size ≤ k_))) (by (with_reducible repeat (first | apply Kd.V_alloc | apply Kd.V_drewN | apply Kd.V_drew)); exact HO211.out) hg hat)
               have n3_ := Aside0.mk (hb)
               have n4_ := Aside0.mk (ho)
               clear HO_0
               clear HO_1
               clear HO211
               clear HB
               clear HO_6
               have HO_0 := n0_
               have HO_1 := n1_
               have HO211 := n2_
               have HB := n3_
               have HO206 := n4_
               clear n0_ n1_ n2_ n3_ n4_
               clear ho hb hg hat
               refine hK.out _ _ ?_
               clear hK K
               refine norm_ (a' := ?_) ?_ ?_
               rotate_left
               ·
                show Act.put _ (some 58) _ = _
                simp only [Act.put, List.setIfInBounds_toArray, List.set_cons_zero, List.set_cons_succ, i64_w, i32_w]
                rfl
               refine pure_ (i := 8) (N := some 6) (v := ?_) (a' := ?_) #[true, true, true, true, true, true, true, true, true, false] rfl rfl (any_of HT_.out (by kernel_rfl)) (fun _ _ _ h => h) (Or.inl ⟨by rfl, ?_⟩) ?_ ?_
               rotate_left
               ·
                intro w'
                go_simp
                with_reducible rfl
               rotate_left
               ·
                simp only [Act.put, List.setIfInBounds_toArray, List.set_cons_zero, List.set_cons_succ, i64_w, i32_w]
                rfl
               refine pure_ (i := 9) (N := some 0) (v := ?_) (a' := ?_) #[true, true, true, true, true, true, true, true, true, true] rfl rfl (any_of HT_.out (by kernel_rfl)) (fun _ _ _ h => h) (Or.inl ⟨by rfl, ?_⟩) ?_ ?_
               rotate_left
               ·
                intro w'
                go_simp
                with_reducible rfl
               rotate_left
               ·
                simp only [Act.put, List.setIfInBounds_toArray, List.set_cons_zero, List.set_cons_succ, i64_w, i32_w]
                rfl
               refine done_ (done_of HT_.out (by kernel_rfl)) ?_
               try go_wp2
               go_roundg kj16
               case measure => have := HJ2.out; have := HK2.out; have := HJ10.out; have := HJ16.out; omega
               case rel => exact ⟨(y207), (x1_2), (y204), H', ⟨by have := HJ2.out; have := HK2.out; have := HJ10.out; have := HJ16.out; omega⟩, ⟨by (with_reducible repeat (first | apply Kd.V_alloc | apply Kd.V_drewN | apply Kd.V_drew)); exact HO211.out⟩, ⟨by (with_reducible repeat (first | apply Kd.V_alloc | apply Kd.V_drewN | apply Kd.V_drew)); exact HO_1.out⟩, ⟨by (with_reducible repeat (first | apply Kd.R_alloc | apply Kd.R_drewN | apply Kd.R_drew)); exact HO206.out⟩, ⟨by repeat (first | (with_reducible first | exact HB.out | apply below_alloc | apply pw_below_drewN | apply below_drew1) | exact HB.out)⟩⟩
              ·
               rw [if_neg c33] at H
               exact absurd H (by simp)
             ·
              rw [if_neg c32] at H
              exact absurd H (by simp)
            ·
             rw [if_neg c31] at H
             exact absurd H (by simp)
           ·
            replace c30 := Bool.eq_false_iff.mpr c30
            subst c30
            replace H : (if (x0_2.length : Int) > 0 then (if 0 < (x0_2.length : Int) then (if 0 < (x1_2.length : Int) then (if ((rd_T30 x0_2 0).f0) = ((rd_T30 x1_2 0).f0) then (if 1 ≤ (x0_2.length : Int) then (density_Merge.l0 kj16 (x0_2.drop 1) x1_2 x6_2) else (none)) else (if x6_2.length < 8796093022208 then (if 1 ≤ (x1_2.length : Int) then (density_Merge.l0 kj16 x0_2 (x1_2.drop 1) (x6_2 ++ [(⟨(rd_T30 x1_2 0).f0, (rd_T30 x1_2 0).f1⟩ : S30)])) else (none)) else (none))) else (none)) else (none)) else (if 0 < (x1_2.length : Int) then (if x6_2.length < 8796093022208 then (if 1 ≤ (x1_2.length : Int) then (density_Merge.l0 kj16 x0_2 (x1_2.drop 1) (x6_2 ++ [(⟨(rd_T30 x1_2 0).f0, (rd_T30 x1_2 0).f1⟩ : S30)])) else (none)) else (none)) else (none))) = some (r1, r2) := by rw [if_neg (show ¬ (false = true) by decide)] at H; exact H
            by_cases c38 : (x0_2.length : Int) > 0
            ·
             rw [if_pos c38] at H
             have c38b0 : decide (0 < (x0_2.length : Int)) = true := decide_eq_true c38
             have c38b1 : decide (0 < x0_2.length) = true := decide_eq_true (by omega)
             clear c38
             by_cases c39 : 0 < (x0_2.length : Int)
             ·
              rw [if_pos c39] at H
              have c39b0 : decide (0 < (x0_2.length : Int)) = true := decide_eq_true c39
              have c39b1 : decide (0 < x0_2.length) = true := decide_eq_true (by omega)
              clear c39
              by_cases c40 : 0 < (x1_2.length : Int)
              ·
               rw [if_pos c40] at H
               have c40b0 : decide (0 < (x1_2.length : Int)) = true := decide_eq_true c40
               have c40b1 : decide (0 < x1_2.length) = true := decide_eq_true (by omega)
               clear c40
               by_cases c41 : ((rd_T30 x0_2 0).f0) = ((rd_T30 x1_2 0).f0)
               ·
                rw [if_pos c41] at H
                have c41b0 : (((rd_T30 x0_2 0).f0) == ((rd_T30 x1_2 0).f0)) = true := beq_iff_eq.mpr c41
                have c41b1 : (((rd_T30 x0_2 0).f0) != ((rd_T30 x1_2 0).f0)) = false := bne_eq_false_iff_eq.mpr c41
                clear c41
                by_cases c42 : 1 ≤ (x0_2.length : Int)
                ·
                 rw [if_pos c42] at H
                 have c42b0 := eq_true c42
                 have c42b1 : decide (1 ≤ (x0_2.length : Int)) = true := decide_eq_true c42
                 clear c42
                 obtain ⟨y214, hy214⟩ : ∃ y_ : List (S30), y_ = (x0_2.drop 1) := ⟨_, rfl⟩
                 replace H : (density_Merge.l0 kj16 y214 x1_2 x6_2) = some (r1, r2) := by first | (rw [hy214]; with_reducible exact H) | (have H2_ := (Option.bind_some _ _).symm.trans H; rw [hy214]; with_reducible exact H2_) | (have H2_ := (Option.bind_some _ _).symm.trans H; with_reducible exact H2_) | with_reducible exact H | (rw [hy214]; exact H) | exact H
                 have Ny214 := Aside0.mk hy214
                 clear hy214
                 have H' := Aside0.mk H
                 clear H
                 try go_wp2
                 have n0_ := Aside0.mk (Kd.V_drew HO_0.out)
                 have n1_ := Aside0.mk (Kd.V_drew HO_1.out)
                 have n2_ := Aside0.mk (Kd.R_drew HO_6.out)
                 have n3_ := Aside0.mk (below_drew1 HB.out)
                 clear HO_0
                 clear HO_1
                 clear HO_6
                 clear HB
                 have HO_0 := n0_
                 have HO_1 := n1_
                 have HO_6 := n2_
                 have HB := n3_
                 clear n0_ n1_ n2_ n3_
                 obtain ⟨Ao44, co44, eo44⟩ := Kd.V_slice HO_0.out
                 (first | subst eo44 | (injection eo44 with f1_ f2_ f3_; have f4_ := f1_.symm; have f5_ := f3_.symm; clear f1_ f2_ f3_; subst f4_; subst f5_))
                 have p212 : 0 ≤ (0 : Int) := (by omega)
                 have q212 : 0 < (x0_2.length : Int) := of_decide_eq_true (by first | (with_reducible assumption) | assumption)
                 obtain ⟨ad212, e212, hx212_0, hx212_1⟩ := at_T30 (Kd.V_reads' HO_0.out).2.2 0 p212 q212
                 cases e212
                 have qi212 : (0 < x0_2.length) = True := eq_true (by omega)
                 (try rw [show ((0 : Int)).toNat = 0 from rfl] at hx212_0)
                 (try rw [show 0 * 2 = 0 from rfl] at hx212_0)
                 (try rw [Addr.add_zero'] at hx212_0)
                 (try rw [show ((0 : Int)).toNat = 0 from rfl] at hx212_1)
                 (try rw [show 0 * 2 = 0 from rfl] at hx212_1)
                 (try rw [Addr.add_zero'] at hx212_1)
                 replace p212 := eq_true p212
                 replace q212 := eq_true q212
                 obtain ⟨Ao45, co45, eo45⟩ := Kd.V_slice HO_1.out
                 (first | subst eo45 | (injection eo45 with f1_ f2_ f3_; have f4_ := f1_.symm; have f5_ := f3_.symm; clear f1_ f2_ f3_; subst f4_; subst f5_))
                 have p213 : 0 ≤ (0 : Int) := (by omega)
                 have q213 : 0 < (x1_2.length : Int) := of_decide_eq_true (by first | (with_reducible assumption) | assumption)
                 obtain ⟨ad213, e213, hx213_0, hx213_1⟩ := at_T30 (Kd.V_reads' HO_1.out).2.2 0 p213 q213
                 cases e213
                 have qi213 : (0 < x1_2.length) = True := eq_true (by omega)
                 (try rw [show ((0 : Int)).toNat = 0 from rfl] at hx213_0)
                 (try rw [show 0 * 2 = 0 from rfl] at hx213_0)
                 (try rw [Addr.add_zero'] at hx213_0)
                 (try rw [show ((0 : Int)).toNat = 0 from rfl] at hx213_1)
                 (try rw [show 0 * 2 = 0 from rfl] at hx213_1)
                 (try rw [Addr.add_zero'] at hx213_1)
                 replace p213 := eq_true p213
                 replace q213 := eq_true q213
                 refine start_ (n := 15) (S := fun w' => w'.cell? ad212 = some (.int .i64 ((rd_T30 x0_2 0).f0)) ∧ w'.cell? ⟨ad212.block, ad212.off + 1, none⟩ = some (.int .i64 ((rd_T30 x0_2 0).f1)) ∧ w'.cell? ad213 = some (.int .i64 ((rd_T30 x1_2 0).f0)) ∧ w'.cell? ⟨ad213.block, ad213.off + 1, none⟩ = some (.int .i64 ((rd_T30 x1_2 0).f1))) (ds := []) #[false, false, false, false, false, false, false, false, false, false, false, false, false, false, false] (by kernel_rfl) rfl rfl ⟨hx212_0, hx212_1, hx213_0, hx213_1⟩ (fun hHeld => ?_); refine with_tabW density_Merge.tab8 density_Merge.bits8 (fun HT_ HW_ => ?_)
                 generalize wc.drew = w43 at HO_0 HO_1 HO_6 HB hx212_0 hx212_1 hx213_0 hx213_1 hHeld ⊢
                 refine pure_ (i := 0) (N := some 62) (v := ?_) (a' := ?_) #[true, false, false, false, false, false, false, false, false, false, false, false, false, false, false] rfl rfl (any_of HT_.out (by kernel_rfl)) (fun _ _ _ h => h) (Or.inl ⟨by rfl, ?_⟩) ?_ ?_
                 rotate_left
                 ·
                  intro w'
                  go_simp
                  with_reducible rfl
                 rotate_left
                 ·
                  simp only [Act.put, List.setIfInBounds_toArray, List.set_cons_zero, List.set_cons_succ, i64_w, i32_w]
                  rfl
                 refine pure_ (i := 1) (N := some 63) (v := ?_) (a' := ?_) #[true, true, false, false, false, false, false, false, false, false, false, false, false, false, false] rfl rfl (any_of HT_.out (by kernel_rfl)) (fun _ _ _ h => h) (Or.inl ⟨by rfl, ?_⟩) ?_ ?_
                 rotate_left
                 ·
                  intro w'
                  go_simp
                  with_reducible rfl
                 rotate_left
                 ·
                  simp only [Act.put, List.setIfInBounds_toArray, List.set_cons_zero, List.set_cons_succ, i64_w, i32_w]
                  rfl
                 refine pure_ (i := 2) (N := some 64) (v := ?_) (a' := ?_) #[true, true, true, false, false, false, false, false, false, false, false, false, false, false, false] rfl rfl (any_of HT_.out (by kernel_rfl)) (fun _ _ _ h => h) (Or.inl ⟨by rfl, ?_⟩) ?_ ?_
                 rotate_left
                 ·
                  intro w'
                  go_simp
                  with_reducible rfl
                 rotate_left
                 ·
                  simp only [Act.put, List.setIfInBounds_toArray, List.set_cons_zero, List.set_cons_succ, i64_w, i32_w]
                  rfl
                 refine pure_ (i := 3) (N := some 65) (v := ?_) (a' := ?_) #[true, true, true, true, false, false, false, false, false, false, false, false, false, false, false] rfl rfl (any_of HT_.out (by kernel_rfl)) (fun _ _ _ h => h) (Or.inl ⟨by rfl, ?_⟩) ?_ ?_
                 rotate_left
                 ·
                  intro w'
                  go_simp
                  with_reducible rfl
                 rotate_left
                 ·
                  simp only [Act.put, List.setIfInBounds_toArray, List.set_cons_zero, List.set_cons_succ, i64_w, i32_w]
                  rfl
                 refine pure_ (i := 4) (N := some 66) (v := ?_) (a' := ?_) #[true, true, true, true, true, false, false, false, false, false, false, false, false, false, false] rfl rfl (any_of HT_.out (by kernel_rfl)) (fun _ _ _ h => h) (Or.inl ⟨by rfl, ?_⟩) ?_ ?_
                 rotate_left
                 ·
                  intro w'
                  go_simp
                  with_reducible rfl
                 rotate_left
                 ·
                  simp only [Act.put, List.setIfInBounds_toArray, List.set_cons_zero, List.set_cons_succ, i64_w, i32_w]
                  rfl
                 refine pure_ (i := 5) (N := some 67) (v := ?_) (a' := ?_) #[true, true, true, true, true, true, false, false, false, false, false, false, false, false, false] rfl rfl (any_of HT_.out (by kernel_rfl)) (fun _ _ _ h => h) (Or.inl ⟨by rfl, ?_⟩) ?_ ?_
                 rotate_left
                 ·
                  intro w'
                  go_simp
                  with_reducible rfl
                 rotate_left
                 ·
                  simp only [Act.put, List.setIfInBounds_toArray, List.set_cons_zero, List.set_cons_succ, i64_w, i32_w]
                  rfl
                 refine pure_ (i := 6) (N := some 68) (v := ?_) (a' := ?_) #[true, true, true, true, true, true, true, false, false, false, false, false, false, false, false] rfl rfl (any_of HT_.out (by kernel_rfl)) (fun _ _ _ h => h) (Or.inl ⟨by rfl, ?_⟩) ?_ ?_
                 rotate_left
                 ·
                  intro w'
                  go_simp
                  with_reducible rfl
                 rotate_left
                 ·
                  simp only [Act.put, List.setIfInBounds_toArray, List.set_cons_zero, List.set_cons_succ, i64_w, i32_w]
                  rfl
                 refine pure_ (i := 8) (N := some 70) (v := ?_) (a' := ?_) #[true, true, true, true, true, true, true, false, true, false, false, false, false, false, false] rfl rfl (any_of HT_.out (by kernel_rfl)) (fun _ _ _ h => h) (Or.inl ⟨by rfl, ?_⟩) ?_ ?_
                 rotate_left
                 ·
                  intro w'
                  go_simp
                  with_reducible rfl
                 rotate_left
                 ·
                  simp only [Act.put, List.setIfInBounds_toArray, List.set_cons_zero, List.set_cons_succ, i64_w, i32_w]
                  rfl
                 refine pure_ (i := 9) (N := some 71) (v := ?_) (a' := ?_) #[true, true, true, true, true, true, true, false, true, true, false, false, false, false, false] rfl rfl (any_of HT_.out (by kernel_rfl)) (fun _ _ _ h => h) (Or.inl ⟨by rfl, ?_⟩) ?_ ?_
                 rotate_left
                 ·
                  intro w'
                  go_simp
                  with_reducible rfl
                 rotate_left
                 ·
                  simp only [Act.put, List.setIfInBounds_toArray, List.set_cons_zero, List.set_cons_succ, i64_w, i32_w]
                  rfl
                 refine pure_ (i := 10) (N := some 72) (v := ?_) (a' := ?_) #[true, true, true, true, true, true, true, false, true, true, true, false, false, false, false] rfl rfl (any_of HT_.out (by kernel_rfl)) (fun _ _ _ h => h) (Or.inl ⟨by rfl, ?_⟩) ?_ ?_
                 rotate_left
                 ·
                  intro w'
                  go_simp
                  with_reducible rfl
                 rotate_left
                 ·
                  simp only [Act.put, List.setIfInBounds_toArray, List.set_cons_zero, List.set_cons_succ, i64_w, i32_w]
                  rfl
                 refine take_ (i := 7) (N := some 69) (v := ?_) (a' := ?_) #[true, true, true, true, true, true, true, true, true, true, true, false, false, false, false] rfl rfl (take_ofW HT_.out HW_.out (by kernel_rfl)) (fun _ _ _ h => h) (Or.inl ⟨by rfl, ?_⟩) hHeld ?_ ?_
                 rotate_left
                 ·
                  rintro w' ⟨s0, s1, s2, s3⟩
                  go_simp
                  with_reducible rfl
                 rotate_left
                 ·
                  simp only [Act.put, List.setIfInBounds_toArray, List.set_cons_zero, List.set_cons_succ, i64_w, i32_w]
                  rfl
                 refine take_ (i := 11) (N := some 73) (v := ?_) (a' := ?_) #[true, true, true, true, true, true, true, true, true, true, true, true, false, false, false] rfl rfl (take_ofW HT_.out HW_.out (by kernel_rfl)) (fun _ _ _ h => h) (Or.inl ⟨by rfl, ?_⟩) hHeld ?_ ?_
                 rotate_left
                 ·
                  rintro w' ⟨s0, s1, s2, s3⟩
                  go_simp
                  with_reducible rfl
                 rotate_left
                 ·
                  simp only [Act.put, List.setIfInBounds_toArray, List.set_cons_zero, List.set_cons_succ, i64_w, i32_w]
                  rfl
                 refine pure_ (i := 12) (N := some 74) (v := ?_) (a' := ?_) #[true, true, true, true, true, true, true, true, true, true, true, true, true, false, false] rfl rfl (any_of HT_.out (by kernel_rfl)) (fun _ _ _ h => h) (Or.inl ⟨by rfl, ?_⟩) ?_ ?_
                 rotate_left
                 ·
                  intro w'
                  go_simp
                  with_reducible rfl
                 rotate_left
                 ·
                  simp only [Act.put, List.setIfInBounds_toArray, List.set_cons_zero, List.set_cons_succ, i64_w, i32_w]
                  rfl
                 refine pure_ (i := 13) (N := some 75) (v := ?_) (a' := ?_) #[true, true, true, true, true, true, true, true, true, true, true, true, true, true, false] rfl rfl (any_of HT_.out (by kernel_rfl)) (fun _ _ _ h => h) (Or.inl ⟨by rfl, ?_⟩) ?_ ?_
                 rotate_left
                 ·
                  intro w'
                  go_simp
                  with_reducible rfl
                 rotate_left
                 ·
                  simp only [Act.put, List.setIfInBounds_toArray, List.set_cons_zero, List.set_cons_succ, i64_w, i32_w]
                  rfl
                 refine pure_ (i := 14) (N := some 61) (v := ?_) (a' := ?_) #[true, true, true, true, true, true, true, true, true, true, true, true, true, true, true] rfl rfl (any_of HT_.out (by kernel_rfl)) (fun _ _ _ h => h) (Or.inl ⟨by rfl, ?_⟩) ?_ ?_
                 rotate_left
                 ·
                  intro w'
                  go_simp
                  with_reducible rfl
                 rotate_left
                 ·
                  simp only [Act.put, List.setIfInBounds_toArray, List.set_cons_zero, List.set_cons_succ, i64_w, i32_w]
                  rfl
                 refine done_ (done_of HT_.out (by kernel_rfl)) ?_
                 have q46 : (1 : Int) ≤ ((x0_2.length : Int) : Int) := of_decide_eq_true (by first | (with_reducible assumption) | assumption)
                 obtain ⟨i046, hi046, _, hsz46, _⟩ := info_parts info30
                 have hroom46 : x0_2.length ≤ co44 := (Kd.V_reads' HO_0.out).2.1
                 have hC46 : Kd.F k30 _ _ (some ad212) x0_2.length x0_2 := (Kd.V_at (base := w.heap.size) HO_0.out).2.2
                 have hcut46 := cut_from (P := Tryd.prog) 22 30 .i64 Tryd.underlying22 hi046 2 hsz46 (some ad212) x0_2.length co44 1 (by omega) q46
                 have hr46 := Kd.F_cut (m := (1 : Int).toNat) (c := co44) hC46 (by omega) hroom46
                 obtain ⟨A46, hA46⟩ : ∃ A1, A1 = (if co44 = (1 : Int).toNat then (some ad212) else ((some ad212) : Option Addr).map (·.add ((1 : Int).toNat * 2))) := ⟨_, rfl⟩
                 obtain ⟨c46, hc46⟩ : ∃ c1, c1 = co44 - (1 : Int).toNat := ⟨_, rfl⟩
                 have hy46 : y214.length = x0_2.length - (1 : Int).toNat := (by rw [Ny214.out, List.length_drop] <;> omega)
                 rw [show (x0_2).drop (1 : Int).toNat = y214 from Ny214.out.symm] at hr46
                 replace hr46 : Kd.F k30 _ _ A46 y214.length y214 := (by rw [hA46]; exact hr46)
                 rw [← hy46, ← hA46, ← hc46] at hcut46
                 have HO218 := Aside0.mk (show Kd.V k30 30 _ w.heap.size _ (.slice A46 y214.length c46) y214 from Kd.V_mk (by rw [hy46, hc46]; exact Nat.sub_le_sub_right hroom46 _) hr46)
                 have HC218 := Aside0.mk (show y214.length ≤ c46 from by rw [hy46, hc46]; exact Nat.sub_le_sub_right hroom46 _)
                 clear hr46 hC46 hroom46 hi046 hsz46 hc46
                 have KY46 := Aside0.mk hy46
                 have KA46 := Aside0.mk hA46
                 clear hy46 hA46
                 replace q46 := eq_true q46
                 try go_wp2
                 go_roundg kj16
                 case measure => have := HJ2.out; have := HK2.out; have := HJ10.out; have := HJ16.out; omega
                 case rel => exact ⟨(y214), (x1_2), (x6_2), H', ⟨by have := HJ2.out; have := HK2.out; have := HJ10.out; have := HJ16.out; omega⟩, ⟨by (with_reducible repeat (first | apply Kd.V_alloc | apply Kd.V_drewN | apply Kd.V_drew)); exact HO218.out⟩, ⟨by (with_reducible repeat (first | apply Kd.V_alloc | apply Kd.V_drewN | apply Kd.V_drew)); exact HO_1.out⟩, ⟨by (with_reducible repeat (first | apply Kd.R_alloc | apply Kd.R_drewN | apply Kd.R_drew)); exact HO_6.out⟩, ⟨by repeat (first | (with_reducible first | exact HB.out | apply below_alloc | apply pw_below_drewN | apply below_drew1) | exact HB.out)⟩⟩
                ·
                 rw [if_neg c42] at H
                 exact absurd H (by simp)
               ·
                rw [if_neg c41] at H
                have c41b0 : (((rd_T30 x0_2 0).f0) == ((rd_T30 x1_2 0).f0)) = false := beq_eq_false_iff_ne.mpr c41
                have c41b1 : (((rd_T30 x0_2 0).f0) != ((rd_T30 x1_2 0).f0)) = true := bne_iff_ne.mpr c41
                by_cases c47 : x6_2.length < 8796093022208
                ·
                 rw [if_pos c47] at H
                 have LMc47 := Aside0.mk c47
                 clear c47
                 obtain ⟨y220, hy220⟩ : ∃ y_ : List (S30), y_ = (x6_2 ++ [(⟨(rd_T30 x1_2 0).f0, (rd_T30 x1_2 0).f1⟩ : S30)]) := ⟨_, rfl⟩
                 replace H : (if 1 ≤ (x1_2.length : Int) then (density_Merge.l0 kj16 x0_2 (x1_2.drop 1) y220) else (none)) = some (r1, r2) := by first | (rw [hy220]; with_reducible exact H) | (have H2_ := (Option.bind_some _ _).symm.trans H; rw [hy220]; with_reducible exact H2_) | (have H2_ := (Option.bind_some _ _).symm.trans H; with_reducible exact H2_) | with_reducible exact H | (rw [hy220]; exact H) | exact H
                 have Ny220 := Aside0.mk hy220
                 clear hy220
                 by_cases c48 : 1 ≤ (x1_2.length : Int)
                 ·
                  rw [if_pos c48] at H
                  have c48b0 := eq_true c48
                  have c48b1 : decide (1 ≤ (x1_2.length : Int)) = true := decide_eq_true c48
                  clear c48
                  obtain ⟨y223, hy223⟩ : ∃ y_ : List (S30), y_ = (x1_2.drop 1) := ⟨_, rfl⟩
                  replace H : (density_Merge.l0 kj16 x0_2 y223 y220) = some (r1, r2) := by first | (rw [hy223]; with_reducible exact H) | (have H2_ := (Option.bind_some _ _).symm.trans H; rw [hy223]; with_reducible exact H2_) | (have H2_ := (Option.bind_some _ _).symm.trans H; with_reducible exact H2_) | with_reducible exact H | (rw [hy223]; exact H) | exact H
                  have Ny223 := Aside0.mk hy223
                  clear hy223
                  have H' := Aside0.mk H
                  clear H
                  try go_wp2
                  have n0_ := Aside0.mk (Kd.V_drew HO_0.out)
                  have n1_ := Aside0.mk (Kd.V_drew HO_1.out)
                  have n2_ := Aside0.mk (Kd.R_drew HO_6.out)
                  have n3_ := Aside0.mk (below_drew1 HB.out)
                  clear HO_0
                  clear HO_1
                  clear HO_6
                  clear HB
                  have HO_0 := n0_
                  have HO_1 := n1_
                  have HO_6 := n2_
                  have HB := n3_
                  clear n0_ n1_ n2_ n3_
                  obtain ⟨Ao50, co50, eo50⟩ := Kd.V_slice HO_0.out
                  (first | subst eo50 | (injection eo50 with f1_ f2_ f3_; have f4_ := f1_.symm; have f5_ := f3_.symm; clear f1_ f2_ f3_; subst f4_; subst f5_))
                  have p212 : 0 ≤ (0 : Int) := (by omega)
                  have q212 : 0 < (x0_2.length : Int) := of_decide_eq_true (by first | (with_reducible assumption) | assumption)
                  obtain ⟨ad212, e212, hx212_0, hx212_1⟩ := at_T30 (Kd.V_reads' HO_0.out).2.2 0 p212 q212
                  cases e212
                  have qi212 : (0 < x0_2.length) = True := eq_true (by omega)
                  (try rw [show ((0 : Int)).toNat = 0 from rfl] at hx212_0)
                  (try rw [show 0 * 2 = 0 from rfl] at hx212_0)
                  (try rw [Addr.add_zero'] at hx212_0)
                  (try rw [show ((0 : Int)).toNat = 0 from rfl] at hx212_1)
                  (try rw [show 0 * 2 = 0 from rfl] at hx212_1)
                  (try rw [Addr.add_zero'] at hx212_1)
                  replace p212 := eq_true p212
                  replace q212 := eq_true q212
                  obtain ⟨Ao51, co51, eo51⟩ := Kd.V_slice HO_1.out
                  (first | subst eo51 | (injection eo51 with f1_ f2_ f3_; have f4_ := f1_.symm; have f5_ := f3_.symm; clear f1_ f2_ f3_; subst f4_; subst f5_))
                  have p213 : 0 ≤ (0 : Int) := (by omega)
                  have q213 : 0 < (x1_2.length : Int) := of_decide_eq_true (by first | (with_reducible assumption) | assumption)
                  obtain ⟨ad213, e213, hx213_0, hx213_1⟩ := at_T30 (Kd.V_reads' HO_1.out).2.2 0 p213 q213
                  cases e213
                  have qi213 : (0 < x1_2.length) = True := eq_true (by omega)
                  (try rw [show ((0 : Int)).toNat = 0 from rfl] at hx213_0)
                  (try rw [show 0 * 2 = 0 from rfl] at hx213_0)
                  (try rw [Addr.add_zero'] at hx213_0)
                  (try rw [show ((0 : Int)).toNat = 0 from rfl] at hx213_1)
                  (try rw [show 0 * 2 = 0 from rfl] at hx213_1)
                  (try rw [Addr.add_zero'] at hx213_1)
                  replace p213 := eq_true p213
                  replace q213 := eq_true q213
                  refine start_ (n := 15) (S := fun w' => w'.cell? ad212 = some (.int .i64 ((rd_T30 x0_2 0).f0)) ∧ w'.cell? ⟨ad212.block, ad212.off + 1, none⟩ = some (.int .i64 ((rd_T30 x0_2 0).f1)) ∧ w'.cell? ad213 = some (.int .i64 ((rd_T30 x1_2 0).f0)) ∧ w'.cell? ⟨ad213.block, ad213.off + 1, none⟩ = some (.int .i64 ((rd_T30 x1_2 0).f1))) (ds := []) #[false, false, false, false, false, false, false, false, false, false, false, false, false, false, false] (by kernel_rfl) rfl rfl ⟨hx212_0, hx212_1, hx213_0, hx213_1⟩ (fun hHeld => ?_); refine with_tabW density_Merge.tab8 density_Merge.bits8 (fun HT_ HW_ => ?_)
                  generalize wc.drew = w49 at HO_0 HO_1 HO_6 HB hx212_0 hx212_1 hx213_0 hx213_1 hHeld ⊢
                  refine pure_ (i := 0) (N := some 62) (v := ?_) (a' := ?_) #[true, false, false, false, false, false, false, false, false, false, false, false, false, false, false] rfl rfl (any_of HT_.out (by kernel_rfl)) (fun _ _ _ h => h) (Or.inl ⟨by rfl, ?_⟩) ?_ ?_
                  rotate_left
                  ·
                   intro w'
                   go_simp
                   with_reducible rfl
                  rotate_left
                  ·
                   simp only [Act.put, List.setIfInBounds_toArray, List.set_cons_zero, List.set_cons_succ, i64_w, i32_w]
                   rfl
                  refine pure_ (i := 1) (N := some 63) (v := ?_) (a' := ?_) #[true, true, false, false, false, false, false, false, false, false, false, false, false, false, false] rfl rfl (any_of HT_.out (by kernel_rfl)) (fun _ _ _ h => h) (Or.inl ⟨by rfl, ?_⟩) ?_ ?_
                  rotate_left
                  ·
                   intro w'
                   go_simp
                   with_reducible rfl
                  rotate_left
                  ·
                   simp only [Act.put, List.setIfInBounds_toArray, List.set_cons_zero, List.set_cons_succ, i64_w, i32_w]
                   rfl
                  refine pure_ (i := 2) (N := some 64) (v := ?_) (a' := ?_) #[true, true, true, false, false, false, false, false, false, false, false, false, false, false, false] rfl rfl (any_of HT_.out (by kernel_rfl)) (fun _ _ _ h => h) (Or.inl ⟨by rfl, ?_⟩) ?_ ?_
                  rotate_left
                  ·
                   intro w'
                   go_simp
                   with_reducible rfl
                  rotate_left
                  ·
                   simp only [Act.put, List.setIfInBounds_toArray, List.set_cons_zero, List.set_cons_succ, i64_w, i32_w]
                   rfl
                  refine pure_ (i := 3) (N := some 65) (v := ?_) (a' := ?_) #[true, true, true, true, false, false, false, false, false, false, false, false, false, false, false] rfl rfl (any_of HT_.out (by kernel_rfl)) (fun _ _ _ h => h) (Or.inl ⟨by rfl, ?_⟩) ?_ ?_
                  rotate_left
                  ·
                   intro w'
                   go_simp
                   with_reducible rfl
                  rotate_left
                  ·
                   simp only [Act.put, List.setIfInBounds_toArray, List.set_cons_zero, List.set_cons_succ, i64_w, i32_w]
                   rfl
                  refine pure_ (i := 4) (N := some 66) (v := ?_) (a' := ?_) #[true, true, true, true, true, false, false, false, false, false, false, false, false, false, false] rfl rfl (any_of HT_.out (by kernel_rfl)) (fun _ _ _ h => h) (Or.inl ⟨by rfl, ?_⟩) ?_ ?_
                  rotate_left
                  ·
                   intro w'
                   go_simp
                   with_reducible rfl
                  rotate_left
                  ·
                   simp only [Act.put, List.setIfInBounds_toArray, List.set_cons_zero, List.set_cons_succ, i64_w, i32_w]
                   rfl
                  refine pure_ (i := 5) (N := some 67) (v := ?_) (a' := ?_) #[true, true, true, true, true, true, false, false, false, false, false, false, false, false, false] rfl rfl (any_of HT_.out (by kernel_rfl)) (fun _ _ _ h => h) (Or.inl ⟨by rfl, ?_⟩) ?_ ?_
                  rotate_left
                  ·
                   intro w'
                   go_simp
                   with_reducible rfl
                  rotate_left
                  ·
                   simp only [Act.put, List.setIfInBounds_toArray, List.set_cons_zero, List.set_cons_succ, i64_w, i32_w]
                   rfl
                  refine pure_ (i := 6) (N := some 68) (v := ?_) (a' := ?_) #[true, true, true, true, true, true, true, false, false, false, false, false, false, false, false] rfl rfl (any_of HT_.out (by kernel_rfl)) (fun _ _ _ h => h) (Or.inl ⟨by rfl, ?_⟩) ?_ ?_
                  rotate_left
                  ·
                   intro w'
                   go_simp
                   with_reducible rfl
                  rotate_left
                  ·
                   simp only [Act.put, List.setIfInBounds_toArray, List.set_cons_zero, List.set_cons_succ, i64_w, i32_w]
                   rfl
                  refine pure_ (i := 8) (N := some 70) (v := ?_) (a' := ?_) #[true, true, true, true, true, true, true, false, true, false, false, false, false, false, false] rfl rfl (any_of HT_.out (by kernel_rfl)) (fun _ _ _ h => h) (Or.inl ⟨by rfl, ?_⟩) ?_ ?_
                  rotate_left
                  ·
                   intro w'
                   go_simp
                   with_reducible rfl
                  rotate_left
                  ·
                   simp only [Act.put, List.setIfInBounds_toArray, List.set_cons_zero, List.set_cons_succ, i64_w, i32_w]
                   rfl
                  refine pure_ (i := 9) (N := some 71) (v := ?_) (a' := ?_) #[true, true, true, true, true, true, true, false, true, true, false, false, false, false, false] rfl rfl (any_of HT_.out (by kernel_rfl)) (fun _ _ _ h => h) (Or.inl ⟨by rfl, ?_⟩) ?_ ?_
                  rotate_left
                  ·
                   intro w'
                   go_simp
                   with_reducible rfl
                  rotate_left
                  ·
                   simp only [Act.put, List.setIfInBounds_toArray, List.set_cons_zero, List.set_cons_succ, i64_w, i32_w]
                   rfl
                  refine pure_ (i := 10) (N := some 72) (v := ?_) (a' := ?_) #[true, true, true, true, true, true, true, false, true, true, true, false, false, false, false] rfl rfl (any_of HT_.out (by kernel_rfl)) (fun _ _ _ h => h) (Or.inl ⟨by rfl, ?_⟩) ?_ ?_
                  rotate_left
                  ·
                   intro w'
                   go_simp
                   with_reducible rfl
                  rotate_left
                  ·
                   simp only [Act.put, List.setIfInBounds_toArray, List.set_cons_zero, List.set_cons_succ, i64_w, i32_w]
                   rfl
                  refine take_ (i := 7) (N := some 69) (v := ?_) (a' := ?_) #[true, true, true, true, true, true, true, true, true, true, true, false, false, false, false] rfl rfl (take_ofW HT_.out HW_.out (by kernel_rfl)) (fun _ _ _ h => h) (Or.inl ⟨by rfl, ?_⟩) hHeld ?_ ?_
                  rotate_left
                  ·
                   rintro w' ⟨s0, s1, s2, s3⟩
                   go_simp
                   with_reducible rfl
                  rotate_left
                  ·
                   simp only [Act.put, List.setIfInBounds_toArray, List.set_cons_zero, List.set_cons_succ, i64_w, i32_w]
                   rfl
                  refine take_ (i := 11) (N := some 73) (v := ?_) (a' := ?_) #[true, true, true, true, true, true, true, true, true, true, true, true, false, false, false] rfl rfl (take_ofW HT_.out HW_.out (by kernel_rfl)) (fun _ _ _ h => h) (Or.inl ⟨by rfl, ?_⟩) hHeld ?_ ?_
                  rotate_left
                  ·
                   rintro w' ⟨s0, s1, s2, s3⟩
                   go_simp
                   with_reducible rfl
                  rotate_left
                  ·
                   simp only [Act.put, List.setIfInBounds_toArray, List.set_cons_zero, List.set_cons_succ, i64_w, i32_w]
                   rfl
                  refine pure_ (i := 12) (N := some 74) (v := ?_) (a' := ?_) #[true, true, true, true, true, true, true, true, true, true, true, true, true, false, false] rfl rfl (any_of HT_.out (by kernel_rfl)) (fun _ _ _ h => h) (Or.inl ⟨by rfl, ?_⟩) ?_ ?_
                  rotate_left
                  ·
                   intro w'
                   go_simp
                   with_reducible rfl
                  rotate_left
                  ·
                   simp only [Act.put, List.setIfInBounds_toArray, List.set_cons_zero, List.set_cons_succ, i64_w, i32_w]
                   rfl
                  refine pure_ (i := 13) (N := some 75) (v := ?_) (a' := ?_) #[true, true, true, true, true, true, true, true, true, true, true, true, true, true, false] rfl rfl (any_of HT_.out (by kernel_rfl)) (fun _ _ _ h => h) (Or.inl ⟨by rfl, ?_⟩) ?_ ?_
                  rotate_left
                  ·
                   intro w'
                   go_simp
                   with_reducible rfl
                  rotate_left
                  ·
                   simp only [Act.put, List.setIfInBounds_toArray, List.set_cons_zero, List.set_cons_succ, i64_w, i32_w]
                   rfl
                  refine pure_ (i := 14) (N := some 61) (v := ?_) (a' := ?_) #[true, true, true, true, true, true, true, true, true, true, true, true, true, true, true] rfl rfl (any_of HT_.out (by kernel_rfl)) (fun _ _ _ h => h) (Or.inl ⟨by rfl, ?_⟩) ?_ ?_
                  rotate_left
                  ·
                   intro w'
                   go_simp
                   with_reducible rfl
                  rotate_left
                  ·
                   simp only [Act.put, List.setIfInBounds_toArray, List.set_cons_zero, List.set_cons_succ, i64_w, i32_w]
                   rfl
                  refine done_ (done_of HT_.out (by kernel_rfl)) ?_
                  try go_wp2
                  have n0_ := Aside0.mk (Kd.V_drew HO_0.out)
                  have n1_ := Aside0.mk (Kd.V_drew HO_1.out)
                  have n2_ := Aside0.mk (Kd.R_drew HO_6.out)
                  have n3_ := Aside0.mk (below_drew1 HB.out)
                  clear HO_0
                  clear HO_1
                  clear HO_6
                  clear HB
                  have HO_0 := n0_
                  have HO_1 := n1_
                  have HO_6 := n2_
                  have HB := n3_
                  clear n0_ n1_ n2_ n3_
                  have p219 : 0 ≤ (0 : Int) := (by omega)
                  have q219 : 0 < (x1_2.length : Int) := of_decide_eq_true (by first | (with_reducible assumption) | assumption)
                  obtain ⟨ad219, e219, hx219_0, hx219_1⟩ := at_T30 (Kd.V_reads' HO_1.out).2.2 0 p219 q219
                  obtain rfl : ad213 = ad219 := (by injection e219)
                  have qi219 : (0 < x1_2.length) = True := eq_true (by omega)
                  (try rw [show ((0 : Int)).toNat = 0 from rfl] at hx219_0)
                  (try rw [show 0 * 2 = 0 from rfl] at hx219_0)
                  (try rw [Addr.add_zero'] at hx219_0)
                  (try rw [show ((0 : Int)).toNat = 0 from rfl] at hx219_1)
                  (try rw [show 0 * 2 = 0 from rfl] at hx219_1)
                  (try rw [Addr.add_zero'] at hx219_1)
                  replace p219 := eq_true p219
                  replace q219 := eq_true q219
                  have q53 : (1 : Int) ≤ ((x1_2.length : Int) : Int) := of_decide_eq_true (by first | (with_reducible assumption) | assumption)
                  obtain ⟨i053, hi053, _, hsz53, _⟩ := info_parts info30
                  have hroom53 : x1_2.length ≤ co51 := (Kd.V_reads' HO_1.out).2.1
                  have hC53 : Kd.F k30 _ _ (some ad213) x1_2.length x1_2 := (Kd.V_at (base := w.heap.size) HO_1.out).2.2
                  have hcut53 := cut_from (P := Tryd.prog) 22 30 .i64 Tryd.underlying22 hi053 2 hsz53 (some ad213) x1_2.length co51 1 (by omega) q53
                  have hr53 := Kd.F_cut (m := (1 : Int).toNat) (c := co51) hC53 (by omega) hroom53
                  obtain ⟨A53, hA53⟩ : ∃ A1, A1 = (if co51 = (1 : Int).toNat then (some ad213) else ((some ad213) : Option Addr).map (·.add ((1 : Int).toNat * 2))) := ⟨_, rfl⟩
                  obtain ⟨c53, hc53⟩ : ∃ c1, c1 = co51 - (1 : Int).toNat := ⟨_, rfl⟩
                  have hy53 : y223.length = x1_2.length - (1 : Int).toNat := (by rw [Ny223.out, List.length_drop] <;> omega)
                  rw [show (x1_2).drop (1 : Int).toNat = y223 from Ny223.out.symm] at hr53
                  replace hr53 : Kd.F k30 _ _ A53 y223.length y223 := (by rw [hA53]; exact hr53)
                  rw [← hy53, ← hA53, ← hc53] at hcut53
                  have HO227 := Aside0.mk (show Kd.V k30 30 _ w.heap.size _ (.slice A53 y223.length c53) y223 from Kd.V_mk (by rw [hy53, hc53]; exact Nat.sub_le_sub_right hroom53 _) hr53)
                  have HC227 := Aside0.mk (show y223.length ≤ c53 from by rw [hy53, hc53]; exact Nat.sub_le_sub_right hroom53 _)
                  clear hr53 hC53 hroom53 hi053 hsz53 hc53
                  have KY53 := Aside0.mk hy53
                  have KA53 := Aside0.mk hA53
                  clear hy53 hA53
                  replace q53 := eq_true q53
                  refine start_ (n := 10) (S := fun w' => w'.cell? ad213 = some (.int .i64 ((rd_T30 x1_2 0).f0)) ∧ w'.cell? ⟨ad213.block, ad213.off + 1, none⟩ = some (.int .i64 ((rd_T30 x1_2 0).f1))) (ds := [4, 5]) #[false, false, false, false, false, false, false, false, false, false] (by kernel_rfl) rfl rfl ⟨hx219_0, hx219_1⟩ (fun hHeld => ?_); refine with_tabW density_Merge.tab5 density_Merge.bits5 (fun HT_ HW_ => ?_)
                  generalize w49.drew = w52 at HO_0 HO_1 HO_6 HB HO227 hx219_0 hx219_1 hHeld ⊢
                  refine pure_ (i := 0) (N := some 25) (v := ?_) (a' := ?_) #[true, false, false, false, false, false, false, false, false, false] rfl rfl (any_of HT_.out (by kernel_rfl)) (fun _ _ _ h => h) (Or.inl ⟨by rfl, ?_⟩) ?_ ?_
                  rotate_left
                  ·
                   intro w'
                   go_simp
                   with_reducible rfl
                  rotate_left
                  ·
                   simp only [Act.put, List.setIfInBounds_toArray, List.set_cons_zero, List.set_cons_succ, i64_w, i32_w]
                   rfl
                  refine pure_ (i := 1) (N := some 26) (v := ?_) (a' := ?_) #[true, true, false, false, false, false, false, false, false, false] rfl rfl (any_of HT_.out (by kernel_rfl)) (fun _ _ _ h => h) (Or.inl ⟨by rfl, ?_⟩) ?_ ?_
                  rotate_left
                  ·
                   intro w'
                   go_simp
                   with_reducible rfl
                  rotate_left
                  ·
                   simp only [Act.put, List.setIfInBounds_toArray, List.set_cons_zero, List.set_cons_succ, i64_w, i32_w]
                   rfl
                  refine pure_ (i := 2) (N := some 27) (v := ?_) (a' := ?_) #[true, true, true, false, false, false, false, false, false, false] rfl rfl (any_of HT_.out (by kernel_rfl)) (fun _ _ _ h => h) (Or.inl ⟨by rfl, ?_⟩) ?_ ?_
                  rotate_left
                  ·
                   intro w'
                   go_simp
                   with_reducible rfl
                  rotate_left
                  ·
                   simp only [Act.put, List.setIfInBounds_toArray, List.set_cons_zero, List.set_cons_succ, i64_w, i32_w]
                   rfl
                  refine pure_ (i := 6) (N := some 31) (v := ?_) (a' := ?_) #[true, true, true, false, false, false, true, false, false, false] rfl rfl (any_of HT_.out (by kernel_rfl)) (fun _ _ _ h => h) (Or.inl ⟨by rfl, ?_⟩) ?_ ?_
                  rotate_left
                  ·
                   intro w'
                   go_simp
                   with_reducible rfl
                  rotate_left
                  ·
                   simp only [Act.put, List.setIfInBounds_toArray, List.set_cons_zero, List.set_cons_succ, i64_w, i32_w]
                   rfl
                  refine pure_ (i := 7) (N := some 32) (v := ?_) (a' := ?_) #[true, true, true, false, false, false, true, true, false, false] rfl rfl (any_of HT_.out (by kernel_rfl)) (fun _ _ _ h => h) (Or.inl ⟨by rfl, ?_⟩) ?_ ?_
                  rotate_left
                  ·
                   intro w'
                   go_simp
                   with_reducible rfl
                  rotate_left
                  ·
                   simp only [Act.put, List.setIfInBounds_toArray, List.set_cons_zero, List.set_cons_succ, i64_w, i32_w]
                   rfl
                  refine take_ (i := 3) (N := some 28) (v := ?_) (a' := ?_) #[true, true, true, true, false, false, true, true, false, false] rfl rfl (take_ofW HT_.out HW_.out (by kernel_rfl)) (fun _ _ _ h => h) (Or.inl ⟨by rfl, ?_⟩) hHeld ?_ ?_
                  rotate_left
                  ·
                   rintro w' ⟨s0, s1⟩
                   go_simp
                   with_reducible rfl
                  rotate_left
                  ·
                   simp only [Act.put, List.setIfInBounds_toArray, List.set_cons_zero, List.set_cons_succ, i64_w, i32_w]
                   rfl
                  refine last_ (i := 4) (N := some 29) #[true, true, true, true, true, false, true, true, false, false] rfl rfl (one_of HT_.out (by kernel_rfl)) (by decide) (fun K hK => ?_)
                  refine value_ (w1 := ?_) (v := ?_) (by rfl) rfl ?_ ?_
                  rotate_left 2
                  ·
                   go_simp
                   constructor
                   ·
                    rfl
                   ·
                    rfl
                  refine hK.out _ _ ?_
                  clear hK K
                  refine norm_ (a' := ?_) ?_ ?_
                  rotate_left
                  ·
                   show Act.put _ (some 29) _ = _
                   simp only [Act.put, List.setIfInBounds_toArray, List.set_cons_zero, List.set_cons_succ, i64_w, i32_w]
                   rfl
                  refine last_ (i := 5) (N := some 30) #[true, true, true, true, true, true, true, true, false, false] rfl rfl (one_of HT_.out (by kernel_rfl)) (by decide) (fun K hK => ?_)
                  refine Kd.R_append_step k30 (w0 := w) w.heap.size (by rfl) (.tmp 25) (.tmp 29) 22 30 (.agg #[(.int .i64 0), (.int .i64 0)]) 16 rfl Tryd.underlying22 info30 rfl (by decide) (by omega) u6 x6_2 (⟨(rd_T30 x1_2 0).f0, (rd_T30 x1_2 0).f1⟩ : S30) [.int .i64 ((rd_T30 x1_2 0).f0), .int .i64 ((rd_T30 x1_2 0).f1)] (fun k_ => (w.heap.size ≤ k_)) (fun _ => False) rfl rfl ?aP (fun _ hk => hk.elim) ?aF ?aO ?aB ?aS ?aL ?_
                  (case aP => exact k30_mkM _ _ _ (⟨(rd_T30 x1_2 0).f0, (rd_T30 x1_2 0).f1⟩ : S30))
                  (case aB => exact (by repeat (with_reducible first | exact HB.out | apply below_alloc | apply pw_below_drewN | apply below_drew1)))
                  (case aF => exact (fun k_ hk => (Nat.le_trans (below_size (by repeat (with_reducible first | exact HB.out | apply below_alloc | apply pw_below_drewN | apply below_drew1))) hk)))
                  (case aO => exact (by (with_reducible repeat (first | apply Kd.R_alloc | apply Kd.R_drewN | apply Kd.R_drew)); exact HO_6.out))
                  (case aS => exact (below_size (by repeat (with_reducible first | exact HB.out | apply below_alloc | apply pw_below_drewN | apply below_drew1))))
                  (case aL => have := LMc47.out; omega)
                  intro v221 w54 ho hb hg hat
                  rw [← Ny220.out] at ho
                  have n0_ := Aside0.mk (Kd.V_afterv (ok := (fun k_ => ((P0_ k_ ∨ P1_ k_) ∨ w.heap.size ≤ k_))) (by (with_reducible repeat (first | apply Kd.V_alloc | apply Kd.V_drewN | apply Kd.V_drew)); exact HO_0.out) hg hat)
                  have n1_ := Aside0.mk (Kd.V_afterv (ok := (fun k_ => ((P0_ k_ ∨ P1_ k_) ∨ w.heap.size ≤ k_))) (by (with_reducible repeat (first | apply Kd.V_alloc | apply Kd.V_drewN | apply Kd.V_drew)); exact HO_1.out) hg hat)
                  have n2_ := Aside0.mk (Kd.V_afterv (ok := (fun k_ => ((P0_ k_ ∨ P1_ k_) ∨ w.heap.size ≤ k_))) (by (with_reducible repeat (first | apply Kd.V_alloc | apply Kd.V_drewN | apply Kd.V_drew)); exact HO227.out) hg hat)
                  have n3_ := Aside0.mk (hb)
                  have n4_ := Aside0.mk (ho)
                  clear HO_0
                  clear HO_1
                  clear HO227
                  clear HB
                  clear HO_6
                  have HO_0 := n0_
                  have HO_1 := n1_
                  have HO227 := n2_
                  have HB := n3_
                  have HO222 := n4_
                  clear n0_ n1_ n2_ n3_ n4_
                  clear ho hb hg hat
                  refine hK.out _ _ ?_
                  clear hK K
                  refine norm_ (a' := ?_) ?_ ?_
                  rotate_left
                  ·
                   show Act.put _ (some 30) _ = _
                   simp only [Act.put, List.setIfInBounds_toArray, List.set_cons_zero, List.set_cons_succ, i64_w, i32_w]
                   rfl
                  refine pure_ (i := 8) (N := some 6) (v := ?_) (a' := ?_) #[true, true, true, true, true, true, true, true, true, false] rfl rfl (any_of HT_.out (by kernel_rfl)) (fun _ _ _ h => h) (Or.inl ⟨by rfl, ?_⟩) ?_ ?_
                  rotate_left
                  ·
                   intro w'
                   go_simp
                   with_reducible rfl
                  rotate_left
                  ·
                   simp only [Act.put, List.setIfInBounds_toArray, List.set_cons_zero, List.set_cons_succ, i64_w, i32_w]
                   rfl
                  refine pure_ (i := 9) (N := some 1) (v := ?_) (a' := ?_) #[true, true, true, true, true, true, true, true, true, true] rfl rfl (any_of HT_.out (by kernel_rfl)) (fun _ _ _ h => h) (Or.inl ⟨by rfl, ?_⟩) ?_ ?_
                  rotate_left
                  ·
                   intro w'
                   go_simp
                   with_reducible rfl
                  rotate_left
                  ·
                   simp only [Act.put, List.setIfInBounds_toArray, List.set_cons_zero, List.set_cons_succ, i64_w, i32_w]
                   rfl
                  refine done_ (done_of HT_.out (by kernel_rfl)) ?_
                  try go_wp2
                  go_roundg kj16
                  case measure => have := HJ2.out; have := HK2.out; have := HJ10.out; have := HJ16.out; omega
                  case rel => exact ⟨(x0_2), (y223), (y220), H', ⟨by have := HJ2.out; have := HK2.out; have := HJ10.out; have := HJ16.out; omega⟩, ⟨by (with_reducible repeat (first | apply Kd.V_alloc | apply Kd.V_drewN | apply Kd.V_drew)); exact HO_0.out⟩, ⟨by (with_reducible repeat (first | apply Kd.V_alloc | apply Kd.V_drewN | apply Kd.V_drew)); exact HO227.out⟩, ⟨by (with_reducible repeat (first | apply Kd.R_alloc | apply Kd.R_drewN | apply Kd.R_drew)); exact HO222.out⟩, ⟨by repeat (first | (with_reducible first | exact HB.out | apply below_alloc | apply pw_below_drewN | apply below_drew1) | exact HB.out)⟩⟩
                 ·
                  rw [if_neg c48] at H
                  exact absurd H (by simp)
                ·
                 rw [if_neg c47] at H
                 exact absurd H (by simp)
              ·
               rw [if_neg c40] at H
               exact absurd H (by simp)
             ·
              rw [if_neg c39] at H
              exact absurd H (by simp)
            ·
             rw [if_neg c38] at H
             have c38b0 : decide (0 < (x0_2.length : Int)) = false := decide_eq_false c38
             have c38b1 : decide (0 < x0_2.length) = false := decide_eq_false (by omega)
             clear c38
             by_cases c55 : 0 < (x1_2.length : Int)
             ·
              rw [if_pos c55] at H
              have c55b0 : decide (0 < (x1_2.length : Int)) = true := decide_eq_true c55
              have c55b1 : decide (0 < x1_2.length) = true := decide_eq_true (by omega)
              clear c55
              by_cases c56 : x6_2.length < 8796093022208
              ·
               rw [if_pos c56] at H
               have LMc56 := Aside0.mk c56
               clear c56
               obtain ⟨y229, hy229⟩ : ∃ y_ : List (S30), y_ = (x6_2 ++ [(⟨(rd_T30 x1_2 0).f0, (rd_T30 x1_2 0).f1⟩ : S30)]) := ⟨_, rfl⟩
               replace H : (if 1 ≤ (x1_2.length : Int) then (density_Merge.l0 kj16 x0_2 (x1_2.drop 1) y229) else (none)) = some (r1, r2) := by first | (rw [hy229]; with_reducible exact H) | (have H2_ := (Option.bind_some _ _).symm.trans H; rw [hy229]; with_reducible exact H2_) | (have H2_ := (Option.bind_some _ _).symm.trans H; with_reducible exact H2_) | with_reducible exact H | (rw [hy229]; exact H) | exact H
               have Ny229 := Aside0.mk hy229
               clear hy229
               by_cases c57 : 1 ≤ (x1_2.length : Int)
               ·
                rw [if_pos c57] at H
                have c57b0 := eq_true c57
                have c57b1 : decide (1 ≤ (x1_2.length : Int)) = true := decide_eq_true c57
                clear c57
                obtain ⟨y232, hy232⟩ : ∃ y_ : List (S30), y_ = (x1_2.drop 1) := ⟨_, rfl⟩
                replace H : (density_Merge.l0 kj16 x0_2 y232 y229) = some (r1, r2) := by first | (rw [hy232]; with_reducible exact H) | (have H2_ := (Option.bind_some _ _).symm.trans H; rw [hy232]; with_reducible exact H2_) | (have H2_ := (Option.bind_some _ _).symm.trans H; with_reducible exact H2_) | with_reducible exact H | (rw [hy232]; exact H) | exact H
                have Ny232 := Aside0.mk hy232
                clear hy232
                have H' := Aside0.mk H
                clear H
                try go_wp2
                have n0_ := Aside0.mk (Kd.V_drew HO_0.out)
                have n1_ := Aside0.mk (Kd.V_drew HO_1.out)
                have n2_ := Aside0.mk (Kd.R_drew HO_6.out)
                have n3_ := Aside0.mk (below_drew1 HB.out)
                clear HO_0
                clear HO_1
                clear HO_6
                clear HB
                have HO_0 := n0_
                have HO_1 := n1_
                have HO_6 := n2_
                have HB := n3_
                clear n0_ n1_ n2_ n3_
                obtain ⟨Ao59, co59, eo59⟩ := Kd.V_slice HO_0.out
                (first | subst eo59 | (injection eo59 with f1_ f2_ f3_; have f4_ := f1_.symm; have f5_ := f3_.symm; clear f1_ f2_ f3_; subst f4_; subst f5_))
                refine start_ (n := 15) (S := fun w' => True) (ds := []) #[false, false, false, false, false, false, false, false, false, false, false, false, false, false, false] (by kernel_rfl) rfl rfl trivial (fun hHeld => ?_); refine with_tabW density_Merge.tab8 density_Merge.bits8 (fun HT_ HW_ => ?_)
                generalize wc.drew = w58 at HO_0 HO_1 HO_6 HB hHeld ⊢
                refine pure_ (i := 0) (N := some 62) (v := ?_) (a' := ?_) #[true, false, false, false, false, false, false, false, false, false, false, false, false, false, false] rfl rfl (any_of HT_.out (by kernel_rfl)) (fun _ _ _ h => h) (Or.inl ⟨by rfl, ?_⟩) ?_ ?_
                rotate_left
                ·
                 intro w'
                 go_simp
                 with_reducible rfl
                rotate_left
                ·
                 simp only [Act.put, List.setIfInBounds_toArray, List.set_cons_zero, List.set_cons_succ, i64_w, i32_w]
                 rfl
                refine pure_ (i := 1) (N := some 63) (v := ?_) (a' := ?_) #[true, true, false, false, false, false, false, false, false, false, false, false, false, false, false] rfl rfl (any_of HT_.out (by kernel_rfl)) (fun _ _ _ h => h) (Or.inl ⟨by rfl, ?_⟩) ?_ ?_
                rotate_left
                ·
                 intro w'
                 go_simp
                 with_reducible rfl
                rotate_left
                ·
                 simp only [Act.put, List.setIfInBounds_toArray, List.set_cons_zero, List.set_cons_succ, i64_w, i32_w]
                 rfl
                refine pure_ (i := 2) (N := some 64) (v := ?_) (a' := ?_) #[true, true, true, false, false, false, false, false, false, false, false, false, false, false, false] rfl rfl (any_of HT_.out (by kernel_rfl)) (fun _ _ _ h => h) (Or.inl ⟨by rfl, ?_⟩) ?_ ?_
                rotate_left
                ·
                 intro w'
                 go_simp
                 with_reducible rfl
                rotate_left
                ·
                 simp only [Act.put, List.setIfInBounds_toArray, List.set_cons_zero, List.set_cons_succ, i64_w, i32_w]
                 rfl
                refine pure_ (i := 3) (N := some 65) (v := ?_) (a' := ?_) #[true, true, true, true, false, false, false, false, false, false, false, false, false, false, false] rfl rfl (any_of HT_.out (by kernel_rfl)) (fun _ _ _ h => h) (Or.inl ⟨by rfl, ?_⟩) ?_ ?_
                rotate_left
                ·
                 intro w'
                 go_simp
                 with_reducible rfl
                rotate_left
                ·
                 simp only [Act.put, List.setIfInBounds_toArray, List.set_cons_zero, List.set_cons_succ, i64_w, i32_w]
                 rfl
                refine pure_ (i := 4) (N := some 66) (v := undef) (a' := ?_) #[true, true, true, true, true, false, false, false, false, false, false, false, false, false, false] rfl rfl (any_of HT_.out (by kernel_rfl)) (fun _ _ _ h => h) (Or.inr ⟨by rfl, rfl⟩) ?_ ?_
                rotate_left
                ·
                 simp only [Act.put, List.setIfInBounds_toArray, List.set_cons_zero, List.set_cons_succ, i64_w, i32_w]
                 rfl
                refine pure_ (i := 5) (N := some 67) (v := undef) (a' := ?_) #[true, true, true, true, true, true, false, false, false, false, false, false, false, false, false] rfl rfl (any_of HT_.out (by kernel_rfl)) (fun _ _ _ h => h) (Or.inr ⟨by rfl, rfl⟩) ?_ ?_
                rotate_left
                ·
                 simp only [Act.put, List.setIfInBounds_toArray, List.set_cons_zero, List.set_cons_succ, i64_w, i32_w]
                 rfl
                refine pure_ (i := 6) (N := some 68) (v := undef) (a' := ?_) #[true, true, true, true, true, true, true, false, false, false, false, false, false, false, false] rfl rfl (any_of HT_.out (by kernel_rfl)) (fun _ _ _ h => h) (Or.inr ⟨by rfl, rfl⟩) ?_ ?_
                rotate_left
                ·
                 simp only [Act.put, List.setIfInBounds_toArray, List.set_cons_zero, List.set_cons_succ, i64_w, i32_w]
                 rfl
                refine pure_ (i := 7) (N := some 69) (v := undef) (a' := ?_) #[true, true, true, true, true, true, true, true, false, false, false, false, false, false, false] rfl rfl (any_of HT_.out (by kernel_rfl)) (fun _ _ _ h => h) (Or.inr ⟨by rfl, rfl⟩) ?_ ?_
                rotate_left
                ·
                 simp only [Act.put, List.setIfInBounds_toArray, List.set_cons_zero, List.set_cons_succ, i64_w, i32_w]
                 rfl
                refine pure_ (i := 8) (N := some 70) (v := undef) (a' := ?_) #[true, true, true, true, true, true, true, true, true, false, false, false, false, false, false] rfl rfl (any_of HT_.out (by kernel_rfl)) (fun _ _ _ h => h) (Or.inr ⟨by rfl, rfl⟩) ?_ ?_
                rotate_left
                ·
                 simp only [Act.put, List.setIfInBounds_toArray, List.set_cons_zero, List.set_cons_succ, i64_w, i32_w]
                 rfl
                refine pure_ (i := 9) (N := some 71) (v := undef) (a' := ?_) #[true, true, true, true, true, true, true, true, true, true, false, false, false, false, false] rfl rfl (any_of HT_.out (by kernel_rfl)) (fun _ _ _ h => h) (Or.inr ⟨by rfl, rfl⟩) ?_ ?_
                rotate_left
                ·
                 simp only [Act.put, List.setIfInBounds_toArray, List.set_cons_zero, List.set_cons_succ, i64_w, i32_w]
                 rfl
                refine pure_ (i := 10) (N := some 72) (v := undef) (a' := ?_) #[true, true, true, true, true, true, true, true, true, true, true, false, false, false, false] rfl rfl (any_of HT_.out (by kernel_rfl)) (fun _ _ _ h => h) (Or.inr ⟨by rfl, rfl⟩) ?_ ?_
                rotate_left
                ·
                 simp only [Act.put, List.setIfInBounds_toArray, List.set_cons_zero, List.set_cons_succ, i64_w, i32_w]
                 rfl
                refine pure_ (i := 11) (N := some 73) (v := undef) (a' := ?_) #[true, true, true, true, true, true, true, true, true, true, true, true, false, false, false] rfl rfl (any_of HT_.out (by kernel_rfl)) (fun _ _ _ h => h) (Or.inr ⟨by rfl, rfl⟩) ?_ ?_
                rotate_left
                ·
                 simp only [Act.put, List.setIfInBounds_toArray, List.set_cons_zero, List.set_cons_succ, i64_w, i32_w]
                 rfl
                refine pure_ (i := 12) (N := some 74) (v := undef) (a' := ?_) #[true, true, true, true, true, true, true, true, true, true, true, true, true, false, false] rfl rfl (any_of HT_.out (by kernel_rfl)) (fun _ _ _ h => h) (Or.inr ⟨by rfl, rfl⟩) ?_ ?_
                rotate_left
                ·
                 simp only [Act.put, List.setIfInBounds_toArray, List.set_cons_zero, List.set_cons_succ, i64_w, i32_w]
                 rfl
                refine pure_ (i := 13) (N := some 75) (v := ?_) (a' := ?_) #[true, true, true, true, true, true, true, true, true, true, true, true, true, true, false] rfl rfl (any_of HT_.out (by kernel_rfl)) (fun _ _ _ h => h) (Or.inl ⟨by rfl, ?_⟩) ?_ ?_
                rotate_left
                ·
                 intro w'
                 go_simp
                 with_reducible rfl
                rotate_left
                ·
                 simp only [Act.put, List.setIfInBounds_toArray, List.set_cons_zero, List.set_cons_succ, i64_w, i32_w]
                 rfl
                refine pure_ (i := 14) (N := some 61) (v := ?_) (a' := ?_) #[true, true, true, true, true, true, true, true, true, true, true, true, true, true, true] rfl rfl (any_of HT_.out (by kernel_rfl)) (fun _ _ _ h => h) (Or.inl ⟨by rfl, ?_⟩) ?_ ?_
                rotate_left
                ·
                 intro w'
                 go_simp
                 with_reducible rfl
                rotate_left
                ·
                 simp only [Act.put, List.setIfInBounds_toArray, List.set_cons_zero, List.set_cons_succ, i64_w, i32_w]
                 rfl
                refine done_ (done_of HT_.out (by kernel_rfl)) ?_
                try go_wp2
                have n0_ := Aside0.mk (Kd.V_drew HO_0.out)
                have n1_ := Aside0.mk (Kd.V_drew HO_1.out)
                have n2_ := Aside0.mk (Kd.R_drew HO_6.out)
                have n3_ := Aside0.mk (below_drew1 HB.out)
                clear HO_0
                clear HO_1
                clear HO_6
                clear HB
                have HO_0 := n0_
                have HO_1 := n1_
                have HO_6 := n2_
                have HB := n3_
                clear n0_ n1_ n2_ n3_
                obtain ⟨Ao61, co61, eo61⟩ := Kd.V_slice HO_1.out
                (first | subst eo61 | (injection eo61 with f1_ f2_ f3_; have f4_ := f1_.symm; have f5_ := f3_.symm; clear f1_ f2_ f3_; subst f4_; subst f5_))
                have p228 : 0 ≤ (0 : Int) := (by omega)
                have q228 : 0 < (x1_2.length : Int) := of_decide_eq_true (by first | (with_reducible assumption) | assumption)
                obtain ⟨ad228, e228, hx228_0, hx228_1⟩ := at_T30 (Kd.V_reads' HO_1.out).2.2 0 p228 q228
                cases e228
                have qi228 : (0 < x1_2.length) = True := eq_true (by omega)
                (try rw [show ((0 : Int)).toNat = 0 from rfl] at hx228_0)
                (try rw [show 0 * 2 = 0 from rfl] at hx228_0)
                (try rw [Addr.add_zero'] at hx228_0)
                (try rw [show ((0 : Int)).toNat = 0 from rfl] at hx228_1)
                (try rw [show 0 * 2 = 0 from rfl] at hx228_1)
                (try rw [Addr.add_zero'] at hx228_1)
                replace p228 := eq_true p228
                replace q228 := eq_true q228
                have q62 : (1 : Int) ≤ ((x1_2.length : Int) : Int) := of_decide_eq_true (by first | (with_reducible assumption) | assumption)
                obtain ⟨i062, hi062, _, hsz62, _⟩ := info_parts info30
                have hroom62 : x1_2.length ≤ co61 := (Kd.V_reads' HO_1.out).2.1
                have hC62 : Kd.F k30 _ _ (some ad228) x1_2.length x1_2 := (Kd.V_at (base := w.heap.size) HO_1.out).2.2
                have hcut62 := cut_from (P := Tryd.prog) 22 30 .i64 Tryd.underlying22 hi062 2 hsz62 (some ad228) x1_2.length co61 1 (by omega) q62
                have hr62 := Kd.F_cut (m := (1 : Int).toNat) (c := co61) hC62 (by omega) hroom62
                obtain ⟨A62, hA62⟩ : ∃ A1, A1 = (if co61 = (1 : Int).toNat then (some ad228) else ((some ad228) : Option Addr).map (·.add ((1 : Int).toNat * 2))) := ⟨_, rfl⟩
                obtain ⟨c62, hc62⟩ : ∃ c1, c1 = co61 - (1 : Int).toNat := ⟨_, rfl⟩
                have hy62 : y232.length = x1_2.length - (1 : Int).toNat := (by rw [Ny232.out, List.length_drop] <;> omega)
                rw [show (x1_2).drop (1 : Int).toNat = y232 from Ny232.out.symm] at hr62
                replace hr62 : Kd.F k30 _ _ A62 y232.length y232 := (by rw [hA62]; exact hr62)
                rw [← hy62, ← hA62, ← hc62] at hcut62
                have HO236 := Aside0.mk (show Kd.V k30 30 _ w.heap.size _ (.slice A62 y232.length c62) y232 from Kd.V_mk (by rw [hy62, hc62]; exact Nat.sub_le_sub_right hroom62 _) hr62)
                have HC236 := Aside0.mk (show y232.length ≤ c62 from by rw [hy62, hc62]; exact Nat.sub_le_sub_right hroom62 _)
                clear hr62 hC62 hroom62 hi062 hsz62 hc62
                have KY62 := Aside0.mk hy62
                have KA62 := Aside0.mk hA62
                clear hy62 hA62
                replace q62 := eq_true q62
                refine start_ (n := 10) (S := fun w' => w'.cell? ad228 = some (.int .i64 ((rd_T30 x1_2 0).f0)) ∧ w'.cell? ⟨ad228.block, ad228.off + 1, none⟩ = some (.int .i64 ((rd_T30 x1_2 0).f1))) (ds := [4, 5]) #[false, false, false, false, false, false, false, false, false, false] (by kernel_rfl) rfl rfl ⟨hx228_0, hx228_1⟩ (fun hHeld => ?_); refine with_tabW density_Merge.tab5 density_Merge.bits5 (fun HT_ HW_ => ?_)
                generalize w58.drew = w60 at HO_0 HO_1 HO_6 HB HO236 hx228_0 hx228_1 hHeld ⊢
                refine pure_ (i := 0) (N := some 25) (v := ?_) (a' := ?_) #[true, false, false, false, false, false, false, false, false, false] rfl rfl (any_of HT_.out (by kernel_rfl)) (fun _ _ _ h => h) (Or.inl ⟨by rfl, ?_⟩) ?_ ?_
                rotate_left
                ·
                 intro w'
                 go_simp
                 with_reducible rfl
                rotate_left
                ·
                 simp only [Act.put, List.setIfInBounds_toArray, List.set_cons_zero, List.set_cons_succ, i64_w, i32_w]
                 rfl
                refine pure_ (i := 1) (N := some 26) (v := ?_) (a' := ?_) #[true, true, false, false, false, false, false, false, false, false] rfl rfl (any_of HT_.out (by kernel_rfl)) (fun _ _ _ h => h) (Or.inl ⟨by rfl, ?_⟩) ?_ ?_
                rotate_left
                ·
                 intro w'
                 go_simp
                 with_reducible rfl
                rotate_left
                ·
                 simp only [Act.put, List.setIfInBounds_toArray, List.set_cons_zero, List.set_cons_succ, i64_w, i32_w]
                 rfl
                refine pure_ (i := 2) (N := some 27) (v := ?_) (a' := ?_) #[true, true, true, false, false, false, false, false, false, false] rfl rfl (any_of HT_.out (by kernel_rfl)) (fun _ _ _ h => h) (Or.inl ⟨by rfl, ?_⟩) ?_ ?_
                rotate_left
                ·
                 intro w'
                 go_simp
                 with_reducible rfl
                rotate_left
                ·
                 simp only [Act.put, List.setIfInBounds_toArray, List.set_cons_zero, List.set_cons_succ, i64_w, i32_w]
                 rfl
                refine pure_ (i := 6) (N := some 31) (v := ?_) (a' := ?_) #[true, true, true, false, false, false, true, false, false, false] rfl rfl (any_of HT_.out (by kernel_rfl)) (fun _ _ _ h => h) (Or.inl ⟨by rfl, ?_⟩) ?_ ?_
                rotate_left
                ·
                 intro w'
                 go_simp
                 with_reducible rfl
                rotate_left
                ·
                 simp only [Act.put, List.setIfInBounds_toArray, List.set_cons_zero, List.set_cons_succ, i64_w, i32_w]
                 rfl
                refine pure_ (i := 7) (N := some 32) (v := ?_) (a' := ?_) #[true, true, true, false, false, false, true, true, false, false] rfl rfl (any_of HT_.out (by kernel_rfl)) (fun _ _ _ h => h) (Or.inl ⟨by rfl, ?_⟩) ?_ ?_
                rotate_left
                ·
                 intro w'
                 go_simp
                 with_reducible rfl
                rotate_left
                ·
                 simp only [Act.put, List.setIfInBounds_toArray, List.set_cons_zero, List.set_cons_succ, i64_w, i32_w]
                 rfl
                refine take_ (i := 3) (N := some 28) (v := ?_) (a' := ?_) #[true, true, true, true, false, false, true, true, false, false] rfl rfl (take_ofW HT_.out HW_.out (by kernel_rfl)) (fun _ _ _ h => h) (Or.inl ⟨by rfl, ?_⟩) hHeld ?_ ?_
                rotate_left
                ·
                 rintro w' ⟨s0, s1⟩
                 go_simp
                 with_reducible rfl
                rotate_left
                ·
                 simp only [Act.put, List.setIfInBounds_toArray, List.set_cons_zero, List.set_cons_succ, i64_w, i32_w]
                 rfl
                refine last_ (i := 4) (N := some 29) #[true, true, true, true, true, false, true, true, false, false] rfl rfl (one_of HT_.out (by kernel_rfl)) (by decide) (fun K hK => ?_)
                refine value_ (w1 := ?_) (v := ?_) (by rfl) rfl ?_ ?_
                rotate_left 2
                ·
                 go_simp
                 constructor
                 ·
                  rfl
                 ·
                  rfl
                refine hK.out _ _ ?_
                clear hK K
                refine norm_ (a' := ?_) ?_ ?_
                rotate_left
                ·
                 show Act.put _ (some 29) _ = _
                 simp only [Act.put, List.setIfInBounds_toArray, List.set_cons_zero, List.set_cons_succ, i64_w, i32_w]
                 rfl
                refine last_ (i := 5) (N := some 30) #[true, true, true, true, true, true, true, true, false, false] rfl rfl (one_of HT_.out (by kernel_rfl)) (by decide) (fun K hK => ?_)
                refine Kd.R_append_step k30 (w0 := w) w.heap.size (by rfl) (.tmp 25) (.tmp 29) 22 30 (.agg #[(.int .i64 0), (.int .i64 0)]) 16 rfl Tryd.underlying22 info30 rfl (by decide) (by omega) u6 x6_2 (⟨(rd_T30 x1_2 0).f0, (rd_T30 x1_2 0).f1⟩ : S30) [.int .i64 ((rd_T30 x1_2 0).f0), .int .i64 ((rd_T30 x1_2 0).f1)] (fun k_ => (w.heap.size ≤ k_)) (fun _ => False) rfl rfl ?aP (fun _ hk => hk.elim) ?aF ?aO ?aB ?aS ?aL ?_
                (case aP => exact k30_mkM _ _ _ (⟨(rd_T30 x1_2 0).f0, (rd_T30 x1_2 0).f1⟩ : S30))
                (case aB => exact (by repeat (with_reducible first | exact HB.out | apply below_alloc | apply pw_below_drewN | apply below_drew1)))
                (case aF => exact (fun k_ hk => (Nat.le_trans (below_size (by repeat (with_reducible first | exact HB.out | apply below_alloc | apply pw_below_drewN | apply below_drew1))) hk)))
                (case aO => exact (by (with_reducible repeat (first | apply Kd.R_alloc | apply Kd.R_drewN | apply Kd.R_drew)); exact HO_6.out))
                (case aS => exact (below_size (by repeat (with_reducible first | exact HB.out | apply below_alloc | apply pw_below_drewN | apply below_drew1))))
                (case aL => have := LMc56.out; omega)
                intro v230 w63 ho hb hg hat
                rw [← Ny229.out] at ho
                have n0_ := Aside0.mk (Kd.V_afterv (ok := (fun k_ => ((P0_ k_ ∨ P1_ k_) ∨ w.heap.size ≤ k_))) (by (with_reducible repeat (first | apply Kd.V_alloc | apply Kd.V_drewN | apply Kd.V_drew)); exact HO_0.out) hg hat)
                have n1_ := Aside0.mk (Kd.V_afterv (ok := (fun k_ => ((P0_ k_ ∨ P1_ k_) ∨ w.heap.size ≤ k_))) (by (with_reducible repeat (first | apply Kd.V_alloc | apply Kd.V_drewN | apply Kd.V_drew)); exact HO_1.out) hg hat)
                have n2_ := Aside0.mk (Kd.V_afterv (ok := (fun k_ => ((P0_ k_ ∨ P1_ k_) ∨ w.heap.size ≤ k_))) (by (with_reducible repeat (first | apply Kd.V_alloc | apply Kd.V_drewN | apply Kd.V_drew)); exact HO236.out) hg hat)
                have n3_ := Aside0.mk (hb)
                have n4_ := Aside0.mk (ho)
                clear HO_0
                clear HO_1
                clear HO236
                clear HB
                clear HO_6
                have HO_0 := n0_
                have HO_1 := n1_
                have HO236 := n2_
                have HB := n3_
                have HO231 := n4_
                clear n0_ n1_ n2_ n3_ n4_
                clear ho hb hg hat
                refine hK.out _ _ ?_
                clear hK K
                refine norm_ (a' := ?_) ?_ ?_
                rotate_left
                ·
                 show Act.put _ (some 30) _ = _
                 simp only [Act.put, List.setIfInBounds_toArray, List.set_cons_zero, List.set_cons_succ, i64_w, i32_w]
                 rfl
                refine pure_ (i := 8) (N := some 6) (v := ?_) (a' := ?_) #[true, true, true, true, true, true, true, true, true, false] rfl rfl (any_of HT_.out (by kernel_rfl)) (fun _ _ _ h => h) (Or.inl ⟨by rfl, ?_⟩) ?_ ?_
                rotate_left
                ·
                 intro w'
                 go_simp
                 with_reducible rfl
                rotate_left
                ·
                 simp only [Act.put, List.setIfInBounds_toArray, List.set_cons_zero, List.set_cons_succ, i64_w, i32_w]
                 rfl
                refine pure_ (i := 9) (N := some 1) (v := ?_) (a' := ?_) #[true, true, true, true, true, true, true, true, true, true] rfl rfl (any_of HT_.out (by kernel_rfl)) (fun _ _ _ h => h) (Or.inl ⟨by rfl, ?_⟩) ?_ ?_
                rotate_left
                ·
                 intro w'
                 go_simp
                 with_reducible rfl
                rotate_left
                ·
                 simp only [Act.put, List.setIfInBounds_toArray, List.set_cons_zero, List.set_cons_succ, i64_w, i32_w]
                 rfl
                refine done_ (done_of HT_.out (by kernel_rfl)) ?_
                try go_wp2
                go_roundg kj16
                case measure => have := HJ2.out; have := HK2.out; have := HJ10.out; have := HJ16.out; omega
                case rel => exact ⟨(x0_2), (y232), (y229), H', ⟨by have := HJ2.out; have := HK2.out; have := HJ10.out; have := HJ16.out; omega⟩, ⟨by (with_reducible repeat (first | apply Kd.V_alloc | apply Kd.V_drewN | apply Kd.V_drew)); exact HO_0.out⟩, ⟨by (with_reducible repeat (first | apply Kd.V_alloc | apply Kd.V_drewN | apply Kd.V_drew)); exact HO236.out⟩, ⟨by (with_reducible repeat (first | apply Kd.R_alloc | apply Kd.R_drewN | apply Kd.R_drew)); exact HO231.out⟩, ⟨by repeat (first | (with_reducible first | exact HB.out | apply below_alloc | apply pw_below_drewN | apply below_drew1) | exact HB.out)⟩⟩
               ·
                rw [if_neg c57] at H
                exact absurd H (by simp)
              ·
               rw [if_neg c56] at H
               exact absurd H (by simp)
             ·
              rw [if_neg c55] at H
              exact absurd H (by simp)
        ·
         replace c16 := Bool.eq_false_iff.mpr c16
         subst c16
         replace H : ((density_Check.f kj10 x6_2).bind fun bt199 => (if bt199.2 = 0 then (some (x6_2, 0)) else (some (([] : List (S30)), bt199.2)))) = some (r1, r2) := by rw [if_neg (show ¬ (false = true) by decide)] at H; exact H
         replace H := Option.bind_eq_some_iff.mp H
         obtain ⟨⟨t199, t200⟩, A640, H⟩ := H
         replace H : (if t200 = 0 then (some (x6_2, 0)) else (some (([] : List (S30)), t200))) = some (r1, r2) := H
         have A64 := Aside0.mk A640
         clear A640
         by_cases c65 : t200 = 0
         ·
          rw [if_pos c65] at H
          have c65b0 : (t200 == 0) = true := beq_iff_eq.mpr c65
          have c65b1 : (t200 != 0) = false := bne_eq_false_iff_eq.mpr c65
          clear c65
          simp only [Option.some.injEq, Prod.mk.injEq] at H
          obtain ⟨rfl, rfl⟩ := H
          obtain ⟨Ao66, co66, eo66⟩ := Kd.R_slice HO_6.out
          subst eo66
          go_wp2_with (first | ((with_reducible refine gate_callee (f := 12) rfl ?_); refine goesL_ (some 80) rfl rfl Tryd.func12 (by kernel_rfl) rfl #[.slice Ao66 x6_2.length co66] rfl (by (try simp only [List.map_toArray, List.map_cons, List.map_nil]); first | done | rfl | (simp only [List.length_drop, List.length_take]; rfl)) ?_; (with_reducible refine (density_Check.calls kj10 _ _ x6_2 t199 t200 _ ?side1 ?side2 A64.out).mono ?_); (case side1 => repeat (first | exact (Kd.R_reads' HO_6.out).2.2 | (with_reducible refine Kd.C_alloc ?_ _) | (with_reducible refine Kd.C_drewN ?_ _) | (with_reducible refine Kd.C_drew ?_))); (case side2 => exact (Kd.R_reads' HO_6.out).2.1); rintro e w67 ⟨rfl, hb⟩; refine ⟨_, rfl, ?_⟩; have n0_ := Aside0.mk (Kd.V_below (by (with_reducible repeat (first | apply Kd.V_alloc | apply Kd.V_drewN | apply Kd.V_drew)); exact HO_0.out) hb); have n1_ := Aside0.mk (Kd.V_below (by (with_reducible repeat (first | apply Kd.V_alloc | apply Kd.V_drewN | apply Kd.V_drew)); exact HO_1.out) hb); have n2_ := Aside0.mk (Kd.R_below (by (with_reducible repeat (first | apply Kd.R_alloc | apply Kd.R_drewN | apply Kd.R_drew)); exact HO_6.out) hb); have n3_ := Aside0.mk (below_step (by repeat (with_reducible first | exact HB.out | apply below_alloc | apply pw_below_drewN | apply below_drew1)) hb); clear HO_0; clear HO_1; clear HO_6; clear HB; have HO_0 := n0_; have HO_1 := n1_; have HO_6 := n2_; have HB := n3_; clear n0_ n1_ n2_ n3_; (try clear hb); (try clear hb2); (try clear hk); (try clear hi)))
          go_ret2
          exact ⟨_, by first | rfl | (simp [errW_none, errW_some] <;> rfl) | (simp [*, errW_none, errW_some] <;> rfl), by (with_reducible repeat (first | apply Kd.R_alloc | apply Kd.R_drewN | apply Kd.R_drew)); exact HO_6.out, by repeat (first | (with_reducible first | exact HB.out | apply below_alloc | apply pw_below_drewN | apply below_drew1) | exact HB.out)⟩
         ·
          rw [if_neg c65] at H
          have c65b0 : (t200 == 0) = false := beq_eq_false_iff_ne.mpr c65
          have c65b1 : (t200 != 0) = true := bne_iff_ne.mpr c65
          simp only [Option.some.injEq, Prod.mk.injEq] at H
          obtain ⟨rfl, rfl⟩ := H
          obtain ⟨Ao68, co68, eo68⟩ := Kd.R_slice HO_6.out
          subst eo68
          go_wp2_with (first | ((with_reducible refine gate_callee (f := 12) rfl ?_); refine goesL_ (some 80) rfl rfl Tryd.func12 (by kernel_rfl) rfl #[.slice Ao68 x6_2.length co68] rfl (by (try simp only [List.map_toArray, List.map_cons, List.map_nil]); first | done | rfl | (simp only [List.length_drop, List.length_take]; rfl)) ?_; (with_reducible refine (density_Check.calls kj10 _ _ x6_2 t199 t200 _ ?side1 ?side2 A64.out).mono ?_); (case side1 => repeat (first | exact (Kd.R_reads' HO_6.out).2.2 | (with_reducible refine Kd.C_alloc ?_ _) | (with_reducible refine Kd.C_drewN ?_ _) | (with_reducible refine Kd.C_drew ?_))); (case side2 => exact (Kd.R_reads' HO_6.out).2.1); rintro e w69 ⟨rfl, hb⟩; refine ⟨_, rfl, ?_⟩; have n0_ := Aside0.mk (Kd.V_below (by (with_reducible repeat (first | apply Kd.V_alloc | apply Kd.V_drewN | apply Kd.V_drew)); exact HO_0.out) hb); have n1_ := Aside0.mk (Kd.V_below (by (with_reducible repeat (first | apply Kd.V_alloc | apply Kd.V_drewN | apply Kd.V_drew)); exact HO_1.out) hb); have n2_ := Aside0.mk (Kd.R_below (by (with_reducible repeat (first | apply Kd.R_alloc | apply Kd.R_drewN | apply Kd.R_drew)); exact HO_6.out) hb); have n3_ := Aside0.mk (below_step (by repeat (with_reducible first | exact HB.out | apply below_alloc | apply pw_below_drewN | apply below_drew1)) hb); clear HO_0; clear HO_1; clear HO_6; clear HB; have HO_0 := n0_; have HO_1 := n1_; have HO_6 := n2_; have HB := n3_; clear n0_ n1_ n2_ n3_; (try clear hb); (try clear hb2); (try clear hk); (try clear hi)))
          go_ret2
          exact ⟨_, by first | rfl | (simp [errW_none, errW_some] <;> rfl) | (simp [*, errW_none, errW_some] <;> rfl), by first | exact Kd.R_nil _ _ _ _ _ | exact Kd.N_nil _ _ _ _ _ | exact Kd.V_nil _ _ _ _ _ | exact Kd.Q_nil _ _ _ _ _ | exact Kd.S_nil _ _ _ _ _, by repeat (first | (with_reducible first | exact HB.out | apply below_alloc | apply pw_below_drewN | apply below_drew1) | exact HB.out)⟩
end Go.Proofs.YtoofoicocfnfoaaDoor.Pr
namespace Go.Proofs.YtoofoicocfnfoaaDoor.Pr
open Go.RowKit Go.Proofs.YtoofoicocfnfoaaDoorW.PrintWords Go.Proofs.YtoofoicocfnfoaaDoorW.PrintLast Go.Proofs.YtoofoicocfnfoaaDoorW.PrintMore Go.Proofs.YtoofoicocfnfoaaDoor.X
attribute [local go_sem] max2_int min2_int max_two min_two max_three min_three max_four min_four   -- for this text's walks alone
set_option linter.unusedVariables false
set_option linter.unusedSimpArgs false
attribute [local go_sem high] eqA30
mutual
def spileref16_Merge.j0 : Nat → List (S30) → List (S30) → Bool → Option ((List (S30)) × Int)
 | 0, _, _, _ => none
 | k + 1, x0, x1, x18 => if x18 = true then (some (([] : List (S30)), 1)) else (spileref16_Merge.l0 k x0 x1 (([] : List (S30))) 0 0)
def spileref16_Merge.l0 : Nat → List (S30) → List (S30) → List (S30) → Int → Int → Option ((List (S30)) × Int)
 | 0, _, _, _, _, _ => none
 | k + 1, x0, x1, x6, x7, x8 => if x8 < (x1.length : Int) then (spileref16_Merge.l1 k x0 x1 x6 x7 x8) else ((spileref16_Check.f k x6).bind fun bt242 => (if bt242.2 = 0 then (some (x6, 0)) else (some (([] : List (S30)), bt242.2))))
def spileref16_Merge.l1 : Nat → List (S30) → List (S30) → List (S30) → Int → Int → Option ((List (S30)) × Int)
 | 0, _, _, _, _, _ => none
 | k + 1, x0, x1, x6, x7, x8 => if x7 < (x0.length : Int) then (if 0 ≤ x7 then (if 0 ≤ x8 then (if x8 < (x1.length : Int) then (if ((rd_T30 x0 x7).f0) < ((rd_T30 x1 x8).f0) then (if x6.length < 8796093022208 then (spileref16_Merge.l1 k x0 x1 (x6 ++ [(⟨(rd_T30 x0 x7).f0, (rd_T30 x0 x7).f1⟩ : S30)]) (wrap64 (x7 + 1)) x8) else (none)) else (if ((rd_T30 x0 x7).f0) = ((rd_T30 x1 x8).f0) then (if x6.length < 8796093022208 then (spileref16_Merge.l0 k x0 x1 (x6 ++ [(⟨(rd_T30 x1 x8).f0, (rd_T30 x1 x8).f1⟩ : S30)]) (wrap64 (x7 + 1)) (wrap64 (x8 + 1))) else (none)) else (if x6.length < 8796093022208 then (spileref16_Merge.l0 k x0 x1 (x6 ++ [(⟨(rd_T30 x1 x8).f0, (rd_T30 x1 x8).f1⟩ : S30)]) x7 (wrap64 (x8 + 1))) else (none)))) else (none)) else (none)) else (none)) else (if 0 ≤ x8 then (if x8 < (x1.length : Int) then (if x6.length < 8796093022208 then (spileref16_Merge.l0 k x0 x1 (x6 ++ [(⟨(rd_T30 x1 x8).f0, (rd_T30 x1 x8).f1⟩ : S30)]) x7 (wrap64 (x8 + 1))) else (none)) else (none)) else (none))
end
def spileref16_Merge.f (k : Nat) (l0 : List (S30)) (l1 : List (S30)) : Option ((List (S30)) × Int) := (spileref16_Right.f k l0).bind fun t237 => (if t237 = true then ((spileref16_Right.f k l1).bind fun t238 => (spileref16_Merge.j0 k l0 l1 (!t238))) else (spileref16_Merge.j0 k l0 l1 true))
set_option maxHeartbeats 8000000 in
set_option maxRecDepth 100000 in
theorem spileref16_Merge.calls (k : Nat) (A0 : Option Addr) (c0 : Nat) (l0 : List (S30)) (A1 : Option Addr) (c1 : Nat) (l1 : List (S30)) (r1 : List (S30)) (r2 : Int) (w : World) (hr0 : Kd.C k30 w A0 l0.length l0) (hc0 : l0.length ≤ c0) (hr1 : Kd.C k30 w A1 l1.length l1) (hc1 : l1.length ≤ c1) (h : spileref16_Merge.f k l0 l1 = some (r1, r2)) :
  Calls Tryd.prog 21 #[.slice A0 l0.length c0, .slice A1 l1.length c1] w fun e w' => ∃ v0_ : Value, e = .returned (.tuple #[v0_, .int .i64 r2]) ∧ Kd.R k30 30 w' w.heap.size (fun _ => True) v0_ r1 ∧ Below w.heap.size w w' := by
 have hu30 := Tryd.underlying30
 have HR0 := Aside0.mk hr0
 have HC0 := Aside0.mk hc0
 clear hr0 hc0
 have HR1 := Aside0.mk hr1
 have HC1 := Aside0.mk hc1
 clear hr1 hc1
 have HB := Aside0.mk (Below.refl w.heap.size w)
 have H : ((spileref16_Right.f k l0).bind fun t237 => (if t237 = true then ((spileref16_Right.f k l1).bind fun t238 => (spileref16_Merge.j0 k l0 l1 (!t238))) else (spileref16_Merge.j0 k l0 l1 true))) = some (r1, r2) := h
 clear h
 have HC3 := Aside0.mk H
 clear H
 go_enter Tryd.func21, Tryd.ntmps21
 go_upto_region 1 with (fail)
 repeat (go_quiet (fail); go_upto_region 1 with (fail))
 go_cut [18] (fun v18 wc => ∃ (kq : Nat) (x18_2 : Bool), v18 = .bool x18_2 ∧ Aside0 (spileref16_Merge.j0 kq l0 l1 x18_2 = some (r1, r2)) ∧ Aside0 (kq ≤ k) ∧ Aside0 (Below w.heap.size w wc))
 case first =>
  have H := HC3.out
  clear HC3
  replace H := Option.bind_eq_some_iff.mp H
  obtain ⟨t237, A40, H⟩ := H
  replace H : (if t237 = true then ((spileref16_Right.f k l1).bind fun t238 => (spileref16_Merge.j0 k l0 l1 (!t238))) else (spileref16_Merge.j0 k l0 l1 true)) = some (r1, r2) := H
  have A4 := Aside0.mk A40
  clear A40
  by_cases c5 : t237 = true
  ·
   subst c5
   have H1 : ((spileref16_Right.f k l1).bind fun t238 => (spileref16_Merge.j0 k l0 l1 (!t238))) = some (r1, r2) := by rw [if_pos rfl] at H; exact H
   clear H
   have H := H1
   clear H1
   replace H := Option.bind_eq_some_iff.mp H
   obtain ⟨t238, A60, H⟩ := H
   replace H : (spileref16_Merge.j0 k l0 l1 (!t238)) = some (r1, r2) := H
   have A6 := Aside0.mk A60
   clear A60
   have H' := Aside0.mk H
   clear H
   go_wp2_with (first | (go_at_call 36; (with_reducible refine (spileref16_Right.calls k _ _ l0 true _ ?side1 ?side2 A4.out).mono ?_); (case side1 => repeat (first | exact (Kd.C_below HR0.out HB.out) | (with_reducible refine Kd.C_alloc ?_ _) | (with_reducible refine Kd.C_drewN ?_ _) | (with_reducible refine Kd.C_drew ?_))); (case side2 => exact HC0.out); rintro e w' ⟨rfl, ⟨nd, rfl⟩⟩; (try first | exact ⟨rfl, _, World.drewN_drewN _ _ _⟩ | exact ⟨rfl, _, Eq.trans (World.drewN_drewN _ _ _) (congrArg (World.drewN _) (Nat.add_assoc _ _ _))⟩)) | (go_at_call 36; (with_reducible refine (spileref16_Right.calls k _ _ l1 t238 _ ?side1 ?side2 A6.out).mono ?_); (case side1 => repeat (first | exact (Kd.C_below HR1.out (by repeat (first | (with_reducible first | exact HB.out | apply below_alloc | apply pw_below_drewN | apply below_drew1) | exact HB.out))) | (with_reducible refine Kd.C_alloc ?_ _) | (with_reducible refine Kd.C_drewN ?_ _) | (with_reducible refine Kd.C_drew ?_))); (case side2 => exact HC1.out); rintro e w' ⟨rfl, ⟨nd, rfl⟩⟩; (try first | exact ⟨rfl, _, World.drewN_drewN _ _ _⟩ | exact ⟨rfl, _, Eq.trans (World.drewN_drewN _ _ _) (congrArg (World.drewN _) (Nat.add_assoc _ _ _))⟩)))
   repeat (go_quiet (first | (go_at_call 36; (with_reducible refine (spileref16_Right.calls k _ _ l0 true _ ?side1 ?side2 A4.out).mono ?_); (case side1 => repeat (first | exact (Kd.C_below HR0.out HB.out) | (with_reducible refine Kd.C_alloc ?_ _) | (with_reducible refine Kd.C_drewN ?_ _) | (with_reducible refine Kd.C_drew ?_))); (case side2 => exact HC0.out); rintro e w' ⟨rfl, ⟨nd, rfl⟩⟩; (try first | exact ⟨rfl, _, World.drewN_drewN _ _ _⟩ | exact ⟨rfl, _, Eq.trans (World.drewN_drewN _ _ _) (congrArg (World.drewN _) (Nat.add_assoc _ _ _))⟩)) | (go_at_call 36; (with_reducible refine (spileref16_Right.calls k _ _ l1 t238 _ ?side1 ?side2 A6.out).mono ?_); (case side1 => repeat (first | exact (Kd.C_below HR1.out (by repeat (first | (with_reducible first | exact HB.out | apply below_alloc | apply pw_below_drewN | apply below_drew1) | exact HB.out))) | (with_reducible refine Kd.C_alloc ?_ _) | (with_reducible refine Kd.C_drewN ?_ _) | (with_reducible refine Kd.C_drew ?_))); (case side2 => exact HC1.out); rintro e w' ⟨rfl, ⟨nd, rfl⟩⟩; (try first | exact ⟨rfl, _, World.drewN_drewN _ _ _⟩ | exact ⟨rfl, _, Eq.trans (World.drewN_drewN _ _ _) (congrArg (World.drewN _) (Nat.add_assoc _ _ _))⟩))); try go_wp2_with (first | (go_at_call 36; (with_reducible refine (spileref16_Right.calls k _ _ l0 true _ ?side1 ?side2 A4.out).mono ?_); (case side1 => repeat (first | exact (Kd.C_below HR0.out HB.out) | (with_reducible refine Kd.C_alloc ?_ _) | (with_reducible refine Kd.C_drewN ?_ _) | (with_reducible refine Kd.C_drew ?_))); (case side2 => exact HC0.out); rintro e w' ⟨rfl, ⟨nd, rfl⟩⟩; (try first | exact ⟨rfl, _, World.drewN_drewN _ _ _⟩ | exact ⟨rfl, _, Eq.trans (World.drewN_drewN _ _ _) (congrArg (World.drewN _) (Nat.add_assoc _ _ _))⟩)) | (go_at_call 36; (with_reducible refine (spileref16_Right.calls k _ _ l1 t238 _ ?side1 ?side2 A6.out).mono ?_); (case side1 => repeat (first | exact (Kd.C_below HR1.out (by repeat (first | (with_reducible first | exact HB.out | apply below_alloc | apply pw_below_drewN | apply below_drew1) | exact HB.out))) | (with_reducible refine Kd.C_alloc ?_ _) | (with_reducible refine Kd.C_drewN ?_ _) | (with_reducible refine Kd.C_drew ?_))); (case side2 => exact HC1.out); rintro e w' ⟨rfl, ⟨nd, rfl⟩⟩; (try first | exact ⟨rfl, _, World.drewN_drewN _ _ _⟩ | exact ⟨rfl, _, Eq.trans (World.drewN_drewN _ _ _) (congrArg (World.drewN _) (Nat.add_assoc _ _ _))⟩))))
   go_meet
   case rel => exact ⟨_, (!t238), (by first | rfl | (simp; done) | (simp [*]; done)), H', ⟨by first | omega | exact Nat.le_refl _⟩, ⟨by repeat (first | (with_reducible first | exact HB.out | apply below_alloc | apply pw_below_drewN | apply below_drew1) | exact HB.out)⟩⟩
  ·
   replace c5 := Bool.eq_false_iff.mpr c5
   subst c5
   have H1 : (spileref16_Merge.j0 k l0 l1 true) = some (r1, r2) := by rw [if_neg (show ¬ (false = true) by decide)] at H; exact H
   clear H
   have H := H1
   clear H1
   have H' := Aside0.mk H
   clear H
   go_wp2_with (first | (go_at_call 36; (with_reducible refine (spileref16_Right.calls k _ _ l0 false _ ?side1 ?side2 A4.out).mono ?_); (case side1 => repeat (first | exact (Kd.C_below HR0.out HB.out) | (with_reducible refine Kd.C_alloc ?_ _) | (with_reducible refine Kd.C_drewN ?_ _) | (with_reducible refine Kd.C_drew ?_))); (case side2 => exact HC0.out); rintro e w' ⟨rfl, ⟨nd, rfl⟩⟩; (try first | exact ⟨rfl, _, World.drewN_drewN _ _ _⟩ | exact ⟨rfl, _, Eq.trans (World.drewN_drewN _ _ _) (congrArg (World.drewN _) (Nat.add_assoc _ _ _))⟩)))
   repeat (go_quiet (first | (go_at_call 36; (with_reducible refine (spileref16_Right.calls k _ _ l0 false _ ?side1 ?side2 A4.out).mono ?_); (case side1 => repeat (first | exact (Kd.C_below HR0.out HB.out) | (with_reducible refine Kd.C_alloc ?_ _) | (with_reducible refine Kd.C_drewN ?_ _) | (with_reducible refine Kd.C_drew ?_))); (case side2 => exact HC0.out); rintro e w' ⟨rfl, ⟨nd, rfl⟩⟩; (try first | exact ⟨rfl, _, World.drewN_drewN _ _ _⟩ | exact ⟨rfl, _, Eq.trans (World.drewN_drewN _ _ _) (congrArg (World.drewN _) (Nat.add_assoc _ _ _))⟩))); try go_wp2_with (first | (go_at_call 36; (with_reducible refine (spileref16_Right.calls k _ _ l0 false _ ?side1 ?side2 A4.out).mono ?_); (case side1 => repeat (first | exact (Kd.C_below HR0.out HB.out) | (with_reducible refine Kd.C_alloc ?_ _) | (with_reducible refine Kd.C_drewN ?_ _) | (with_reducible refine Kd.C_drew ?_))); (case side2 => exact HC0.out); rintro e w' ⟨rfl, ⟨nd, rfl⟩⟩; (try first | exact ⟨rfl, _, World.drewN_drewN _ _ _⟩ | exact ⟨rfl, _, Eq.trans (World.drewN_drewN _ _ _) (congrArg (World.drewN _) (Nat.add_assoc _ _ _))⟩))))
   go_meet
   case rel => exact ⟨_, (true), (by first | rfl | (simp; done) | (simp [*]; done)), H', ⟨by first | omega | exact Nat.le_refl _⟩, ⟨by repeat (first | (with_reducible first | exact HB.out | apply below_alloc | apply pw_below_drewN | apply below_drew1) | exact HB.out)⟩⟩
 case rest =>
  clear HC3
  try clear c1
  try clear c2
  try clear p2
  try clear c5
  obtain ⟨kq, x18_2, rfl, HA, HJ2, HB⟩ := hcut
  cases kq with
  | zero => exact absurd HA.out (by simp [spileref16_Merge.j0])
  | succ kj2 =>
   have H := HA.out
   clear HA
   simp only [spileref16_Merge.j0] at H
   by_cases c7 : x18_2 = true
   ·
    subst c7
    have H1 : (some (([] : List (S30)), 1)) = some (r1, r2) := by rw [if_pos rfl] at H; exact H
    clear H
    have H := H1
    clear H1
    simp only [Option.some.injEq, Prod.mk.injEq] at H
    obtain ⟨rfl, rfl⟩ := H
    go_wp2
    repeat (go_quiet (fail); try go_wp2)
    go_ret2
    exact ⟨_, by first | rfl | (simp [errW_none, errW_some] <;> rfl) | (simp [*, errW_none, errW_some] <;> rfl), by first | exact Kd.R_nil _ _ _ _ _ | exact Kd.N_nil _ _ _ _ _ | exact Kd.V_nil _ _ _ _ _ | exact Kd.Q_nil _ _ _ _ _ | exact Kd.S_nil _ _ _ _ _, by repeat (first | (with_reducible first | exact HB.out | apply below_alloc | apply pw_below_drewN | apply below_drew1) | exact HB.out)⟩
   ·
    replace c7 := Bool.eq_false_iff.mpr c7
    subst c7
    have H1 : (spileref16_Merge.l0 kj2 l0 l1 (([] : List (S30))) 0 0) = some (r1, r2) := by rw [if_neg (show ¬ (false = true) by decide)] at H; exact H
    clear H
    have H := H1
    clear H1
    obtain ⟨y239, hy239⟩ : ∃ y_ : List (S30), y_ = (([] : List (S30))) := ⟨_, rfl⟩
    replace H : (spileref16_Merge.l0 kj2 l0 l1 y239 0 0) = some (r1, r2) := by first | (rw [hy239]; with_reducible exact H) | (have H2_ := (Option.bind_some _ _).symm.trans H; rw [hy239]; with_reducible exact H2_) | (have H2_ := (Option.bind_some _ _).symm.trans H; with_reducible exact H2_) | with_reducible exact H | (rw [hy239]; exact H) | exact H
    have Ny239 := Aside0.mk hy239
    clear hy239
    have H' := Aside0.mk H
    clear H
    go_wp2_with (first | ((with_reducible refine gate_dst (N := 19) rfl ?_); refine Kd.R_lit k30 _ 30 ?hg (N := 19) ?hd (xs := ([] : List (S30))) (inner := []) (ok := fun _ => True) (okp := fun _ => True) ?hr ?hp (fun _ hk => hk) trivial (Below.refl _ _) (Nat.le_refl _) (by simp) ?_; (case hd => rfl); (case hg => rfl); (case hr => first | (go_simp; done) | (go_simp; rfl)); (case hp => exact (Reps.none _ _)); intro v240 w8 ho9 hb hg_ hnew_; clear hg_ hnew_; (first | rw [← Ny239.out] at ho9 | (simp only [Int.reduceToNat] at ho9; rw [← Ny239.out] at ho9)); have n0_ := Aside0.mk (Kd.R_lower ho9 (below_size (by repeat (first | (with_reducible first | exact HB.out | apply below_alloc | apply pw_below_drewN | apply below_drew1) | exact HB.out)))); have n1_ := Aside0.mk (below_step (by repeat (first | (with_reducible first | exact HB.out | apply below_alloc | apply pw_below_drewN | apply below_drew1) | exact HB.out)) hb); clear HB; have HO241 := n0_; have HB := n1_; clear n0_ n1_; clear hb ho9))
    repeat (go_quiet (first | ((with_reducible refine gate_dst (N := 19) rfl ?_); refine Kd.R_lit k30 _ 30 ?hg (N := 19) ?hd (xs := ([] : List (S30))) (inner := []) (ok := fun _ => True) (okp := fun _ => True) ?hr ?hp (fun _ hk => hk) trivial (Below.refl _ _) (Nat.le_refl _) (by simp) ?_; (case hd => rfl); (case hg => rfl); (case hr => first | (go_simp; done) | (go_simp; rfl)); (case hp => exact (Reps.none _ _)); intro v240 w8 ho9 hb hg_ hnew_; clear hg_ hnew_; (first | rw [← Ny239.out] at ho9 | (simp only [Int.reduceToNat] at ho9; rw [← Ny239.out] at ho9)); have n0_ := Aside0.mk (Kd.R_lower ho9 (below_size (by repeat (first | (with_reducible first | exact HB.out | apply below_alloc | apply pw_below_drewN | apply below_drew1) | exact HB.out)))); have n1_ := Aside0.mk (below_step (by repeat (first | (with_reducible first | exact HB.out | apply below_alloc | apply pw_below_drewN | apply below_drew1) | exact HB.out)) hb); clear HB; have HO241 := n0_; have HB := n1_; clear n0_ n1_; clear hb ho9)); try go_wp2_with (first | ((with_reducible refine gate_dst (N := 19) rfl ?_); refine Kd.R_lit k30 _ 30 ?hg (N := 19) ?hd (xs := ([] : List (S30))) (inner := []) (ok := fun _ => True) (okp := fun _ => True) ?hr ?hp (fun _ hk => hk) trivial (Below.refl _ _) (Nat.le_refl _) (by simp) ?_; (case hd => rfl); (case hg => rfl); (case hr => first | (go_simp; done) | (go_simp; rfl)); (case hp => exact (Reps.none _ _)); intro v240 w8 ho9 hb hg_ hnew_; clear hg_ hnew_; (first | rw [← Ny239.out] at ho9 | (simp only [Int.reduceToNat] at ho9; rw [← Ny239.out] at ho9)); have n0_ := Aside0.mk (Kd.R_lower ho9 (below_size (by repeat (first | (with_reducible first | exact HB.out | apply below_alloc | apply pw_below_drewN | apply below_drew1) | exact HB.out)))); have n1_ := Aside0.mk (below_step (by repeat (first | (with_reducible first | exact HB.out | apply below_alloc | apply pw_below_drewN | apply below_drew1) | exact HB.out)) hb); clear HB; have HO241 := n0_; have HB := n1_; clear n0_ n1_; clear hb ho9)))
    go_loopg [6, 7, 8] kj2 (fun kq v6 v7 v8 w' => ∃ (x6_2 : List (S30)) (x7_2 : Int) (x8_2 : Int), v7 = .int .i64 x7_2 ∧ v8 = .int .i64 x8_2 ∧ Aside0 (spileref16_Merge.l0 kq l0 l1 x6_2 x7_2 x8_2 = some (r1, r2)) ∧ Aside0 (kq ≤ kj2) ∧ Aside0 (Kd.R k30 30 w' w.heap.size (fun _ => True) v6 x6_2) ∧ Aside0 (Below w.heap.size w w'))
    case atStart => exact ⟨(y239), (0), (0), (by first | rfl | (simp; done) | (simp [*]; done)), (by first | rfl | (simp; done) | (simp [*]; done)), H', ⟨Nat.le_refl _⟩, ⟨by (with_reducible repeat (first | apply Kd.R_alloc | apply Kd.R_drewN | apply Kd.R_drew)); exact HO241.out⟩, ⟨by repeat (first | (with_reducible first | exact HB.out | apply below_alloc | apply pw_below_drewN | apply below_drew1) | exact HB.out)⟩⟩
    case round =>
     clear H'
     try clear c1
     try clear c2
     try clear p2
     try clear c5
     try clear c7
     try clear p2
     obtain ⟨x6_2, x7_2, x8_2, rfl, rfl, HA, HK2, HO_6, HB⟩ := hrel
     cases gk with
     | zero => exact absurd HA.out (by simp [spileref16_Merge.l0])
     | succ k2 =>
      have H := HA.out
      clear HA
      simp only [spileref16_Merge.l0] at H
      by_cases c10 : x8_2 < (l1.length : Int)
      ·
       rw [if_pos c10] at H
       have c10b0 : decide (x8_2 < (l1.length : Int)) = true := decide_eq_true c10
       clear c10
       have H' := Aside0.mk H
       clear H
       go_wp2
       repeat (go_quiet (fail); try go_wp2)
       go_loopg [6, 7] k2 (fun kq v6 v7 w' => ∃ (x6_3 : List (S30)) (x7_3 : Int), v7 = .int .i64 x7_3 ∧ Aside0 (spileref16_Merge.l1 kq l0 l1 x6_3 x7_3 x8_2 = some (r1, r2)) ∧ Aside0 (kq ≤ k2) ∧ Aside0 (Kd.R k30 30 w' w.heap.size (fun _ => True) v6 x6_3) ∧ Aside0 (Below w.heap.size w w'))
       case atStart => exact ⟨(x6_2), (x7_2), (by first | rfl | (simp; done) | (simp [*]; done)), H', ⟨Nat.le_refl _⟩, ⟨by (with_reducible repeat (first | apply Kd.R_alloc | apply Kd.R_drewN | apply Kd.R_drew)); exact HO_6.out⟩, ⟨by repeat (first | (with_reducible first | exact HB.out | apply below_alloc | apply pw_below_drewN | apply below_drew1) | exact HB.out)⟩⟩
       case round =>
        clear H'
        try clear c1
        try clear c2
        try clear p2
        try clear c5
        try clear c7
        try clear c10
        try clear c10b0
        try clear p2
        obtain ⟨x6_3, x7_3, rfl, HA, HK3, HO_6, HB⟩ := hrel
        cases gk with
        | zero => exact absurd HA.out (by simp [spileref16_Merge.l1])
        | succ k3 =>
         have H := HA.out
         clear HA
         simp only [spileref16_Merge.l1] at H
         by_cases c11 : x7_3 < (l0.length : Int)
         ·
          rw [if_pos c11] at H
          have c11b0 : decide (x7_3 < (l0.length : Int)) = true := decide_eq_true c11
          clear c11
          by_cases c12 : 0 ≤ x7_3
          ·
           rw [if_pos c12] at H
           have c12b0 : decide (0 ≤ x7_3) = true := decide_eq_true c12
           clear c12
           by_cases c13 : 0 ≤ x8_2
           ·
            rw [if_pos c13] at H
            have c13b0 : decide (0 ≤ x8_2) = true := decide_eq_true c13
            clear c13
            by_cases c14 : x8_2 < (l1.length : Int)
            ·
             rw [if_pos c14] at H
             have c14b0 : decide (x8_2 < (l1.length : Int)) = true := decide_eq_true c14
             clear c14
             by_cases c15 : ((rd_T30 l0 x7_3).f0) < ((rd_T30 l1 x8_2).f0)
             ·
              rw [if_pos c15] at H
              have c15b0 : decide (((rd_T30 l0 x7_3).f0) < ((rd_T30 l1 x8_2).f0)) = true := decide_eq_true c15
              clear c15
              by_cases c16 : x6_3.length < 8796093022208
              ·
               rw [if_pos c16] at H
               have LMc16 := Aside0.mk c16
               clear c16
               obtain ⟨y247, hy247⟩ : ∃ y_ : List (S30), y_ = (x6_3 ++ [(⟨(rd_T30 l0 x7_3).f0, (rd_T30 l0 x7_3).f1⟩ : S30)]) := ⟨_, rfl⟩
               replace H : (spileref16_Merge.l1 k3 l0 l1 y247 (wrap64 (x7_3 + 1)) x8_2) = some (r1, r2) := by first | (rw [hy247]; with_reducible exact H) | (have H2_ := (Option.bind_some _ _).symm.trans H; rw [hy247]; with_reducible exact H2_) | (have H2_ := (Option.bind_some _ _).symm.trans H; with_reducible exact H2_) | with_reducible exact H | (rw [hy247]; exact H) | exact H
               have Ny247 := Aside0.mk hy247
               clear hy247
               have H' := Aside0.mk H
               clear H
               have p244 : 0 ≤ (x7_3 : Int) := of_decide_eq_true (by first | (with_reducible assumption) | assumption)
               have q244 : x7_3 < (l0.length : Int) := of_decide_eq_true (by first | (with_reducible assumption) | assumption)
               obtain ⟨ad244, e244, hx244_0, hx244_1⟩ := at_T30 HR0.out x7_3 p244 q244
               cases e244
               replace hx244_0 := (HB.out.cell (World.block_lt_of_cell? w _ hx244_0)).trans hx244_0
               replace hx244_1 := (HB.out.cell (World.block_lt_of_cell? w _ hx244_1)).trans hx244_1
               replace p244 := eq_true p244
               replace q244 := eq_true q244
               have p245 : 0 ≤ (x8_2 : Int) := of_decide_eq_true (by first | (with_reducible assumption) | assumption)
               have q245 : x8_2 < (l1.length : Int) := of_decide_eq_true (by first | (with_reducible assumption) | assumption)
               obtain ⟨ad245, e245, hx245_0, hx245_1⟩ := at_T30 HR1.out x8_2 p245 q245
               cases e245
               replace hx245_0 := (HB.out.cell (World.block_lt_of_cell? w _ hx245_0)).trans hx245_0
               replace hx245_1 := (HB.out.cell (World.block_lt_of_cell? w _ hx245_1)).trans hx245_1
               replace p245 := eq_true p245
               replace q245 := eq_true q245
               have p246 : 0 ≤ (x7_3 : Int) := of_decide_eq_true (by first | (with_reducible assumption) | assumption)
               have q246 : x7_3 < (l0.length : Int) := of_decide_eq_true (by first | (with_reducible assumption) | assumption)
               obtain ⟨ad246, e246, hx246_0, hx246_1⟩ := at_T30 HR0.out x7_3 p246 q246
               obtain rfl : ad244 = ad246 := (by injection e246)
               replace hx246_0 := (HB.out.cell (World.block_lt_of_cell? w _ hx246_0)).trans hx246_0
               replace hx246_1 := (HB.out.cell (World.block_lt_of_cell? w _ hx246_1)).trans hx246_1
               replace p246 := eq_true p246
               replace q246 := eq_true q246
               go_wp2_with (first | ((with_reducible refine gate_builtin (b := .append) (xs := #[.tmp 43, .tmp 48]) rfl ?_); at_builtin; refine Kd.R_append k30 (w0 := w) w.heap.size rfl (.tmp 43) (.tmp 48) 22 30 (.agg #[(.int .i64 0), (.int .i64 0)]) 16 rfl Tryd.underlying22 info30 rfl (by decide) (by omega) u6 x6_3 (⟨(rd_T30 l0 x7_3).f0, (rd_T30 l0 x7_3).f1⟩ : S30) [.int .i64 ((rd_T30 l0 x7_3).f0), .int .i64 ((rd_T30 l0 x7_3).f1)] (fun _ => True) (fun _ => False) rfl rfl ?aP (fun _ hk => hk.elim) ?aF ?aO ?aB ?aS ?aL ?_; (case aP => exact k30_mkM _ _ _ (⟨(rd_T30 l0 x7_3).f0, (rd_T30 l0 x7_3).f1⟩ : S30)); (case aB => exact (by repeat (first | (with_reducible first | exact HB.out | apply below_alloc | apply pw_below_drewN | apply below_drew1) | exact HB.out))); (case aF => exact (fun _ _ => trivial)); (case aO => exact (by (with_reducible repeat (first | apply Kd.R_alloc | apply Kd.R_drewN | apply Kd.R_drew)); exact HO_6.out)); (case aS => exact (below_size (by repeat (first | (with_reducible first | exact HB.out | apply below_alloc | apply pw_below_drewN | apply below_drew1) | exact HB.out)))); (case aL => have := LMc16.out; omega); intro v248 w17 ho hb hg hat; rw [← Ny247.out] at ho; have n0_ := Aside0.mk (hb); have n1_ := Aside0.mk (ho); clear HB; clear HO_6; have HB := n0_; have HO249 := n1_; clear n0_ n1_; clear ho hb hg hat))
               repeat (go_quiet (first | ((with_reducible refine gate_builtin (b := .append) (xs := #[.tmp 43, .tmp 48]) rfl ?_); at_builtin; refine Kd.R_append k30 (w0 := w) w.heap.size rfl (.tmp 43) (.tmp 48) 22 30 (.agg #[(.int .i64 0), (.int .i64 0)]) 16 rfl Tryd.underlying22 info30 rfl (by decide) (by omega) u6 x6_3 (⟨(rd_T30 l0 x7_3).f0, (rd_T30 l0 x7_3).f1⟩ : S30) [.int .i64 ((rd_T30 l0 x7_3).f0), .int .i64 ((rd_T30 l0 x7_3).f1)] (fun _ => True) (fun _ => False) rfl rfl ?aP (fun _ hk => hk.elim) ?aF ?aO ?aB ?aS ?aL ?_; (case aP => exact k30_mkM _ _ _ (⟨(rd_T30 l0 x7_3).f0, (rd_T30 l0 x7_3).f1⟩ : S30)); (case aB => exact (by repeat (first | (with_reducible first | exact HB.out | apply below_alloc | apply pw_below_drewN | apply below_drew1) | exact HB.out))); (case aF => exact (fun _ _ => trivial)); (case aO => exact (by (with_reducible repeat (first | apply Kd.R_alloc | apply Kd.R_drewN | apply Kd.R_drew)); exact HO_6.out)); (case aS => exact (below_size (by repeat (first | (with_reducible first | exact HB.out | apply below_alloc | apply pw_below_drewN | apply below_drew1) | exact HB.out)))); (case aL => have := LMc16.out; omega); intro v248 w17 ho hb hg hat; rw [← Ny247.out] at ho; have n0_ := Aside0.mk (hb); have n1_ := Aside0.mk (ho); clear HB; clear HO_6; have HB := n0_; have HO249 := n1_; clear n0_ n1_; clear ho hb hg hat)); try go_wp2_with (first | ((with_reducible refine gate_builtin (b := .append) (xs := #[.tmp 43, .tmp 48]) rfl ?_); at_builtin; refine Kd.R_append k30 (w0 := w) w.heap.size rfl (.tmp 43) (.tmp 48) 22 30 (.agg #[(.int .i64 0), (.int .i64 0)]) 16 rfl Tryd.underlying22 info30 rfl (by decide) (by omega) u6 x6_3 (⟨(rd_T30 l0 x7_3).f0, (rd_T30 l0 x7_3).f1⟩ : S30) [.int .i64 ((rd_T30 l0 x7_3).f0), .int .i64 ((rd_T30 l0 x7_3).f1)] (fun _ => True) (fun _ => False) rfl rfl ?aP (fun _ hk => hk.elim) ?aF ?aO ?aB ?aS ?aL ?_; (case aP => exact k30_mkM _ _ _ (⟨(rd_T30 l0 x7_3).f0, (rd_T30 l0 x7_3).f1⟩ : S30)); (case aB => exact (by repeat (first | (with_reducible first | exact HB.out | apply below_alloc | apply pw_below_drewN | apply below_drew1) | exact HB.out))); (case aF => exact (fun _ _ => trivial)); (case aO => exact (by (with_reducible repeat (first | apply Kd.R_alloc | apply Kd.R_drewN | apply Kd.R_drew)); exact HO_6.out)); (case aS => exact (below_size (by repeat (first | (with_reducible first | exact HB.out | apply below_alloc | apply pw_below_drewN | apply below_drew1) | exact HB.out)))); (case aL => have := LMc16.out; omega); intro v248 w17 ho hb hg hat; rw [← Ny247.out] at ho; have n0_ := Aside0.mk (hb); have n1_ := Aside0.mk (ho); clear HB; clear HO_6; have HB := n0_; have HO249 := n1_; clear n0_ n1_; clear ho hb hg hat)))
               go_roundg k3
               case measure => have := HJ2.out; have := HK2.out; have := HK3.out; omega
               case rel => exact ⟨(y247), (wrap64 (x7_3 + 1)), (by first | rfl | (simp; done) | (simp [*]; done)), H', ⟨by have := HJ2.out; have := HK2.out; have := HK3.out; omega⟩, ⟨by (with_reducible repeat (first | apply Kd.R_alloc | apply Kd.R_drewN | apply Kd.R_drew)); exact HO249.out⟩, ⟨by repeat (first | (with_reducible first | exact HB.out | apply below_alloc | apply pw_below_drewN | apply below_drew1) | exact HB.out)⟩⟩
              ·
               rw [if_neg c16] at H
               exact absurd H (by simp)
             ·
              rw [if_neg c15] at H
              have c15b0 : decide (((rd_T30 l0 x7_3).f0) < ((rd_T30 l1 x8_2).f0)) = false := decide_eq_false c15
              clear c15
              by_cases c18 : ((rd_T30 l0 x7_3).f0) = ((rd_T30 l1 x8_2).f0)
              ·
               rw [if_pos c18] at H
               have c18b0 : (((rd_T30 l0 x7_3).f0) == ((rd_T30 l1 x8_2).f0)) = true := beq_iff_eq.mpr c18
               have c18b1 : (((rd_T30 l0 x7_3).f0) != ((rd_T30 l1 x8_2).f0)) = false := bne_eq_false_iff_eq.mpr c18
               clear c18
               by_cases c19 : x6_3.length < 8796093022208
               ·
                rw [if_pos c19] at H
                have LMc19 := Aside0.mk c19
                clear c19
                obtain ⟨y253, hy253⟩ : ∃ y_ : List (S30), y_ = (x6_3 ++ [(⟨(rd_T30 l1 x8_2).f0, (rd_T30 l1 x8_2).f1⟩ : S30)]) := ⟨_, rfl⟩
                replace H : (spileref16_Merge.l0 k3 l0 l1 y253 (wrap64 (x7_3 + 1)) (wrap64 (x8_2 + 1))) = some (r1, r2) := by first | (rw [hy253]; with_reducible exact H) | (have H2_ := (Option.bind_some _ _).symm.trans H; rw [hy253]; with_reducible exact H2_) | (have H2_ := (Option.bind_some _ _).symm.trans H; with_reducible exact H2_) | with_reducible exact H | (rw [hy253]; exact H) | exact H
                have Ny253 := Aside0.mk hy253
                clear hy253
                have H' := Aside0.mk H
                clear H
                have p244 : 0 ≤ (x7_3 : Int) := of_decide_eq_true (by first | (with_reducible assumption) | assumption)
                have q244 : x7_3 < (l0.length : Int) := of_decide_eq_true (by first | (with_reducible assumption) | assumption)
                obtain ⟨ad244, e244, hx244_0, hx244_1⟩ := at_T30 HR0.out x7_3 p244 q244
                cases e244
                replace hx244_0 := (HB.out.cell (World.block_lt_of_cell? w _ hx244_0)).trans hx244_0
                replace hx244_1 := (HB.out.cell (World.block_lt_of_cell? w _ hx244_1)).trans hx244_1
                replace p244 := eq_true p244
                replace q244 := eq_true q244
                have p245 : 0 ≤ (x8_2 : Int) := of_decide_eq_true (by first | (with_reducible assumption) | assumption)
                have q245 : x8_2 < (l1.length : Int) := of_decide_eq_true (by first | (with_reducible assumption) | assumption)
                obtain ⟨ad245, e245, hx245_0, hx245_1⟩ := at_T30 HR1.out x8_2 p245 q245
                cases e245
                replace hx245_0 := (HB.out.cell (World.block_lt_of_cell? w _ hx245_0)).trans hx245_0
                replace hx245_1 := (HB.out.cell (World.block_lt_of_cell? w _ hx245_1)).trans hx245_1
                replace p245 := eq_true p245
                replace q245 := eq_true q245
                have p250 : 0 ≤ (x7_3 : Int) := of_decide_eq_true (by first | (with_reducible assumption) | assumption)
                have q250 : x7_3 < (l0.length : Int) := of_decide_eq_true (by first | (with_reducible assumption) | assumption)
                obtain ⟨ad250, e250, hx250_0, hx250_1⟩ := at_T30 HR0.out x7_3 p250 q250
                obtain rfl : ad244 = ad250 := (by injection e250)
                replace hx250_0 := (HB.out.cell (World.block_lt_of_cell? w _ hx250_0)).trans hx250_0
                replace hx250_1 := (HB.out.cell (World.block_lt_of_cell? w _ hx250_1)).trans hx250_1
                replace p250 := eq_true p250
                replace q250 := eq_true q250
                have p251 : 0 ≤ (x8_2 : Int) := of_decide_eq_true (by first | (with_reducible assumption) | assumption)
                have q251 : x8_2 < (l1.length : Int) := of_decide_eq_true (by first | (with_reducible assumption) | assumption)
                obtain ⟨ad251, e251, hx251_0, hx251_1⟩ := at_T30 HR1.out x8_2 p251 q251
                obtain rfl : ad245 = ad251 := (by injection e251)
                replace hx251_0 := (HB.out.cell (World.block_lt_of_cell? w _ hx251_0)).trans hx251_0
                replace hx251_1 := (HB.out.cell (World.block_lt_of_cell? w _ hx251_1)).trans hx251_1
                replace p251 := eq_true p251
                replace q251 := eq_true q251
                have p252 : 0 ≤ (x8_2 : Int) := of_decide_eq_true (by first | (with_reducible assumption) | assumption)
                have q252 : x8_2 < (l1.length : Int) := of_decide_eq_true (by first | (with_reducible assumption) | assumption)
                obtain ⟨ad252, e252, hx252_0, hx252_1⟩ := at_T30 HR1.out x8_2 p252 q252
                obtain rfl : ad245 = ad252 := (by injection e252)
                replace hx252_0 := (HB.out.cell (World.block_lt_of_cell? w _ hx252_0)).trans hx252_0
                replace hx252_1 := (HB.out.cell (World.block_lt_of_cell? w _ hx252_1)).trans hx252_1
                replace p252 := eq_true p252
                replace q252 := eq_true q252
                go_wp2_with (first | ((with_reducible refine gate_builtin (b := .append) (xs := #[.tmp 71, .tmp 76]) rfl ?_); at_builtin; refine Kd.R_append k30 (w0 := w) w.heap.size rfl (.tmp 71) (.tmp 76) 22 30 (.agg #[(.int .i64 0), (.int .i64 0)]) 16 rfl Tryd.underlying22 info30 rfl (by decide) (by omega) u6 x6_3 (⟨(rd_T30 l1 x8_2).f0, (rd_T30 l1 x8_2).f1⟩ : S30) [.int .i64 ((rd_T30 l1 x8_2).f0), .int .i64 ((rd_T30 l1 x8_2).f1)] (fun _ => True) (fun _ => False) rfl rfl ?aP (fun _ hk => hk.elim) ?aF ?aO ?aB ?aS ?aL ?_; (case aP => exact k30_mkM _ _ _ (⟨(rd_T30 l1 x8_2).f0, (rd_T30 l1 x8_2).f1⟩ : S30)); (case aB => exact (by repeat (first | (with_reducible first | exact HB.out | apply below_alloc | apply pw_below_drewN | apply below_drew1) | exact HB.out))); (case aF => exact (fun _ _ => trivial)); (case aO => exact (by (with_reducible repeat (first | apply Kd.R_alloc | apply Kd.R_drewN | apply Kd.R_drew)); exact HO_6.out)); (case aS => exact (below_size (by repeat (first | (with_reducible first | exact HB.out | apply below_alloc | apply pw_below_drewN | apply below_drew1) | exact HB.out)))); (case aL => have := LMc19.out; omega); intro v254 w20 ho hb hg hat; rw [← Ny253.out] at ho; have n0_ := Aside0.mk (hb); have n1_ := Aside0.mk (ho); clear HB; clear HO_6; have HB := n0_; have HO255 := n1_; clear n0_ n1_; clear ho hb hg hat))
                repeat (go_quiet (first | ((with_reducible refine gate_builtin (b := .append) (xs := #[.tmp 71, .tmp 76]) rfl ?_); at_builtin; refine Kd.R_append k30 (w0 := w) w.heap.size rfl (.tmp 71) (.tmp 76) 22 30 (.agg #[(.int .i64 0), (.int .i64 0)]) 16 rfl Tryd.underlying22 info30 rfl (by decide) (by omega) u6 x6_3 (⟨(rd_T30 l1 x8_2).f0, (rd_T30 l1 x8_2).f1⟩ : S30) [.int .i64 ((rd_T30 l1 x8_2).f0), .int .i64 ((rd_T30 l1 x8_2).f1)] (fun _ => True) (fun _ => False) rfl rfl ?aP (fun _ hk => hk.elim) ?aF ?aO ?aB ?aS ?aL ?_; (case aP => exact k30_mkM _ _ _ (⟨(rd_T30 l1 x8_2).f0, (rd_T30 l1 x8_2).f1⟩ : S30)); (case aB => exact (by repeat (first | (with_reducible first | exact HB.out | apply below_alloc | apply pw_below_drewN | apply below_drew1) | exact HB.out))); (case aF => exact (fun _ _ => trivial)); (case aO => exact (by (with_reducible repeat (first | apply Kd.R_alloc | apply Kd.R_drewN | apply Kd.R_drew)); exact HO_6.out)); (case aS => exact (below_size (by repeat (first | (with_reducible first | exact HB.out | apply below_alloc | apply pw_below_drewN | apply below_drew1) | exact HB.out)))); (case aL => have := LMc19.out; omega); intro v254 w20 ho hb hg hat; rw [← Ny253.out] at ho; have n0_ := Aside0.mk (hb); have n1_ := Aside0.mk (ho); clear HB; clear HO_6; have HB := n0_; have HO255 := n1_; clear n0_ n1_; clear ho hb hg hat)); try go_wp2_with (first | ((with_reducible refine gate_builtin (b := .append) (xs := #[.tmp 71, .tmp 76]) rfl ?_); at_builtin; refine Kd.R_append k30 (w0 := w) w.heap.size rfl (.tmp 71) (.tmp 76) 22 30 (.agg #[(.int .i64 0), (.int .i64 0)]) 16 rfl Tryd.underlying22 info30 rfl (by decide) (by omega) u6 x6_3 (⟨(rd_T30 l1 x8_2).f0, (rd_T30 l1 x8_2).f1⟩ : S30) [.int .i64 ((rd_T30 l1 x8_2).f0), .int .i64 ((rd_T30 l1 x8_2).f1)] (fun _ => True) (fun _ => False) rfl rfl ?aP (fun _ hk => hk.elim) ?aF ?aO ?aB ?aS ?aL ?_; (case aP => exact k30_mkM _ _ _ (⟨(rd_T30 l1 x8_2).f0, (rd_T30 l1 x8_2).f1⟩ : S30)); (case aB => exact (by repeat (first | (with_reducible first | exact HB.out | apply below_alloc | apply pw_below_drewN | apply below_drew1) | exact HB.out))); (case aF => exact (fun _ _ => trivial)); (case aO => exact (by (with_reducible repeat (first | apply Kd.R_alloc | apply Kd.R_drewN | apply Kd.R_drew)); exact HO_6.out)); (case aS => exact (below_size (by repeat (first | (with_reducible first | exact HB.out | apply below_alloc | apply pw_below_drewN | apply below_drew1) | exact HB.out)))); (case aL => have := LMc19.out; omega); intro v254 w20 ho hb hg hat; rw [← Ny253.out] at ho; have n0_ := Aside0.mk (hb); have n1_ := Aside0.mk (ho); clear HB; clear HO_6; have HB := n0_; have HO255 := n1_; clear n0_ n1_; clear ho hb hg hat)))
                go_roundg k3
                case measure => have := HJ2.out; have := HK2.out; have := HK3.out; omega
                case rel => exact ⟨(y253), (wrap64 (x7_3 + 1)), (wrap64 (x8_2 + 1)), (by first | rfl | (simp; done) | (simp [*]; done)), (by first | rfl | (simp; done) | (simp [*]; done)), H', ⟨by have := HJ2.out; have := HK2.out; have := HK3.out; omega⟩, ⟨by (with_reducible repeat (first | apply Kd.R_alloc | apply Kd.R_drewN | apply Kd.R_drew)); exact HO255.out⟩, ⟨by repeat (first | (with_reducible first | exact HB.out | apply below_alloc | apply pw_below_drewN | apply below_drew1) | exact HB.out)⟩⟩
               ·
                rw [if_neg c19] at H
                exact absurd H (by simp)
              ·
               rw [if_neg c18] at H
               have c18b0 : (((rd_T30 l0 x7_3).f0) == ((rd_T30 l1 x8_2).f0)) = false := beq_eq_false_iff_ne.mpr c18
               have c18b1 : (((rd_T30 l0 x7_3).f0) != ((rd_T30 l1 x8_2).f0)) = true := bne_iff_ne.mpr c18
               by_cases c21 : x6_3.length < 8796093022208
               ·
                rw [if_pos c21] at H
                have LMc21 := Aside0.mk c21
                clear c21
                obtain ⟨y257, hy257⟩ : ∃ y_ : List (S30), y_ = (x6_3 ++ [(⟨(rd_T30 l1 x8_2).f0, (rd_T30 l1 x8_2).f1⟩ : S30)]) := ⟨_, rfl⟩
                replace H : (spileref16_Merge.l0 k3 l0 l1 y257 x7_3 (wrap64 (x8_2 + 1))) = some (r1, r2) := by first | (rw [hy257]; with_reducible exact H) | (have H2_ := (Option.bind_some _ _).symm.trans H; rw [hy257]; with_reducible exact H2_) | (have H2_ := (Option.bind_some _ _).symm.trans H; with_reducible exact H2_) | with_reducible exact H | (rw [hy257]; exact H) | exact H
                have Ny257 := Aside0.mk hy257
                clear hy257
                have H' := Aside0.mk H
                clear H
                have p244 : 0 ≤ (x7_3 : Int) := of_decide_eq_true (by first | (with_reducible assumption) | assumption)
                have q244 : x7_3 < (l0.length : Int) := of_decide_eq_true (by first | (with_reducible assumption) | assumption)
                obtain ⟨ad244, e244, hx244_0, hx244_1⟩ := at_T30 HR0.out x7_3 p244 q244
                cases e244
                replace hx244_0 := (HB.out.cell (World.block_lt_of_cell? w _ hx244_0)).trans hx244_0
                replace hx244_1 := (HB.out.cell (World.block_lt_of_cell? w _ hx244_1)).trans hx244_1
                replace p244 := eq_true p244
                replace q244 := eq_true q244
                have p245 : 0 ≤ (x8_2 : Int) := of_decide_eq_true (by first | (with_reducible assumption) | assumption)
                have q245 : x8_2 < (l1.length : Int) := of_decide_eq_true (by first | (with_reducible assumption) | assumption)
                obtain ⟨ad245, e245, hx245_0, hx245_1⟩ := at_T30 HR1.out x8_2 p245 q245
                cases e245
                replace hx245_0 := (HB.out.cell (World.block_lt_of_cell? w _ hx245_0)).trans hx245_0
                replace hx245_1 := (HB.out.cell (World.block_lt_of_cell? w _ hx245_1)).trans hx245_1
                replace p245 := eq_true p245
                replace q245 := eq_true q245
                have p250 : 0 ≤ (x7_3 : Int) := of_decide_eq_true (by first | (with_reducible assumption) | assumption)
                have q250 : x7_3 < (l0.length : Int) := of_decide_eq_true (by first | (with_reducible assumption) | assumption)
                obtain ⟨ad250, e250, hx250_0, hx250_1⟩ := at_T30 HR0.out x7_3 p250 q250
                obtain rfl : ad244 = ad250 := (by injection e250)
                replace hx250_0 := (HB.out.cell (World.block_lt_of_cell? w _ hx250_0)).trans hx250_0
                replace hx250_1 := (HB.out.cell (World.block_lt_of_cell? w _ hx250_1)).trans hx250_1
                replace p250 := eq_true p250
                replace q250 := eq_true q250
                have p251 : 0 ≤ (x8_2 : Int) := of_decide_eq_true (by first | (with_reducible assumption) | assumption)
                have q251 : x8_2 < (l1.length : Int) := of_decide_eq_true (by first | (with_reducible assumption) | assumption)
                obtain ⟨ad251, e251, hx251_0, hx251_1⟩ := at_T30 HR1.out x8_2 p251 q251
                obtain rfl : ad245 = ad251 := (by injection e251)
                replace hx251_0 := (HB.out.cell (World.block_lt_of_cell? w _ hx251_0)).trans hx251_0
                replace hx251_1 := (HB.out.cell (World.block_lt_of_cell? w _ hx251_1)).trans hx251_1
                replace p251 := eq_true p251
                replace q251 := eq_true q251
                have p256 : 0 ≤ (x8_2 : Int) := of_decide_eq_true (by first | (with_reducible assumption) | assumption)
                have q256 : x8_2 < (l1.length : Int) := of_decide_eq_true (by first | (with_reducible assumption) | assumption)
                obtain ⟨ad256, e256, hx256_0, hx256_1⟩ := at_T30 HR1.out x8_2 p256 q256
                obtain rfl : ad245 = ad256 := (by injection e256)
                replace hx256_0 := (HB.out.cell (World.block_lt_of_cell? w _ hx256_0)).trans hx256_0
                replace hx256_1 := (HB.out.cell (World.block_lt_of_cell? w _ hx256_1)).trans hx256_1
                replace p256 := eq_true p256
                replace q256 := eq_true q256
                go_wp2_with (first | ((with_reducible refine gate_builtin (b := .append) (xs := #[.tmp 71, .tmp 76]) rfl ?_); at_builtin; refine Kd.R_append k30 (w0 := w) w.heap.size rfl (.tmp 71) (.tmp 76) 22 30 (.agg #[(.int .i64 0), (.int .i64 0)]) 16 rfl Tryd.underlying22 info30 rfl (by decide) (by omega) u6 x6_3 (⟨(rd_T30 l1 x8_2).f0, (rd_T30 l1 x8_2).f1⟩ : S30) [.int .i64 ((rd_T30 l1 x8_2).f0), .int .i64 ((rd_T30 l1 x8_2).f1)] (fun _ => True) (fun _ => False) rfl rfl ?aP (fun _ hk => hk.elim) ?aF ?aO ?aB ?aS ?aL ?_; (case aP => exact k30_mkM _ _ _ (⟨(rd_T30 l1 x8_2).f0, (rd_T30 l1 x8_2).f1⟩ : S30)); (case aB => exact (by repeat (first | (with_reducible first | exact HB.out | apply below_alloc | apply pw_below_drewN | apply below_drew1) | exact HB.out))); (case aF => exact (fun _ _ => trivial)); (case aO => exact (by (with_reducible repeat (first | apply Kd.R_alloc | apply Kd.R_drewN | apply Kd.R_drew)); exact HO_6.out)); (case aS => exact (below_size (by repeat (first | (with_reducible first | exact HB.out | apply below_alloc | apply pw_below_drewN | apply below_drew1) | exact HB.out)))); (case aL => have := LMc21.out; omega); intro v258 w22 ho hb hg hat; rw [← Ny257.out] at ho; have n0_ := Aside0.mk (hb); have n1_ := Aside0.mk (ho); clear HB; clear HO_6; have HB := n0_; have HO259 := n1_; clear n0_ n1_; clear ho hb hg hat))
                repeat (go_quiet (first | ((with_reducible refine gate_builtin (b := .append) (xs := #[.tmp 71, .tmp 76]) rfl ?_); at_builtin; refine Kd.R_append k30 (w0 := w) w.heap.size rfl (.tmp 71) (.tmp 76) 22 30 (.agg #[(.int .i64 0), (.int .i64 0)]) 16 rfl Tryd.underlying22 info30 rfl (by decide) (by omega) u6 x6_3 (⟨(rd_T30 l1 x8_2).f0, (rd_T30 l1 x8_2).f1⟩ : S30) [.int .i64 ((rd_T30 l1 x8_2).f0), .int .i64 ((rd_T30 l1 x8_2).f1)] (fun _ => True) (fun _ => False) rfl rfl ?aP (fun _ hk => hk.elim) ?aF ?aO ?aB ?aS ?aL ?_; (case aP => exact k30_mkM _ _ _ (⟨(rd_T30 l1 x8_2).f0, (rd_T30 l1 x8_2).f1⟩ : S30)); (case aB => exact (by repeat (first | (with_reducible first | exact HB.out | apply below_alloc | apply pw_below_drewN | apply below_drew1) | exact HB.out))); (case aF => exact (fun _ _ => trivial)); (case aO => exact (by (with_reducible repeat (first | apply Kd.R_alloc | apply Kd.R_drewN | apply Kd.R_drew)); exact HO_6.out)); (case aS => exact (below_size (by repeat (first | (with_reducible first | exact HB.out | apply below_alloc | apply pw_below_drewN | apply below_drew1) | exact HB.out)))); (case aL => have := LMc21.out; omega); intro v258 w22 ho hb hg hat; rw [← Ny257.out] at ho; have n0_ := Aside0.mk (hb); have n1_ := Aside0.mk (ho); clear HB; clear HO_6; have HB := n0_; have HO259 := n1_; clear n0_ n1_; clear ho hb hg hat)); try go_wp2_with (first | ((with_reducible refine gate_builtin (b := .append) (xs := #[.tmp 71, .tmp 76]) rfl ?_); at_builtin; refine Kd.R_append k30 (w0 := w) w.heap.size rfl (.tmp 71) (.tmp 76) 22 30 (.agg #[(.int .i64 0), (.int .i64 0)]) 16 rfl Tryd.underlying22 info30 rfl (by decide) (by omega) u6 x6_3 (⟨(rd_T30 l1 x8_2).f0, (rd_T30 l1 x8_2).f1⟩ : S30) [.int .i64 ((rd_T30 l1 x8_2).f0), .int .i64 ((rd_T30 l1 x8_2).f1)] (fun _ => True) (fun _ => False) rfl rfl ?aP (fun _ hk => hk.elim) ?aF ?aO ?aB ?aS ?aL ?_; (case aP => exact k30_mkM _ _ _ (⟨(rd_T30 l1 x8_2).f0, (rd_T30 l1 x8_2).f1⟩ : S30)); (case aB => exact (by repeat (first | (with_reducible first | exact HB.out | apply below_alloc | apply pw_below_drewN | apply below_drew1) | exact HB.out))); (case aF => exact (fun _ _ => trivial)); (case aO => exact (by (with_reducible repeat (first | apply Kd.R_alloc | apply Kd.R_drewN | apply Kd.R_drew)); exact HO_6.out)); (case aS => exact (below_size (by repeat (first | (with_reducible first | exact HB.out | apply below_alloc | apply pw_below_drewN | apply below_drew1) | exact HB.out)))); (case aL => have := LMc21.out; omega); intro v258 w22 ho hb hg hat; rw [← Ny257.out] at ho; have n0_ := Aside0.mk (hb); have n1_ := Aside0.mk (ho); clear HB; clear HO_6; have HB := n0_; have HO259 := n1_; clear n0_ n1_; clear ho hb hg hat)))
                go_roundg k3
                case measure => have := HJ2.out; have := HK2.out; have := HK3.out; omega
                case rel => exact ⟨(y257), (x7_3), (wrap64 (x8_2 + 1)), (by first | rfl | (simp; done) | (simp [*]; done)), (by first | rfl | (simp; done) | (simp [*]; done)), H', ⟨by have := HJ2.out; have := HK2.out; have := HK3.out; omega⟩, ⟨by (with_reducible repeat (first | apply Kd.R_alloc | apply Kd.R_drewN | apply Kd.R_drew)); exact HO259.out⟩, ⟨by repeat (first | (with_reducible first | exact HB.out | apply below_alloc | apply pw_below_drewN | apply below_drew1) | exact HB.out)⟩⟩
               ·
                rw [if_neg c21] at H
                exact absurd H (by simp)
            ·
             rw [if_neg c14] at H
             exact absurd H (by simp)
           ·
            rw [if_neg c13] at H
            exact absurd H (by simp)
          ·
           rw [if_neg c12] at H
           exact absurd H (by simp)
         ·
          rw [if_neg c11] at H
          have c11b0 : decide (x7_3 < (l0.length : Int)) = false := decide_eq_false c11
          clear c11
          by_cases c23 : 0 ≤ x8_2
          ·
           rw [if_pos c23] at H
           have c23b0 : decide (0 ≤ x8_2) = true := decide_eq_true c23
           clear c23
           by_cases c24 : x8_2 < (l1.length : Int)
           ·
            rw [if_pos c24] at H
            have c24b0 : decide (x8_2 < (l1.length : Int)) = true := decide_eq_true c24
            clear c24
            by_cases c25 : x6_3.length < 8796093022208
            ·
             rw [if_pos c25] at H
             have LMc25 := Aside0.mk c25
             clear c25
             obtain ⟨y261, hy261⟩ : ∃ y_ : List (S30), y_ = (x6_3 ++ [(⟨(rd_T30 l1 x8_2).f0, (rd_T30 l1 x8_2).f1⟩ : S30)]) := ⟨_, rfl⟩
             replace H : (spileref16_Merge.l0 k3 l0 l1 y261 x7_3 (wrap64 (x8_2 + 1))) = some (r1, r2) := by first | (rw [hy261]; with_reducible exact H) | (have H2_ := (Option.bind_some _ _).symm.trans H; rw [hy261]; with_reducible exact H2_) | (have H2_ := (Option.bind_some _ _).symm.trans H; with_reducible exact H2_) | with_reducible exact H | (rw [hy261]; exact H) | exact H
             have Ny261 := Aside0.mk hy261
             clear hy261
             have H' := Aside0.mk H
             clear H
             have p260 : 0 ≤ (x8_2 : Int) := of_decide_eq_true (by first | (with_reducible assumption) | assumption)
             have q260 : x8_2 < (l1.length : Int) := of_decide_eq_true (by first | (with_reducible assumption) | assumption)
             obtain ⟨ad260, e260, hx260_0, hx260_1⟩ := at_T30 HR1.out x8_2 p260 q260
             cases e260
             replace hx260_0 := (HB.out.cell (World.block_lt_of_cell? w _ hx260_0)).trans hx260_0
             replace hx260_1 := (HB.out.cell (World.block_lt_of_cell? w _ hx260_1)).trans hx260_1
             replace p260 := eq_true p260
             replace q260 := eq_true q260
             go_wp2_with (first | ((with_reducible refine gate_builtin (b := .append) (xs := #[.tmp 71, .tmp 76]) rfl ?_); at_builtin; refine Kd.R_append k30 (w0 := w) w.heap.size rfl (.tmp 71) (.tmp 76) 22 30 (.agg #[(.int .i64 0), (.int .i64 0)]) 16 rfl Tryd.underlying22 info30 rfl (by decide) (by omega) u6 x6_3 (⟨(rd_T30 l1 x8_2).f0, (rd_T30 l1 x8_2).f1⟩ : S30) [.int .i64 ((rd_T30 l1 x8_2).f0), .int .i64 ((rd_T30 l1 x8_2).f1)] (fun _ => True) (fun _ => False) rfl rfl ?aP (fun _ hk => hk.elim) ?aF ?aO ?aB ?aS ?aL ?_; (case aP => exact k30_mkM _ _ _ (⟨(rd_T30 l1 x8_2).f0, (rd_T30 l1 x8_2).f1⟩ : S30)); (case aB => exact (by repeat (first | (with_reducible first | exact HB.out | apply below_alloc | apply pw_below_drewN | apply below_drew1) | exact HB.out))); (case aF => exact (fun _ _ => trivial)); (case aO => exact (by (with_reducible repeat (first | apply Kd.R_alloc | apply Kd.R_drewN | apply Kd.R_drew)); exact HO_6.out)); (case aS => exact (below_size (by repeat (first | (with_reducible first | exact HB.out | apply below_alloc | apply pw_below_drewN | apply below_drew1) | exact HB.out)))); (case aL => have := LMc25.out; omega); intro v262 w26 ho hb hg hat; rw [← Ny261.out] at ho; have n0_ := Aside0.mk (hb); have n1_ := Aside0.mk (ho); clear HB; clear HO_6; have HB := n0_; have HO263 := n1_; clear n0_ n1_; clear ho hb hg hat))
             repeat (go_quiet (first | ((with_reducible refine gate_builtin (b := .append) (xs := #[.tmp 71, .tmp 76]) rfl ?_); at_builtin; refine Kd.R_append k30 (w0 := w) w.heap.size rfl (.tmp 71) (.tmp 76) 22 30 (.agg #[(.int .i64 0), (.int .i64 0)]) 16 rfl Tryd.underlying22 info30 rfl (by decide) (by omega) u6 x6_3 (⟨(rd_T30 l1 x8_2).f0, (rd_T30 l1 x8_2).f1⟩ : S30) [.int .i64 ((rd_T30 l1 x8_2).f0), .int .i64 ((rd_T30 l1 x8_2).f1)] (fun _ => True) (fun _ => False) rfl rfl ?aP (fun _ hk => hk.elim) ?aF ?aO ?aB ?aS ?aL ?_; (case aP => exact k30_mkM _ _ _ (⟨(rd_T30 l1 x8_2).f0, (rd_T30 l1 x8_2).f1⟩ : S30)); (case aB => exact (by repeat (first | (with_reducible first | exact HB.out | apply below_alloc | apply pw_below_drewN | apply below_drew1) | exact HB.out))); (case aF => exact (fun _ _ => trivial)); (case aO => exact (by (with_reducible repeat (first | apply Kd.R_alloc | apply Kd.R_drewN | apply Kd.R_drew)); exact HO_6.out)); (case aS => exact (below_size (by repeat (first | (with_reducible first | exact HB.out | apply below_alloc | apply pw_below_drewN | apply below_drew1) | exact HB.out)))); (case aL => have := LMc25.out; omega); intro v262 w26 ho hb hg hat; rw [← Ny261.out] at ho; have n0_ := Aside0.mk (hb); have n1_ := Aside0.mk (ho); clear HB; clear HO_6; have HB := n0_; have HO263 := n1_; clear n0_ n1_; clear ho hb hg hat)); try go_wp2_with (first | ((with_reducible refine gate_builtin (b := .append) (xs := #[.tmp 71, .tmp 76]) rfl ?_); at_builtin; refine Kd.R_append k30 (w0 := w) w.heap.size rfl (.tmp 71) (.tmp 76) 22 30 (.agg #[(.int .i64 0), (.int .i64 0)]) 16 rfl Tryd.underlying22 info30 rfl (by decide) (by omega) u6 x6_3 (⟨(rd_T30 l1 x8_2).f0, (rd_T30 l1 x8_2).f1⟩ : S30) [.int .i64 ((rd_T30 l1 x8_2).f0), .int .i64 ((rd_T30 l1 x8_2).f1)] (fun _ => True) (fun _ => False) rfl rfl ?aP (fun _ hk => hk.elim) ?aF ?aO ?aB ?aS ?aL ?_; (case aP => exact k30_mkM _ _ _ (⟨(rd_T30 l1 x8_2).f0, (rd_T30 l1 x8_2).f1⟩ : S30)); (case aB => exact (by repeat (first | (with_reducible first | exact HB.out | apply below_alloc | apply pw_below_drewN | apply below_drew1) | exact HB.out))); (case aF => exact (fun _ _ => trivial)); (case aO => exact (by (with_reducible repeat (first | apply Kd.R_alloc | apply Kd.R_drewN | apply Kd.R_drew)); exact HO_6.out)); (case aS => exact (below_size (by repeat (first | (with_reducible first | exact HB.out | apply below_alloc | apply pw_below_drewN | apply below_drew1) | exact HB.out)))); (case aL => have := LMc25.out; omega); intro v262 w26 ho hb hg hat; rw [← Ny261.out] at ho; have n0_ := Aside0.mk (hb); have n1_ := Aside0.mk (ho); clear HB; clear HO_6; have HB := n0_; have HO263 := n1_; clear n0_ n1_; clear ho hb hg hat)))
             go_roundg k3
             case measure => have := HJ2.out; have := HK2.out; have := HK3.out; omega
             case rel => exact ⟨(y261), (x7_3), (wrap64 (x8_2 + 1)), (by first | rfl | (simp; done) | (simp [*]; done)), (by first | rfl | (simp; done) | (simp [*]; done)), H', ⟨by have := HJ2.out; have := HK2.out; have := HK3.out; omega⟩, ⟨by (with_reducible repeat (first | apply Kd.R_alloc | apply Kd.R_drewN | apply Kd.R_drew)); exact HO263.out⟩, ⟨by repeat (first | (with_reducible first | exact HB.out | apply below_alloc | apply pw_below_drewN | apply below_drew1) | exact HB.out)⟩⟩
            ·
             rw [if_neg c25] at H
             exact absurd H (by simp)
           ·
            rw [if_neg c24] at H
            exact absurd H (by simp)
          ·
           rw [if_neg c23] at H
           exact absurd H (by simp)
      ·
       rw [if_neg c10] at H
       have c10b0 : decide (x8_2 < (l1.length : Int)) = false := decide_eq_false c10
       clear c10
       replace H := Option.bind_eq_some_iff.mp H
       obtain ⟨⟨t242, t243⟩, A270, H⟩ := H
       replace H : (if t243 = 0 then (some (x6_2, 0)) else (some (([] : List (S30)), t243))) = some (r1, r2) := H
       have A27 := Aside0.mk A270
       clear A270
       by_cases c28 : t243 = 0
       ·
        rw [if_pos c28] at H
        have c28b0 : (t243 == 0) = true := beq_iff_eq.mpr c28
        have c28b1 : (t243 != 0) = false := bne_eq_false_iff_eq.mpr c28
        clear c28
        simp only [Option.some.injEq, Prod.mk.injEq] at H
        obtain ⟨rfl, rfl⟩ := H
        obtain ⟨Ao29, co29, eo29⟩ := Kd.R_slice HO_6.out
        subst eo29
        go_wp2_with (first | (go_at_call 14; (with_reducible refine (spileref16_Check.calls k2 _ _ x6_2 t242 t243 _ ?side1 ?side2 A27.out).mono ?_); (case side1 => repeat (first | exact (Kd.R_reads' HO_6.out).2.2 | (with_reducible refine Kd.C_alloc ?_ _) | (with_reducible refine Kd.C_drewN ?_ _) | (with_reducible refine Kd.C_drew ?_))); (case side2 => exact (Kd.R_reads' HO_6.out).2.1); rintro e w' ⟨rfl, ⟨nd, rfl⟩⟩; (try first | exact ⟨rfl, _, World.drewN_drewN _ _ _⟩ | exact ⟨rfl, _, Eq.trans (World.drewN_drewN _ _ _) (congrArg (World.drewN _) (Nat.add_assoc _ _ _))⟩)))
        repeat (go_quiet (first | (go_at_call 14; (with_reducible refine (spileref16_Check.calls k2 _ _ x6_2 t242 t243 _ ?side1 ?side2 A27.out).mono ?_); (case side1 => repeat (first | exact (Kd.R_reads' HO_6.out).2.2 | (with_reducible refine Kd.C_alloc ?_ _) | (with_reducible refine Kd.C_drewN ?_ _) | (with_reducible refine Kd.C_drew ?_))); (case side2 => exact (Kd.R_reads' HO_6.out).2.1); rintro e w' ⟨rfl, ⟨nd, rfl⟩⟩; (try first | exact ⟨rfl, _, World.drewN_drewN _ _ _⟩ | exact ⟨rfl, _, Eq.trans (World.drewN_drewN _ _ _) (congrArg (World.drewN _) (Nat.add_assoc _ _ _))⟩))); try go_wp2_with (first | (go_at_call 14; (with_reducible refine (spileref16_Check.calls k2 _ _ x6_2 t242 t243 _ ?side1 ?side2 A27.out).mono ?_); (case side1 => repeat (first | exact (Kd.R_reads' HO_6.out).2.2 | (with_reducible refine Kd.C_alloc ?_ _) | (with_reducible refine Kd.C_drewN ?_ _) | (with_reducible refine Kd.C_drew ?_))); (case side2 => exact (Kd.R_reads' HO_6.out).2.1); rintro e w' ⟨rfl, ⟨nd, rfl⟩⟩; (try first | exact ⟨rfl, _, World.drewN_drewN _ _ _⟩ | exact ⟨rfl, _, Eq.trans (World.drewN_drewN _ _ _) (congrArg (World.drewN _) (Nat.add_assoc _ _ _))⟩))))
        go_ret2
        exact ⟨_, by first | rfl | (simp [errW_none, errW_some] <;> rfl) | (simp [*, errW_none, errW_some] <;> rfl), by (with_reducible repeat (first | apply Kd.R_alloc | apply Kd.R_drewN | apply Kd.R_drew)); exact HO_6.out, by repeat (first | (with_reducible first | exact HB.out | apply below_alloc | apply pw_below_drewN | apply below_drew1) | exact HB.out)⟩
       ·
        rw [if_neg c28] at H
        have c28b0 : (t243 == 0) = false := beq_eq_false_iff_ne.mpr c28
        have c28b1 : (t243 != 0) = true := bne_iff_ne.mpr c28
        simp only [Option.some.injEq, Prod.mk.injEq] at H
        obtain ⟨rfl, rfl⟩ := H
        obtain ⟨Ao30, co30, eo30⟩ := Kd.R_slice HO_6.out
        subst eo30
        go_wp2_with (first | (go_at_call 14; (with_reducible refine (spileref16_Check.calls k2 _ _ x6_2 t242 t243 _ ?side1 ?side2 A27.out).mono ?_); (case side1 => repeat (first | exact (Kd.R_reads' HO_6.out).2.2 | (with_reducible refine Kd.C_alloc ?_ _) | (with_reducible refine Kd.C_drewN ?_ _) | (with_reducible refine Kd.C_drew ?_))); (case side2 => exact (Kd.R_reads' HO_6.out).2.1); rintro e w' ⟨rfl, ⟨nd, rfl⟩⟩; (try first | exact ⟨rfl, _, World.drewN_drewN _ _ _⟩ | exact ⟨rfl, _, Eq.trans (World.drewN_drewN _ _ _) (congrArg (World.drewN _) (Nat.add_assoc _ _ _))⟩)))
        repeat (go_quiet (first | (go_at_call 14; (with_reducible refine (spileref16_Check.calls k2 _ _ x6_2 t242 t243 _ ?side1 ?side2 A27.out).mono ?_); (case side1 => repeat (first | exact (Kd.R_reads' HO_6.out).2.2 | (with_reducible refine Kd.C_alloc ?_ _) | (with_reducible refine Kd.C_drewN ?_ _) | (with_reducible refine Kd.C_drew ?_))); (case side2 => exact (Kd.R_reads' HO_6.out).2.1); rintro e w' ⟨rfl, ⟨nd, rfl⟩⟩; (try first | exact ⟨rfl, _, World.drewN_drewN _ _ _⟩ | exact ⟨rfl, _, Eq.trans (World.drewN_drewN _ _ _) (congrArg (World.drewN _) (Nat.add_assoc _ _ _))⟩))); try go_wp2_with (first | (go_at_call 14; (with_reducible refine (spileref16_Check.calls k2 _ _ x6_2 t242 t243 _ ?side1 ?side2 A27.out).mono ?_); (case side1 => repeat (first | exact (Kd.R_reads' HO_6.out).2.2 | (with_reducible refine Kd.C_alloc ?_ _) | (with_reducible refine Kd.C_drewN ?_ _) | (with_reducible refine Kd.C_drew ?_))); (case side2 => exact (Kd.R_reads' HO_6.out).2.1); rintro e w' ⟨rfl, ⟨nd, rfl⟩⟩; (try first | exact ⟨rfl, _, World.drewN_drewN _ _ _⟩ | exact ⟨rfl, _, Eq.trans (World.drewN_drewN _ _ _) (congrArg (World.drewN _) (Nat.add_assoc _ _ _))⟩))))
        go_ret2
        exact ⟨_, by first | rfl | (simp [errW_none, errW_some] <;> rfl) | (simp [*, errW_none, errW_some] <;> rfl), by first | exact Kd.R_nil _ _ _ _ _ | exact Kd.N_nil _ _ _ _ _ | exact Kd.V_nil _ _ _ _ _ | exact Kd.Q_nil _ _ _ _ _ | exact Kd.S_nil _ _ _ _ _, by repeat (first | (with_reducible first | exact HB.out | apply below_alloc | apply pw_below_drewN | apply below_drew1) | exact HB.out)⟩
def spilelaw16_DensityMerges.j0 : Nat → List (S30) → List (S30) → Bool → Option (Bool)
 | 0, _, _, _ => none
 | k + 1, x0, x1, x18 => if x18 = true then (some true) else ((density_Merge.f k x0 x1).bind fun bt267 => ((spileref16_Merge.f k x0 x1).bind fun bt271 => ((spileref16_Same.f k bt267.1 bt271.1).bind fun t275 => (if t275 = true then (some (bt267.2 == bt271.2)) else (some false)))))
def spilelaw16_DensityMerges.f (k : Nat) (l0 : List (S30)) (l1 : List (S30)) : Option (Bool) := (spilelaw16_awake.f).bind fun t264 => (if t264 = true then ((spileref16_Few.f l0).bind fun t265 => (if t265 = true then ((spileref16_Few.f l1).bind fun t266 => (spilelaw16_DensityMerges.j0 k l0 l1 (!t266))) else (spilelaw16_DensityMerges.j0 k l0 l1 true))) else (some false))
set_option maxHeartbeats 8000000 in
set_option maxRecDepth 100000 in
theorem spilelaw16_DensityMerges.calls (k : Nat) (A0 : Option Addr) (c0 : Nat) (l0 : List (S30)) (A1 : Option Addr) (c1 : Nat) (l1 : List (S30)) (r : Bool) (w : World) (hr0 : Kd.C k30 w A0 l0.length l0) (hc0 : l0.length ≤ c0) (hr1 : Kd.C k30 w A1 l1.length l1) (hc1 : l1.length ≤ c1) (hG : GI w) (hr_ : r = true) (h : spilelaw16_DensityMerges.f k l0 l1 = some r) :
  Calls Tryd.prog 5 #[.slice A0 l0.length c0, .slice A1 l1.length c1] w fun e w' => e = .returned (.bool r) ∧ Below w.heap.size w w' := by
 have HR0 := Aside0.mk hr0
 have HC0 := Aside0.mk hc0
 clear hr0 hc0
 have HR1 := Aside0.mk hr1
 have HC1 := Aside0.mk hc1
 clear hr1 hc1
 have HG := Aside0.mk hG
 clear hG
 have HB := Aside0.mk (Below.refl w.heap.size w)
 have H : ((spilelaw16_awake.f).bind fun t264 => (if t264 = true then ((spileref16_Few.f l0).bind fun t265 => (if t265 = true then ((spileref16_Few.f l1).bind fun t266 => (spilelaw16_DensityMerges.j0 k l0 l1 (!t266))) else (spilelaw16_DensityMerges.j0 k l0 l1 true))) else (some false))) = some r := h
 clear h
 replace H := Option.bind_eq_some_iff.mp H
 obtain ⟨t264, A30, H⟩ := H
 replace H : (if t264 = true then ((spileref16_Few.f l0).bind fun t265 => (if t265 = true then ((spileref16_Few.f l1).bind fun t266 => (spilelaw16_DensityMerges.j0 k l0 l1 (!t266))) else (spilelaw16_DensityMerges.j0 k l0 l1 true))) else (some false)) = some r := H
 have A3 := Aside0.mk A30
 clear A30
 by_cases c4 : t264 = true
 ·
  subst c4
  have H1 : ((spileref16_Few.f l0).bind fun t265 => (if t265 = true then ((spileref16_Few.f l1).bind fun t266 => (spilelaw16_DensityMerges.j0 k l0 l1 (!t266))) else (spilelaw16_DensityMerges.j0 k l0 l1 true))) = some r := by rw [if_pos rfl] at H; exact H
  clear H
  have H := H1
  clear H1
  have HC5 := Aside0.mk H
  clear H
  go_enter Tryd.func5, Tryd.ntmps5
  go_upto_region 3 with (first | ((with_reducible refine gate_callee (f := 10) rfl ?_); refine goesL_ (some 9) rfl rfl Tryd.func10 (by kernel_rfl) rfl #[] rfl (by (try simp only [List.map_toArray, List.map_cons, List.map_nil]); first | done | rfl | (simp only [List.length_drop, List.length_take]; rfl)) ?_; (with_reducible refine (spilelaw16_awake.calls  true _ ?side1 A3.out).mono ?_); (case side1 => exact GI.below HG.out (by repeat (first | (with_reducible first | exact HB.out | apply below_alloc | apply pw_below_drewN | apply below_drew1) | exact HB.out))); rintro e w6 ⟨rfl, hb⟩; refine ⟨_, rfl, ?_⟩; have n0_ := Aside0.mk (below_step (by repeat (first | (with_reducible first | exact HB.out | apply below_alloc | apply pw_below_drewN | apply below_drew1) | exact HB.out)) hb); clear HB; have HB := n0_; clear n0_; (try clear hb); (try clear hb2); (try clear hk); (try clear hi)))
  (try simp only [Act.put, List.setIfInBounds_toArray, List.set_cons_zero, List.set_cons_succ])
  go_cut [18] (fun v18 wc => ∃ (kq : Nat) (x18_4 : Bool), v18 = .bool x18_4 ∧ Aside0 (spilelaw16_DensityMerges.j0 kq l0 l1 x18_4 = some r) ∧ Aside0 (kq ≤ k) ∧ Aside0 (Below w.heap.size w wc))
  case first =>
   have H := HC5.out
   clear HC5
   replace H := Option.bind_eq_some_iff.mp H
   obtain ⟨t265, A70, H⟩ := H
   replace H : (if t265 = true then ((spileref16_Few.f l1).bind fun t266 => (spilelaw16_DensityMerges.j0 k l0 l1 (!t266))) else (spilelaw16_DensityMerges.j0 k l0 l1 true)) = some r := H
   have A7 := Aside0.mk A70
   clear A70
   by_cases c8 : t265 = true
   ·
    subst c8
    have H1 : ((spileref16_Few.f l1).bind fun t266 => (spilelaw16_DensityMerges.j0 k l0 l1 (!t266))) = some r := by rw [if_pos rfl] at H; exact H
    clear H
    have H := H1
    clear H1
    replace H := Option.bind_eq_some_iff.mp H
    obtain ⟨t266, A90, H⟩ := H
    replace H : (spilelaw16_DensityMerges.j0 k l0 l1 (!t266)) = some r := H
    have A9 := Aside0.mk A90
    clear A90
    have H' := Aside0.mk H
    clear H
    go_wp2_with (first | ((with_reducible refine gate_callee (f := 11) rfl ?_); refine goesL_ (some 12) rfl rfl Tryd.func11 (by kernel_rfl) rfl #[.slice A0 l0.length c0] rfl (by (try simp only [List.map_toArray, List.map_cons, List.map_nil]); first | done | rfl | (simp only [List.length_drop, List.length_take]; rfl)) ?_; (with_reducible refine (spileref16_Few.calls _ _ l0 true _ ?side1 ?side2 A7.out).mono ?_); (case side1 => repeat (first | exact (Kd.C_below HR0.out HB.out) | (with_reducible refine Kd.C_alloc ?_ _) | (with_reducible refine Kd.C_drewN ?_ _) | (with_reducible refine Kd.C_drew ?_))); (case side2 => exact HC0.out); rintro e w' ⟨rfl, ⟨nd, rfl⟩⟩; refine ⟨_, rfl, ?_⟩) | (go_at_call 11; (with_reducible refine (spileref16_Few.calls _ _ l1 t266 _ ?side1 ?side2 A9.out).mono ?_); (case side1 => repeat (first | exact (Kd.C_below HR1.out (by repeat (first | (with_reducible first | exact HB.out | apply below_alloc | apply pw_below_drewN | apply below_drew1) | exact HB.out))) | (with_reducible refine Kd.C_alloc ?_ _) | (with_reducible refine Kd.C_drewN ?_ _) | (with_reducible refine Kd.C_drew ?_))); (case side2 => exact HC1.out); rintro e w' ⟨rfl, ⟨nd, rfl⟩⟩))
    go_meet
    case rel => exact ⟨_, (!t266), (by first | rfl | (simp; done) | (simp [*]; done)), H', ⟨by first | omega | exact Nat.le_refl _⟩, ⟨by repeat (first | (with_reducible first | exact HB.out | apply below_alloc | apply pw_below_drewN | apply below_drew1) | exact HB.out)⟩⟩
   ·
    replace c8 := Bool.eq_false_iff.mpr c8
    subst c8
    have H1 : (spilelaw16_DensityMerges.j0 k l0 l1 true) = some r := by rw [if_neg (show ¬ (false = true) by decide)] at H; exact H
    clear H
    have H := H1
    clear H1
    have H' := Aside0.mk H
    clear H
    go_wp2_with (first | ((with_reducible refine gate_callee (f := 11) rfl ?_); refine goesL_ (some 12) rfl rfl Tryd.func11 (by kernel_rfl) rfl #[.slice A0 l0.length c0] rfl (by (try simp only [List.map_toArray, List.map_cons, List.map_nil]); first | done | rfl | (simp only [List.length_drop, List.length_take]; rfl)) ?_; (with_reducible refine (spileref16_Few.calls _ _ l0 false _ ?side1 ?side2 A7.out).mono ?_); (case side1 => repeat (first | exact (Kd.C_below HR0.out HB.out) | (with_reducible refine Kd.C_alloc ?_ _) | (with_reducible refine Kd.C_drewN ?_ _) | (with_reducible refine Kd.C_drew ?_))); (case side2 => exact HC0.out); rintro e w' ⟨rfl, ⟨nd, rfl⟩⟩; refine ⟨_, rfl, ?_⟩))
    go_meet
    case rel => exact ⟨_, (true), (by first | rfl | (simp; done) | (simp [*]; done)), H', ⟨by first | omega | exact Nat.le_refl _⟩, ⟨by repeat (first | (with_reducible first | exact HB.out | apply below_alloc | apply pw_below_drewN | apply below_drew1) | exact HB.out)⟩⟩
  case rest =>
   clear HC5
   try clear c1
   try clear p2
   try clear c4
   try clear c5
   try clear c8
   obtain ⟨kq, x18_4, rfl, HA, HJ4, HB⟩ := hcut
   cases kq with
   | zero => exact absurd HA.out (by simp [spilelaw16_DensityMerges.j0])
   | succ kj4 =>
    have H := HA.out
    clear HA
    simp only [spilelaw16_DensityMerges.j0] at H
    by_cases c10 : x18_4 = true
    ·
     subst c10
     have H1 : (some true) = some r := by rw [if_pos rfl] at H; exact H
     clear H
     have H := H1
     clear H1
     obtain rfl := Option.some.inj H
     go_wp2
     go_ret
     exact ⟨by first | rfl | (simp [errW_none, errW_some] <;> rfl) | (simp [*, errW_none, errW_some] <;> rfl), by repeat (first | (with_reducible first | exact HB.out | apply below_alloc | apply pw_below_drewN | apply below_drew1) | exact HB.out)⟩
    ·
     replace c10 := Bool.eq_false_iff.mpr c10
     subst c10
     have H1 : ((density_Merge.f kj4 l0 l1).bind fun bt267 => ((spileref16_Merge.f kj4 l0 l1).bind fun bt271 => ((spileref16_Same.f kj4 bt267.1 bt271.1).bind fun t275 => (if t275 = true then (some (bt267.2 == bt271.2)) else (some false))))) = some r := by rw [if_neg (show ¬ (false = true) by decide)] at H; exact H
     clear H
     have H := H1
     clear H1
     replace H := Option.bind_eq_some_iff.mp H
     obtain ⟨⟨t267, t270⟩, A110, H⟩ := H
     replace H : ((spileref16_Merge.f kj4 l0 l1).bind fun bt271 => ((spileref16_Same.f kj4 t267 bt271.1).bind fun t275 => (if t275 = true then (some (t270 == bt271.2)) else (some false)))) = some r := H
     have A11 := Aside0.mk A110
     clear A110
     replace H := Option.bind_eq_some_iff.mp H
     obtain ⟨⟨t271, t272⟩, A120, H⟩ := H
     replace H : ((spileref16_Same.f kj4 t267 t271).bind fun t275 => (if t275 = true then (some (t270 == t272)) else (some false))) = some r := H
     have A12 := Aside0.mk A120
     clear A120
     replace H := Option.bind_eq_some_iff.mp H
     obtain ⟨t275, A130, H⟩ := H
     replace H : (if t275 = true then (some (t270 == t272)) else (some false)) = some r := H
     have A13 := Aside0.mk A130
     clear A130
     by_cases c14 : t275 = true
     ·
      subst c14
      have H1 : (some (t270 == t272)) = some r := by rw [if_pos rfl] at H; exact H
      clear H
      have H := H1
      clear H1
      obtain rfl := Option.some.inj H
      go_wp2_with (first | ((with_reducible refine gate_callee (f := 20) rfl ?_); refine goesL_ (some 22) rfl rfl Tryd.func20 (by kernel_rfl) rfl #[.slice A0 l0.length c0, .slice A1 l1.length c1] rfl (by (try simp only [List.map_toArray, List.map_cons, List.map_nil]); first | done | rfl | (simp only [List.length_drop, List.length_take]; rfl)) ?_; (with_reducible refine (density_Merge.calls kj4 (fun k_ => k_ < w.heap.size) _ _ l0 (fun k_ => k_ < w.heap.size) _ _ l1 t267 t270 _ ?side1 ?side2 A11.out).mono ?_); (case side1 => exact Kd.V_mk HC0.out (Kd.F_below (Kd.C_F k30_heap HR0.out) (by repeat (first | (with_reducible first | exact HB.out | apply below_alloc | apply pw_below_drewN | apply below_drew1) | exact HB.out)))); (case side2 => exact Kd.V_mk HC1.out (Kd.F_below (Kd.C_F k30_heap HR1.out) (by repeat (first | (with_reducible first | exact HB.out | apply below_alloc | apply pw_below_drewN | apply below_drew1) | exact HB.out)))); rintro e w15 ⟨v268, rfl, ho0, hb⟩; refine ⟨_, rfl, ?_⟩; have n0_ := Aside0.mk (Kd.R_lower (Kd.R_mono (ok' := fun k_ => True) ho0 (fun _ hk_ => trivial)) (below_size (by repeat (first | (with_reducible first | exact HB.out | apply below_alloc | apply pw_below_drewN | apply below_drew1) | exact HB.out)))); have n1_ := Aside0.mk (below_step (by repeat (first | (with_reducible first | exact HB.out | apply below_alloc | apply pw_below_drewN | apply below_drew1) | exact HB.out)) hb); clear HB; have HO269 := n0_; have HB := n1_; clear n0_ n1_; (try clear hb); (try clear hb2); (try clear hk); (try clear hi); (try clear ho0)) | ((with_reducible refine gate_callee (f := 21) rfl ?_); refine goesL_ (some 28) rfl rfl Tryd.func21 (by kernel_rfl) rfl #[.slice A0 l0.length c0, .slice A1 l1.length c1] rfl (by (try simp only [List.map_toArray, List.map_cons, List.map_nil]); first | done | rfl | (simp only [List.length_drop, List.length_take]; rfl)) ?_; (with_reducible refine (spileref16_Merge.calls kj4 _ _ l0 _ _ l1 t271 t272 _ ?side1 ?side2 ?side3 ?side4 A12.out).mono ?_); (case side1 => repeat (first | exact (Kd.C_below HR0.out HB.out) | (with_reducible refine Kd.C_alloc ?_ _) | (with_reducible refine Kd.C_drewN ?_ _) | (with_reducible refine Kd.C_drew ?_))); (case side2 => exact HC0.out); (case side3 => repeat (first | exact (Kd.C_below HR1.out HB.out) | (with_reducible refine Kd.C_alloc ?_ _) | (with_reducible refine Kd.C_drewN ?_ _) | (with_reducible refine Kd.C_drew ?_))); (case side4 => exact HC1.out); rintro e w16 ⟨v273, rfl, ho0, hb⟩; refine ⟨_, rfl, ?_⟩; have n0_ := Aside0.mk (Kd.R_elder' (by (with_reducible repeat (first | apply Kd.R_alloc | apply Kd.R_drewN | apply Kd.R_drew)); exact HO269.out) (Kd.R_base ho0) hb); have n1_ := Aside0.mk (Kd.R_lower (Kd.R_new' ho0 (Kd.R_lt (by (with_reducible repeat (first | apply Kd.R_alloc | apply Kd.R_drewN | apply Kd.R_drew)); exact HO269.out))) (below_size (by repeat (first | (with_reducible first | exact HB.out | apply below_alloc | apply pw_below_drewN | apply below_drew1) | exact HB.out)))); have n2_ := Aside0.mk (below_step (by repeat (first | (with_reducible first | exact HB.out | apply below_alloc | apply pw_below_drewN | apply below_drew1) | exact HB.out)) hb); clear HO269; clear HB; have HO269 := n0_; have HO274 := n1_; have HB := n2_; clear n0_ n1_ n2_; (try clear hb); (try clear hb2); (try clear hk); (try clear hi); (try clear ho0); obtain ⟨Ao17, co17, eo17⟩ := Kd.R_slice HO269.out; subst eo17; obtain ⟨Ao18, co18, eo18⟩ := Kd.R_slice HO274.out; subst eo18) | ((with_reducible refine gate_callee (f := 19) rfl ?_); refine goesL_ (some 33) rfl rfl Tryd.func19 (by kernel_rfl) rfl #[.slice Ao17 t267.length co17, .slice Ao18 t271.length co18] rfl (by (try simp only [List.map_toArray, List.map_cons, List.map_nil]); first | done | rfl | (simp only [List.length_drop, List.length_take]; rfl)) ?_; (with_reducible refine (spileref16_Same.calls kj4 _ _ t267 _ _ t271 true _ ?side1 ?side2 ?side3 ?side4 A13.out).mono ?_); (case side1 => repeat (first | exact (Kd.R_reads' HO269.out).2.2 | (with_reducible refine Kd.C_alloc ?_ _) | (with_reducible refine Kd.C_drewN ?_ _) | (with_reducible refine Kd.C_drew ?_))); (case side2 => exact (Kd.R_reads' HO269.out).2.1); (case side3 => repeat (first | exact (Kd.R_reads' HO274.out).2.2 | (with_reducible refine Kd.C_alloc ?_ _) | (with_reducible refine Kd.C_drewN ?_ _) | (with_reducible refine Kd.C_drew ?_))); (case side4 => exact (Kd.R_reads' HO274.out).2.1); rintro e w' ⟨rfl, ⟨nd, rfl⟩⟩; refine ⟨_, rfl, ?_⟩))
      go_ret
      exact ⟨by first | rfl | (simp [errW_none, errW_some] <;> rfl) | (simp [*, errW_none, errW_some] <;> rfl), by repeat (first | (with_reducible first | exact HB.out | apply below_alloc | apply pw_below_drewN | apply below_drew1) | exact HB.out)⟩
     ·
      replace c14 := Bool.eq_false_iff.mpr c14
      subst c14
      have H1 : (some false) = some r := by rw [if_neg (show ¬ (false = true) by decide)] at H; exact H
      clear H
      have H := H1
      clear H1
      subst hr_
      exact absurd H (by simp)
 ·
  replace c4 := Bool.eq_false_iff.mpr c4
  subst c4
  have H1 : (some false) = some r := by rw [if_neg (show ¬ (false = true) by decide)] at H; exact H
  clear H
  have H := H1
  clear H1
  subst hr_
  exact absurd H (by simp)
end Go.Proofs.YtoofoicocfnfoaaDoor.Pr
namespace Go.Proofs.YtoofoicocfnfoaaDoor.Opn
open Go Go.RowKit Go.Proofs.YtoofoicocfnfoaaDoorW.PrintWords Go.Proofs.YtoofoicocfnfoaaDoor.O Go.Proofs.YtoofoicocfnfoaaDoor.Pr
theorem opens3 : Opens Tryd.prog 3 (Kd.int .i64) (fun x => (Lit.int .i64 x).wf = true) := opens_int Tryd.underlying3 (by kernel_rfl)
def ok30 (x : S30) : Prop := (Lit.int .i64 x.f0).wf = true ∧ (Lit.int .i64 x.f1).wf = true
theorem opens30 : Opens Tryd.prog 30 k30 ok30 :=
  ⟨by kernel_rfl, fun H enc w base sp held fuel cs x h => by
    obtain ⟨xs, n, _, _, hl, hx, hf⟩ := DataW.trod_struct Tryd.underlying30 h
    have hc_ : Tryd.prog.cellsOf 30 = 2 := by kernel_rfl
    rw [hc_] at hl
    obtain ⟨c0, c1, rfl⟩ : ∃ c0 c1, cs = [c0, c1] := by
      clear h hf hx
      rcases cs with _ | ⟨c0, _ | ⟨c1, _ | ⟨_, _⟩⟩⟩
      all_goals first | exact ⟨_, _, rfl⟩ | (simp at hl)
    obtain ⟨y0, hy0⟩ : ∃ y, xs[0]? = some y := ⟨xs[0]'(by rw [hx]; decide), List.getElem?_eq_getElem _⟩
    have e0 : DataW.trod enc Tryd.prog w base sp held n 3 ((List.drop 0 [c0, c1]).take (Tryd.prog.cellsOf 3)) = xs[0]? := hf 0 _ rfl
    rw [hy0, show Tryd.prog.cellsOf 3 = 1 from by kernel_rfl] at e0
    obtain ⟨v0, K0, o0⟩ := opens3.2 H enc w base sp held n _ _ e0
    replace K0 : (Kd.int .i64).K w v0 [c0] := K0
    obtain ⟨y1, hy1⟩ : ∃ y, xs[1]? = some y := ⟨xs[1]'(by rw [hx]; decide), List.getElem?_eq_getElem _⟩
    have e1 : DataW.trod enc Tryd.prog w base sp held n 3 ((List.drop 1 [c0, c1]).take (Tryd.prog.cellsOf 3)) = xs[1]? := hf 1 _ rfl
    rw [hy1, show Tryd.prog.cellsOf 3 = 1 from by kernel_rfl] at e1
    obtain ⟨v1, K1, o1⟩ := opens3.2 H enc w base sp held n _ _ e1
    replace K1 : (Kd.int .i64).K w v1 [c1] := K1
    obtain rfl : c0 = _ := List.singleton_inj.1 K0
    obtain rfl : c1 = _ := List.singleton_inj.1 K1
    refine ⟨⟨v0, v1⟩, ?_, o0, o1⟩
    exact k30_mk w ⟨v0, v1⟩ ⟩
theorem opens22 : Opens Tryd.prog 22 (Kd.slice 30 k30) (fun x => (x.length ≤ maxLen ∧ ∀ x0_, x0_ ∈ x → ok30 x0_)) := opens_slice (P := Tryd.prog) (t := 22) (e := 30) Tryd.underlying22 (by kernel_rfl) opens30
end Go.Proofs.YtoofoicocfnfoaaDoor.Opn
namespace Go.Proofs.YtoofoicocfnfoaaDoor.Pure
open Go Go.RowKit Go.Proofs.YtoofoicocfnfoaaDoor.Pr Go.Proofs.YtoofoicocfnfoaaDoor.Opn
def densityMergesPure : Prop := ∀ (l0 : (List S30)) (l1 : (List S30)), (l0.length ≤ maxLen ∧ ∀ x0_, x0_ ∈ l0 → ok30 x0_) → (l1.length ≤ maxLen ∧ ∀ x0_, x0_ ∈ l1 → ok30 x0_) → ∃ k, spilelaw16_DensityMerges.f k l0 l1 = some true
end Go.Proofs.YtoofoicocfnfoaaDoor.Pure
namespace Go.Proofs.YtoofoicocfnfoaaDoor.PL
open Go Go.RowKit Go.Proofs.YtoofoicocfnfoaaDoorW.PrintWords Go.Proofs.YtoofoicocfnfoaaDoorW.PrintLast Go.Proofs.YtoofoicocfnfoaaDoorW.PrintMore
theorem evp {α : Type} {c : Prop} [Decidable c] {g h : Nat → Option α} {r : α} (hc : c) (k : Ev g r) : Ev (fun n => if c then g n else h n) r :=
  Ev.congr (fun n => if_pos hc) k
theorem evn {α : Type} {c : Prop} [Decidable c] {g h : Nat → Option α} {r : α} (hc : ¬ c) (k : Ev h r) : Ev (fun n => if c then g n else h n) r :=
  Ev.congr (fun n => if_neg hc) k
theorem evb {α β : Type} {g : Nat → Option α} {f : Nat → α → Option β} {a : α} {r : β} (h : Ev g a) (k : Ev (fun n => f n a) r) : Ev (fun n => (g n).bind (f n)) r := Ev.bind h k
theorem evr {α : Type} {a r : α} (h : a = r) : Ev (fun _ => some a) r := by subst h; exact Ev.now _
theorem evc {α : Type} {g : Nat → Option α} {r : α} {o : Option α} (hg : ∀ n, g n = o) (h : o = some r) : Ev g r := by
  subst h
  exact Ev.congr hg (Ev.now _)
/-- A loop that counts upwards to n. -/
theorem count_up (a n : Int) (P : Int → Prop) (hend : P n) (hround : ∀ i, a ≤ i → i < n → P (i + 1) → P i) : ∀ i, a ≤ i → i ≤ n → P i := by
  intro i h0 h1
  obtain ⟨d, hd⟩ : ∃ d : Nat, n - i = d := ⟨(n - i).toNat, by omega⟩
  induction d generalizing i with
  | zero =>
    obtain rfl : i = n := by omega
    exact hend
  | succ d ih => exact hround i h0 (by omega) (ih (i + 1) (by omega) (by omega) (by omega))
theorem w64 {x : Int} (h0 : -9223372036854775808 ≤ x) (h1 : x ≤ 9223372036854775807) : wrap64 x = x := by
  unfold wrap64
  omega
theorem w64_succ {i n : Int} (h0 : 0 ≤ i) (h : i < n) (hn : n ≤ 9223372036854775807) : wrap64 (i + 1) = i + 1 := w64 (by omega) (by omega)
theorem w64_pred {i n : Int} (h0 : 0 ≤ i) (h : i ≤ n) (hn : n ≤ 9223372036854775807) : wrap64 (i - 1) = i - 1 := w64 (by omega) (by omega)
theorem len_le {α : Type} {l : List α} (h : l.length ≤ maxLen) : (l.length : Int) ≤ 9223372036854775807 := by
  have : l.length ≤ 9223372036854775807 := by simpa [maxLen] using h
  omega
/-- A test that comes to true where P holds, and else to false. -/
def EvB (g : Nat → Option Bool) (P : Prop) : Prop := (P → Ev g true) ∧ (¬ P → Ev g false)
theorem EvB.map {g : Nat → Option Bool} {f : Nat → Bool → Option Bool} {P Q : Prop} (h : EvB g P) (ht : P → EvB (fun n => f n true) Q) (hf : ¬ P → EvB (fun n => f n false) Q) : EvB (fun n => (g n).bind (f n)) Q := by
  by_cases hp : P
  · exact ⟨fun q => Ev.bind (h.1 hp) ((ht hp).1 q), fun q => Ev.bind (h.1 hp) ((ht hp).2 q)⟩
  · exact ⟨fun q => Ev.bind (h.2 hp) ((hf hp).1 q), fun q => Ev.bind (h.2 hp) ((hf hp).2 q)⟩
end Go.Proofs.YtoofoicocfnfoaaDoor.PL
namespace Go.Proofs.YtoofoicocfnfoaaDoor.PL
open Go Go.RowKit Go.Proofs.YtoofoicocfnfoaaDoorW.PrintWords Go.Proofs.YtoofoicocfnfoaaDoorW.PrintLast Go.Proofs.YtoofoicocfnfoaaDoorW.PrintMore Go.Proofs.YtoofoicocfnfoaaDoor.Pr Go.Proofs.YtoofoicocfnfoaaDoor.Opn
/-- A row's fault. -/
def flt (l : List S30) (i : Int) : Int :=
  if (rd_T30 l i).f0 < 0 ∨ (rd_T30 l i).f0 > 10000 ∨ (rd_T30 l i).f1 < 50000 ∨ (rd_T30 l i).f1 > 120000 then 2
  else if i > 0 ∧ (rd_T30 l i).f0 ≤ (rd_T30 l (i - 1)).f0 then 5
  else if i > 0 ∧ (rd_T30 l i).f1 > (rd_T30 l (i - 1)).f1 then 18 else 0
theorem flt_cases (l : List S30) (i : Int) : (((rd_T30 l i).f0 < 0 ∨ (rd_T30 l i).f0 > 10000 ∨ (rd_T30 l i).f1 < 50000 ∨ (rd_T30 l i).f1 > 120000) ∧ flt l i = 2) ∨
    ((0 ≤ (rd_T30 l i).f0 ∧ (rd_T30 l i).f0 ≤ 10000 ∧ 50000 ≤ (rd_T30 l i).f1 ∧ (rd_T30 l i).f1 ≤ 120000) ∧
      ((i > 0 ∧ (rd_T30 l i).f0 ≤ (rd_T30 l (i - 1)).f0 ∧ flt l i = 5) ∨ (i > 0 ∧ (rd_T30 l (i - 1)).f0 < (rd_T30 l i).f0 ∧ (rd_T30 l i).f1 > (rd_T30 l (i - 1)).f1 ∧ flt l i = 18) ∨
       (flt l i = 0 ∧ (i > 0 → (rd_T30 l (i - 1)).f0 < (rd_T30 l i).f0 ∧ (rd_T30 l i).f1 ≤ (rd_T30 l (i - 1)).f1)))) := by
  unfold flt
  split
  · exact .inl ⟨by assumption, rfl⟩
  · split
    · exact .inr ⟨by omega, .inl ⟨by omega, by omega, rfl⟩⟩
    · split
      · exact .inr ⟨by omega, .inr (.inl ⟨by omega, by omega, by omega, rfl⟩)⟩
      · exact .inr ⟨by omega, .inr (.inr ⟨rfl, by omega⟩)⟩
theorem fault_ev (l : List S30) (hl : (l.length : Int) ≤ 9223372036854775807) (i : Int) (h0 : 0 ≤ i) (h1 : i < (l.length : Int)) : Ev (fun k => density_fault.f k l i) (flt l i) := by
  have hp := w64_pred h0 (Int.le_of_lt h1) hl
  unfold density_fault.f
  rcases flt_cases l i with ⟨a, e⟩ | ⟨a, ⟨b, c, e⟩ | ⟨b, c, d, e⟩ | ⟨e, b⟩⟩ <;> rw [e]
  · by_cases c1 : (rd_T30 l i).f0 < 0
    · (repeat' first | assumption | exact Ev.now _ | exact evr rfl | refine evp (by first | omega | exact rfl | assumption | decide | (simp only [decide_eq_true_eq]; omega) | (simp; done) | (simp; omega)) ?_ | refine evn (by first | omega | assumption | decide | (simp only [decide_eq_true_eq]; omega) | (simp; done) | (simp; omega)) ?_ | refine Ev.step (fun k => density_fault.j0.eq_2 ..) ?_)
    · by_cases c2 : (rd_T30 l i).f0 > 10000
      · (repeat' first | assumption | exact Ev.now _ | exact evr rfl | refine evp (by first | omega | exact rfl | assumption | decide | (simp only [decide_eq_true_eq]; omega) | (simp; done) | (simp; omega)) ?_ | refine evn (by first | omega | assumption | decide | (simp only [decide_eq_true_eq]; omega) | (simp; done) | (simp; omega)) ?_ | refine Ev.step (fun k => density_fault.j0.eq_2 ..) ?_)
      · by_cases c3 : (rd_T30 l i).f1 < 50000
        · (repeat' first | assumption | exact Ev.now _ | exact evr rfl | refine evp (by first | omega | exact rfl | assumption | decide | (simp only [decide_eq_true_eq]; omega) | (simp; done) | (simp; omega)) ?_ | refine evn (by first | omega | assumption | decide | (simp only [decide_eq_true_eq]; omega) | (simp; done) | (simp; omega)) ?_ | refine Ev.step (fun k => density_fault.j0.eq_2 ..) ?_)
        · (repeat' first | assumption | exact Ev.now _ | exact evr rfl | refine evp (by first | omega | exact rfl | assumption | decide | (simp only [decide_eq_true_eq]; omega) | (simp; done) | (simp; omega)) ?_ | refine evn (by first | omega | assumption | decide | (simp only [decide_eq_true_eq]; omega) | (simp; done) | (simp; omega)) ?_ | refine Ev.step (fun k => density_fault.j0.eq_2 ..) ?_)
  · refine evp h0 (evp h1 (evn (by omega) (evn (by omega) (evn (by omega) (Ev.step (fun k => density_fault.j0.eq_2 ..) ?_)))))
    rw [hp]
    (repeat' first | assumption | exact Ev.now _ | exact evr rfl | refine evp (by first | omega | exact rfl | assumption | decide | (simp only [decide_eq_true_eq]; omega) | (simp; done) | (simp; omega)) ?_ | refine evn (by first | omega | assumption | decide | (simp only [decide_eq_true_eq]; omega) | (simp; done) | (simp; omega)) ?_ | refine Ev.step (fun k => density_fault.j1.eq_2 ..) ?_)
  · refine evp h0 (evp h1 (evn (by omega) (evn (by omega) (evn (by omega) (Ev.step (fun k => density_fault.j0.eq_2 ..) ?_)))))
    rw [hp]
    refine evn (by simp; omega) (evp b (evp (by omega) (evp (by omega) (Ev.step (fun k => density_fault.j1.eq_2 ..) ?_))))
    rw [hp]
    (repeat' first | assumption | exact Ev.now _ | exact evr rfl | refine evp (by first | omega | exact rfl | assumption | decide | (simp only [decide_eq_true_eq]; omega) | (simp; done) | (simp; omega)) ?_ | refine evn (by first | omega | assumption | decide | (simp only [decide_eq_true_eq]; omega) | (simp; done) | (simp; omega)) ?_ | refine Ev.step (fun k => density_fault.j1.eq_2 ..) ?_)
  · refine evp h0 (evp h1 (evn (by omega) (evn (by omega) (evn (by omega) (Ev.step (fun k => density_fault.j0.eq_2 ..) ?_)))))
    rw [hp]
    by_cases c : i > 0
    · obtain ⟨b1, b2⟩ := b c
      refine evn (by simp; omega) (evp c (evp (by omega) (evp (by omega) (Ev.step (fun k => density_fault.j1.eq_2 ..) ?_))))
      rw [hp]
      (repeat' first | assumption | exact Ev.now _ | exact evr rfl | refine evp (by first | omega | exact rfl | assumption | decide | (simp only [decide_eq_true_eq]; omega) | (simp; done) | (simp; omega)) ?_ | refine evn (by first | omega | assumption | decide | (simp only [decide_eq_true_eq]; omega) | (simp; done) | (simp; omega)) ?_ | refine Ev.step (fun k => density_fault.j1.eq_2 ..) ?_)
    · (repeat' first | assumption | exact Ev.now _ | exact evr rfl | refine evp (by first | omega | exact rfl | assumption | decide | (simp only [decide_eq_true_eq]; omega) | (simp; done) | (simp; omega)) ?_ | refine evn (by first | omega | assumption | decide | (simp only [decide_eq_true_eq]; omega) | (simp; done) | (simp; omega)) ?_ | refine Ev.step (fun k => density_fault.j1.eq_2 ..) ?_)
theorem ref_one (l : List S30) (hl : (l.length : Int) ≤ 9223372036854775807) (i : Int) (h0 : 0 ≤ i) (h1 : i < (l.length : Int)) :
    (flt l i ≠ 0 → Ev (fun k => spileref16_Check.l0 k l i) (i, flt l i)) ∧ (flt l i = 0 → ∀ r, Ev (fun k => spileref16_Check.l0 k l (i + 1)) r → Ev (fun k => spileref16_Check.l0 k l i) r) := by
  have hp := w64_pred h0 (Int.le_of_lt h1) hl
  have hs := w64_succ h0 h1 hl
  rcases flt_cases l i with ⟨a, e⟩ | ⟨a, ⟨b, c, e⟩ | ⟨b, c, d, e⟩ | ⟨e, b⟩⟩ <;> rw [e]
  · refine ⟨fun _ => ?_, fun h => absurd h (by decide)⟩
    by_cases c1 : (rd_T30 l i).f0 < 0
    · refine Ev.step (fun k => spileref16_Check.l0.eq_2 ..) ?_
      (repeat' first | assumption | exact Ev.now _ | exact evr rfl | refine evp (by first | omega | exact rfl | assumption | decide | (simp only [decide_eq_true_eq]; omega) | (simp; done) | (simp; omega)) ?_ | refine evn (by first | omega | assumption | decide | (simp only [decide_eq_true_eq]; omega) | (simp; done) | (simp; omega)) ?_ | refine Ev.step (fun k => spileref16_Check.j1.eq_2 ..) ?_)
    · by_cases c2 : (rd_T30 l i).f0 > 10000
      · refine Ev.step (fun k => spileref16_Check.l0.eq_2 ..) ?_
        (repeat' first | assumption | exact Ev.now _ | exact evr rfl | refine evp (by first | omega | exact rfl | assumption | decide | (simp only [decide_eq_true_eq]; omega) | (simp; done) | (simp; omega)) ?_ | refine evn (by first | omega | assumption | decide | (simp only [decide_eq_true_eq]; omega) | (simp; done) | (simp; omega)) ?_ | refine Ev.step (fun k => spileref16_Check.j1.eq_2 ..) ?_)
      · by_cases c3 : (rd_T30 l i).f1 < 50000
        · refine Ev.step (fun k => spileref16_Check.l0.eq_2 ..) ?_
          (repeat' first | assumption | exact Ev.now _ | exact evr rfl | refine evp (by first | omega | exact rfl | assumption | decide | (simp only [decide_eq_true_eq]; omega) | (simp; done) | (simp; omega)) ?_ | refine evn (by first | omega | assumption | decide | (simp only [decide_eq_true_eq]; omega) | (simp; done) | (simp; omega)) ?_ | refine Ev.step (fun k => spileref16_Check.j1.eq_2 ..) ?_)
        · refine Ev.step (fun k => spileref16_Check.l0.eq_2 ..) ?_
          (repeat' first | assumption | exact Ev.now _ | exact evr rfl | refine evp (by first | omega | exact rfl | assumption | decide | (simp only [decide_eq_true_eq]; omega) | (simp; done) | (simp; omega)) ?_ | refine evn (by first | omega | assumption | decide | (simp only [decide_eq_true_eq]; omega) | (simp; done) | (simp; omega)) ?_ | refine Ev.step (fun k => spileref16_Check.j1.eq_2 ..) ?_)
  · refine ⟨fun _ => ?_, fun h => absurd h (by decide)⟩
    refine Ev.step (fun k => spileref16_Check.l0.eq_2 ..) (evp h1 (evp h0 (evn (by omega) (evn (by omega) (evn (by omega) (Ev.step (fun k => spileref16_Check.j1.eq_2 ..) ?_))))))
    rw [hp]
    (repeat' first | assumption | exact Ev.now _ | exact evr rfl | refine evp (by first | omega | exact rfl | assumption | decide | (simp only [decide_eq_true_eq]; omega) | (simp; done) | (simp; omega)) ?_ | refine evn (by first | omega | assumption | decide | (simp only [decide_eq_true_eq]; omega) | (simp; done) | (simp; omega)) ?_ | refine Ev.step (fun k => spileref16_Check.j2.eq_2 ..) ?_)
  · refine ⟨fun _ => ?_, fun h => absurd h (by decide)⟩
    refine Ev.step (fun k => spileref16_Check.l0.eq_2 ..) (evp h1 (evp h0 (evn (by omega) (evn (by omega) (evn (by omega) (Ev.step (fun k => spileref16_Check.j1.eq_2 ..) ?_))))))
    rw [hp]
    refine evn (by simp; omega) (evp b (evp h0 (evp h1 (evp (by omega) (evp (by omega) (Ev.step (fun k => spileref16_Check.j2.eq_2 ..) ?_))))))
    rw [hp]
    (repeat' first | assumption | exact Ev.now _ | exact evr rfl | refine evp (by first | omega | exact rfl | assumption | decide | (simp only [decide_eq_true_eq]; omega) | (simp; done) | (simp; omega)) ?_ | refine evn (by first | omega | assumption | decide | (simp only [decide_eq_true_eq]; omega) | (simp; done) | (simp; omega)) ?_)
  · refine ⟨fun h => absurd rfl h, fun _ r hr => ?_⟩
    refine Ev.step (fun k => spileref16_Check.l0.eq_2 ..) (evp h1 (evp h0 (evn (by omega) (evn (by omega) (evn (by omega) (Ev.step (fun k => spileref16_Check.j1.eq_2 ..) ?_))))))
    rw [hp]
    by_cases c : i > 0
    · obtain ⟨b1, b2⟩ := b c
      refine evn (by simp; omega) (evp c (evp h0 (evp h1 (evp (by omega) (evp (by omega) (Ev.step (fun k => spileref16_Check.j2.eq_2 ..) ?_))))))
      rw [hp, hs]
      (repeat' first | assumption | exact Ev.now _ | exact evr rfl | refine evp (by first | omega | exact rfl | assumption | decide | (simp only [decide_eq_true_eq]; omega) | (simp; done) | (simp; omega)) ?_ | refine evn (by first | omega | assumption | decide | (simp only [decide_eq_true_eq]; omega) | (simp; done) | (simp; omega)) ?_)
    · refine evn (by simp; omega) (evn c (Ev.step (fun k => spileref16_Check.j2.eq_2 ..) ?_))
      rw [hs]
      (repeat' first | assumption | exact Ev.now _ | exact evr rfl | refine evp (by first | omega | exact rfl | assumption | decide | (simp only [decide_eq_true_eq]; omega) | (simp; done) | (simp; omega)) ?_ | refine evn (by first | omega | assumption | decide | (simp only [decide_eq_true_eq]; omega) | (simp; done) | (simp; omega)) ?_)
/-- What stands at a check's end. -/
def tl (l : List S30) : Int × Int := if (rd_T30 l 0).f0 = 0 then (if (rd_T30 l ((l.length : Int) - 1)).f0 = 10000 then (-1, 0) else ((l.length : Int) - 1, 10)) else (0, 10)
theorem tl_cases (l : List S30) : ((rd_T30 l 0).f0 = 0 ∧ (rd_T30 l ((l.length : Int) - 1)).f0 = 10000 ∧ tl l = (-1, 0)) ∨ ((rd_T30 l 0).f0 = 0 ∧ ¬ (rd_T30 l ((l.length : Int) - 1)).f0 = 10000 ∧ tl l = ((l.length : Int) - 1, 10)) ∨ (¬ (rd_T30 l 0).f0 = 0 ∧ tl l = (0, 10)) := by
  unfold tl
  split
  · split
    · exact .inl ⟨by assumption, by assumption, rfl⟩
    · exact .inr (.inl ⟨by assumption, by assumption, rfl⟩)
  · exact .inr (.inr ⟨by assumption, rfl⟩)
def Spec (l : List S30) (i : Int) (r : Int × Int) : Prop :=
  (∃ j, i ≤ j ∧ j < (l.length : Int) ∧ flt l j ≠ 0 ∧ r = (j, flt l j) ∧ ∀ m, i ≤ m → m < j → flt l m = 0) ∨ ((∀ m, i ≤ m → m < (l.length : Int) → flt l m = 0) ∧ r = tl l)
theorem loops (l : List S30) (h2 : 2 ≤ (l.length : Int)) (hl : (l.length : Int) ≤ 9223372036854775807) : ∀ i, 0 ≤ i → i ≤ (l.length : Int) →
    ∃ r, Ev (fun k => density_Check.l0 k l (l.length : Int) i) r ∧ Ev (fun k => spileref16_Check.l0 k l i) r ∧ Spec l i r := by
  have hp := w64_pred (i := (l.length : Int)) (by omega) (Int.le_refl _) hl
  refine count_up 0 (l.length : Int) _ ?_ ?_
  · refine ⟨tl l, ?_, ?_, .inr ⟨fun m a b => absurd b (by omega), rfl⟩⟩
    · refine Ev.step (fun k => density_Check.l0.eq_2 ..) ?_
      rw [hp]
      rcases tl_cases l with ⟨a, b, e⟩ | ⟨a, b, e⟩ | ⟨a, e⟩ <;> rw [e]
      · (repeat' first | assumption | exact Ev.now _ | exact evr rfl | refine evp (by first | omega | exact rfl | assumption | decide | (simp only [decide_eq_true_eq]; omega) | (simp; done) | (simp; omega)) ?_ | refine evn (by first | omega | assumption | decide | (simp only [decide_eq_true_eq]; omega) | (simp; done) | (simp; omega)) ?_)
      · (repeat' first | assumption | exact Ev.now _ | exact evr rfl | refine evp (by first | omega | exact rfl | assumption | decide | (simp only [decide_eq_true_eq]; omega) | (simp; done) | (simp; omega)) ?_ | refine evn (by first | omega | assumption | decide | (simp only [decide_eq_true_eq]; omega) | (simp; done) | (simp; omega)) ?_)
      · (repeat' first | assumption | exact Ev.now _ | exact evr rfl | refine evp (by first | omega | exact rfl | assumption | decide | (simp only [decide_eq_true_eq]; omega) | (simp; done) | (simp; omega)) ?_ | refine evn (by first | omega | assumption | decide | (simp only [decide_eq_true_eq]; omega) | (simp; done) | (simp; omega)) ?_)
    · refine Ev.step (fun k => spileref16_Check.l0.eq_2 ..) ?_
      rw [hp]
      rcases tl_cases l with ⟨a, b, e⟩ | ⟨a, b, e⟩ | ⟨a, e⟩ <;> rw [e]
      · (repeat' first | assumption | exact Ev.now _ | exact evr rfl | refine evp (by first | omega | exact rfl | assumption | decide | (simp only [decide_eq_true_eq]; omega) | (simp; done) | (simp; omega)) ?_ | refine evn (by first | omega | assumption | decide | (simp only [decide_eq_true_eq]; omega) | (simp; done) | (simp; omega)) ?_)
      · (repeat' first | assumption | exact Ev.now _ | exact evr rfl | refine evp (by first | omega | exact rfl | assumption | decide | (simp only [decide_eq_true_eq]; omega) | (simp; done) | (simp; omega)) ?_ | refine evn (by first | omega | assumption | decide | (simp only [decide_eq_true_eq]; omega) | (simp; done) | (simp; omega)) ?_)
      · (repeat' first | assumption | exact Ev.now _ | exact evr rfl | refine evp (by first | omega | exact rfl | assumption | decide | (simp only [decide_eq_true_eq]; omega) | (simp; done) | (simp; omega)) ?_ | refine evn (by first | omega | assumption | decide | (simp only [decide_eq_true_eq]; omega) | (simp; done) | (simp; omega)) ?_)
  · intro i h0 h1 ih
    have hs := w64_succ h0 h1 hl
    have hf := fault_ev l hl i h0 h1
    have hr := ref_one l hl i h0 h1
    by_cases e : flt l i = 0
    · obtain ⟨r, r1, r2, r3⟩ := ih
      refine ⟨r, ?_, hr.2 e r r2, ?_⟩
      · refine Ev.step (fun k => density_Check.l0.eq_2 ..) (evp h1 (evb hf (evp e ?_)))
        rw [hs]
        exact r1
      · rcases r3 with ⟨j, a, b, c, d, f⟩ | ⟨a, b⟩
        · refine .inl ⟨j, by omega, b, c, d, fun m m1 m2 => ?_⟩
          by_cases q : m = i
          · subst q; exact e
          · exact f m (by omega) m2
        · refine .inr ⟨fun m m1 m2 => ?_, b⟩
          by_cases q : m = i
          · subst q; exact e
          · exact a m (by omega) m2
    · exact ⟨(i, flt l i), Ev.step (fun k => density_Check.l0.eq_2 ..) (evp h1 (evb hf (evn e (Ev.now _)))), hr.1 e, .inl ⟨i, Int.le_refl _, h1, e, rfl, fun m m1 m2 => absurd m2 (by omega)⟩⟩
/-- A table without fault. -/
def Good (l : List S30) : Prop := 2 ≤ (l.length : Int) ∧ (l.length : Int) ≤ 128 ∧ (∀ m, 0 ≤ m → m < (l.length : Int) → flt l m = 0) ∧ (rd_T30 l 0).f0 = 0 ∧ (rd_T30 l ((l.length : Int) - 1)).f0 = 10000
theorem tl_ok {l : List S30} : (tl l).2 = 0 ↔ ((rd_T30 l 0).f0 = 0 ∧ (rd_T30 l ((l.length : Int) - 1)).f0 = 10000) := by
  rcases tl_cases l with ⟨a, b, e⟩ | ⟨a, b, e⟩ | ⟨a, e⟩ <;> rw [e]
  · exact ⟨fun _ => ⟨a, b⟩, fun _ => rfl⟩
  · exact ⟨fun h => absurd (show (10 : Int) = 0 from h) (by decide), fun h => absurd h.2 b⟩
  · exact ⟨fun h => absurd h (by decide), fun h => absurd h.1 a⟩
theorem check_both (l : List S30) (hl : (l.length : Int) ≤ 9223372036854775807) : ∃ r, Ev (fun k => density_Check.f k l) r ∧ Ev (fun k => spileref16_Check.f k l) r ∧ (r.2 = 0 ↔ Good l) ∧ (2 ≤ (l.length : Int) → (l.length : Int) ≤ 128 → Spec l 0 r) := by
  unfold density_Check.f spileref16_Check.f
  by_cases c1 : (l.length : Int) > 128
  · exact ⟨(-1, 8), by (repeat' first | assumption | exact Ev.now _ | exact evr rfl | refine evp (by first | omega | exact rfl | assumption | decide | (simp only [decide_eq_true_eq]; omega) | (simp; done) | (simp; omega)) ?_ | refine evn (by first | omega | assumption | decide | (simp only [decide_eq_true_eq]; omega) | (simp; done) | (simp; omega)) ?_), by (repeat' first | assumption | exact Ev.now _ | exact evr rfl | refine evp (by first | omega | exact rfl | assumption | decide | (simp only [decide_eq_true_eq]; omega) | (simp; done) | (simp; omega)) ?_ | refine evn (by first | omega | assumption | decide | (simp only [decide_eq_true_eq]; omega) | (simp; done) | (simp; omega)) ?_), ⟨fun h => absurd h (by decide), fun h => absurd h.2.1 (by omega)⟩, fun _ h => absurd h (by omega)⟩
  · by_cases c2 : (l.length : Int) < 2
    · exact ⟨(-1, 9), by (repeat' first | assumption | exact Ev.now _ | exact evr rfl | refine evp (by first | omega | exact rfl | assumption | decide | (simp only [decide_eq_true_eq]; omega) | (simp; done) | (simp; omega)) ?_ | refine evn (by first | omega | assumption | decide | (simp only [decide_eq_true_eq]; omega) | (simp; done) | (simp; omega)) ?_), by (repeat' first | assumption | exact Ev.now _ | exact evr rfl | refine evp (by first | omega | exact rfl | assumption | decide | (simp only [decide_eq_true_eq]; omega) | (simp; done) | (simp; omega)) ?_ | refine evn (by first | omega | assumption | decide | (simp only [decide_eq_true_eq]; omega) | (simp; done) | (simp; omega)) ?_), ⟨fun h => absurd h (by decide), fun h => absurd h.1 (by omega)⟩, fun h => absurd h (by omega)⟩
    · obtain ⟨r, r1, r2, r3⟩ := loops l (by omega) hl 0 (by omega) (by omega)
      refine ⟨r, by (repeat' first | assumption | exact Ev.now _ | exact evr rfl | refine evp (by first | omega | exact rfl | assumption | decide | (simp only [decide_eq_true_eq]; omega) | (simp; done) | (simp; omega)) ?_ | refine evn (by first | omega | assumption | decide | (simp only [decide_eq_true_eq]; omega) | (simp; done) | (simp; omega)) ?_), by (repeat' first | assumption | exact Ev.now _ | exact evr rfl | refine evp (by first | omega | exact rfl | assumption | decide | (simp only [decide_eq_true_eq]; omega) | (simp; done) | (simp; omega)) ?_ | refine evn (by first | omega | assumption | decide | (simp only [decide_eq_true_eq]; omega) | (simp; done) | (simp; omega)) ?_), ?_, fun _ _ => r3⟩
      rcases r3 with ⟨j, a, b, c, rfl, f⟩ | ⟨a, rfl⟩
      · exact ⟨fun h => absurd h c, fun h => absurd (h.2.2.1 j a b) c⟩
      · rw [tl_ok]
        exact ⟨fun h => ⟨by omega, by omega, a, h.1, h.2⟩, fun h => ⟨h.2.2.2.1, h.2.2.2.2⟩⟩
theorem right_ev (l : List S30) (hl : (l.length : Int) ≤ 9223372036854775807) : EvB (fun k => density_right.f k l) (Good l) := by
  obtain ⟨r, r1, _, r3, _⟩ := check_both l hl
  exact ⟨fun h => evb r1 (evr (by simpa using r3.2 h)), fun h => evb r1 (evr (by simpa using fun q => h (r3.1 q)))⟩
theorem ref_right_ev (l : List S30) (hl : (l.length : Int) ≤ 9223372036854775807) : EvB (fun k => spileref16_Right.f k l) (Good l) := by
  obtain ⟨r, _, r1, r3, _⟩ := check_both l hl
  exact ⟨fun h => evb r1 (evr (by simpa using r3.2 h)), fun h => evb r1 (evr (by simpa using fun q => h (r3.1 q)))⟩
theorem good_step {l : List S30} (h : Good l) {m : Int} (h0 : 0 < m) (h1 : m < (l.length : Int)) : (rd_T30 l (m - 1)).f0 < (rd_T30 l m).f0 := by
  have e := h.2.2.1 m (by omega) h1
  rcases flt_cases l m with ⟨_, e2⟩ | ⟨_, ⟨_, _, e2⟩ | ⟨_, _, _, e2⟩ | ⟨_, b⟩⟩
  · omega
  · omega
  · omega
  · exact (b h0).1
theorem good_row {l : List S30} (h : Good l) {m : Int} (h0 : 0 ≤ m) (h1 : m < (l.length : Int)) : 0 ≤ (rd_T30 l m).f0 ∧ (rd_T30 l m).f0 ≤ 10000 ∧ 50000 ≤ (rd_T30 l m).f1 ∧ (rd_T30 l m).f1 ≤ 120000 := by
  have e := h.2.2.1 m h0 h1
  rcases flt_cases l m with ⟨_, e2⟩ | ⟨a, _⟩
  · omega
  · exact a
theorem good_lt {l : List S30} (h : Good l) : ∀ (d : Nat) (a : Int), 0 ≤ a → a + d + 1 < (l.length : Int) → (rd_T30 l a).f0 < (rd_T30 l (a + d + 1)).f0
  | 0, a, h0, h1 => by
    have := good_step h (m := a + (0 : Nat) + 1) (by omega) h1
    rwa [show a + ((0 : Nat) : Int) + 1 - 1 = a from by omega] at this
  | d + 1, a, h0, h1 => by
    have e1 := good_lt h d a h0 (by omega)
    have e2 := good_step h (m := a + (d + 1 : Nat) + 1) (by omega) h1
    rw [show a + ((d + 1 : Nat) : Int) + 1 - 1 = a + d + 1 from by omega] at e2
    omega
theorem good_mono {l : List S30} (h : Good l) {a b : Int} (h0 : 0 ≤ a) (h1 : a < b) (h2 : b < (l.length : Int)) : (rd_T30 l a).f0 < (rd_T30 l b).f0 := by
  have := good_lt h (b - a - 1).toNat a h0 (by omega)
  rwa [show a + ((b - a - 1).toNat : Int) + 1 = b from by omega] at this
theorem drop_rd {l : List S30} {i : Int} (h0 : 0 ≤ i) (h1 : i < (l.length : Int)) : l.drop i.toNat = rd_T30 l i :: l.drop (i + 1).toNat := by
  rw [show (i + 1).toNat = i.toNat + 1 from by omega, List.drop_eq_getElem_cons (by omega)]
  congr 1
  unfold rd_T30
  rw [List.getD_eq_getElem?_getD, List.getElem?_eq_getElem (by omega)]
  rfl
theorem same_self (l : List S30) (hl : (l.length : Int) ≤ 9223372036854775807) : Ev (fun k => spileref16_Same.f k l l) true := by
  refine evp rfl ?_
  refine count_up 0 (l.length : Int) (fun i => Ev (fun k => spileref16_Same.l0 k l l i) true) ?_ ?_ 0 (by omega) (by omega)
  · exact Ev.step (fun k => spileref16_Same.l0.eq_2 ..) (by (repeat' first | assumption | exact Ev.now _ | exact evr rfl | refine evp (by first | omega | exact rfl | assumption | decide | (simp only [decide_eq_true_eq]; omega) | (simp; done) | (simp; omega)) ?_ | refine evn (by first | omega | assumption | decide | (simp only [decide_eq_true_eq]; omega) | (simp; done) | (simp; omega)) ?_))
  · intro i h0 h1 ih
    have hs := w64_succ h0 h1 hl
    refine Ev.step (fun k => spileref16_Same.l0.eq_2 ..) ?_
    rw [hs]
    exact evp h1 (evp h0 (evp h1 (evn (by simp) ih)))
theorem few_ev (l : List S30) : ∃ b, spileref16_Few.f l = some b := by
  unfold spileref16_Few.f
  repeat' split
  all_goals exact ⟨_, rfl⟩
end Go.Proofs.YtoofoicocfnfoaaDoor.PL
namespace Go.Proofs.YtoofoicocfnfoaaDoor.PL
open Go Go.RowKit Go.Proofs.YtoofoicocfnfoaaDoorW.PrintWords Go.Proofs.YtoofoicocfnfoaaDoorW.PrintLast Go.Proofs.YtoofoicocfnfoaaDoorW.PrintMore Go.Proofs.YtoofoicocfnfoaaDoor.Pr Go.Proofs.YtoofoicocfnfoaaDoor.Opn
theorem rd_mem30 {l : List S30} {i : Int} (h0 : 0 ≤ i) (h : i < (l.length : Int)) : rd_T30 l i ∈ l := by
  unfold rd_T30
  rw [List.getD_eq_getElem?_getD, List.getElem?_eq_getElem (by omega)]
  exact List.getElem_mem _
theorem rd_of_mem30 {l : List S30} {x : S30} (h : x ∈ l) : ∃ i : Int, 0 ≤ i ∧ i < (l.length : Int) ∧ rd_T30 l i = x := by
  obtain ⟨i, hi⟩ := List.mem_iff_getElem?.1 h
  have hl := (List.getElem?_eq_some_iff.1 hi).1
  refine ⟨(i : Int), by omega, by omega, ?_⟩
  unfold rd_T30
  rw [List.getD_eq_getElem?_getD, Int.toNat_natCast, hi]
  rfl
def mgd : Nat → List S30 → List S30 → List S30
  | 0, _, _ => []
  | _ + 1, [], [] => []
  | n + 1, x :: l, [] => x :: mgd n l []
  | n + 1, [], y :: m => y :: mgd n [] m
  | n + 1, x :: l, y :: m => if x.f0 < y.f0 then x :: mgd n l (y :: m) else if x.f0 = y.f0 then mgd n l (y :: m) else y :: mgd n (x :: l) m
def mgr : Nat → List S30 → List S30 → List S30
  | 0, _, _ => []
  | _ + 1, _, [] => []
  | n + 1, [], y :: m => y :: mgr n [] m
  | n + 1, x :: l, y :: m => if x.f0 < y.f0 then x :: mgr n l (y :: m) else if x.f0 = y.f0 then y :: mgr n l m else y :: mgr n (x :: l) m
def Asc (l : List S30) : Prop := l.Pairwise (fun x y => x.f0 < y.f0)
def Cover (l m : List S30) : Prop := ∀ x ∈ l, ∃ y ∈ m, x.f0 ≤ y.f0
theorem mgr_nil (n : Nat) (l : List S30) : mgr n l [] = [] := by cases n <;> rfl
theorem mgr_more : ∀ (n k : Nat) (l m : List S30), l.length + m.length < n → mgr (n + k) l m = mgr n l m
  | 0, _, _, _, h => absurd h (Nat.not_lt_zero _)
  | n + 1, k, l, [], h => by rw [mgr_nil, mgr_nil]
  | n + 1, k, [], y :: m, h => by
    rw [show n + 1 + k = n + k + 1 from by omega]
    simp only [mgr]
    rw [mgr_more n k [] m (by simp at h ⊢; omega)]
  | n + 1, k, x :: l, y :: m, h => by
    rw [show n + 1 + k = n + k + 1 from by omega]
    simp only [mgr]
    rw [mgr_more n k l (y :: m) (by simp at h ⊢; omega), mgr_more n k l m (by simp at h ⊢; omega), mgr_more n k (x :: l) m (by simp at h ⊢; omega)]
theorem asc_tail {x : S30} {l : List S30} (h : Asc (x :: l)) : Asc l := (List.pairwise_cons.1 h).2
theorem asc_head {x : S30} {l : List S30} (h : Asc (x :: l)) : ∀ z ∈ l, x.f0 < z.f0 := (List.pairwise_cons.1 h).1
theorem mgd_eq : ∀ (n : Nat) (l m : List S30), l.length + m.length < n → Asc l → Cover l m → mgd n l m = mgr n l m
  | 0, _, _, h, _, _ => absurd h (Nat.not_lt_zero _)
  | n + 1, [], [], _, _, _ => rfl
  | n + 1, x :: l, [], _, _, hc => by
    obtain ⟨y, hy, _⟩ := hc x (List.mem_cons_self ..)
    cases hy
  | n + 1, [], y :: m, h, ha, hc => by
    simp only [mgd, mgr]
    rw [mgd_eq n [] m (by simp at h ⊢; omega) ha (fun x hx => by cases hx)]
  | n + 1, x :: l, y :: m, h, ha, hc => by
    have hl : l.length + (y :: m).length < n := by simp at h ⊢; omega
    have cl : Cover l (y :: m) := fun z hz => hc z (List.mem_cons_of_mem _ hz)
    have hn0 : 0 < n := by simp at h; omega
    simp only [mgd, mgr]
    by_cases c1 : x.f0 < y.f0
    · rw [if_pos c1, if_pos c1, mgd_eq n l (y :: m) hl (asc_tail ha) cl]
    · rw [if_neg c1, if_neg c1]
      by_cases c2 : x.f0 = y.f0
      · rw [if_pos c2, if_pos c2, mgd_eq n l (y :: m) hl (asc_tail ha) cl]
        obtain ⟨n, rfl⟩ : ∃ n', n = n' + 1 := ⟨n - 1, by omega⟩
        cases l with
        | nil =>
          simp only [mgr]
          rw [mgr_more n 1 [] m (by simp at h ⊢; omega)]
        | cons z l =>
          have hz := asc_head ha z (List.mem_cons_self ..)
          have e1 : ¬ z.f0 < y.f0 := by omega
          have e2 : ¬ z.f0 = y.f0 := by omega
          rw [show mgr (n + 1) (z :: l) (y :: m) = y :: mgr n (z :: l) m from by simp only [mgr]; rw [if_neg e1, if_neg e2]]
          rw [mgr_more n 1 (z :: l) m (by simp at h ⊢; omega)]
      · rw [if_neg c2, if_neg c2, mgd_eq n (x :: l) m (by simp at h ⊢; omega) ha (fun z hz => ?_)]
        obtain ⟨y2, hy2, e⟩ := hc z hz
        have hxz : x.f0 ≤ z.f0 := by
          rcases List.mem_cons.1 hz with rfl | hz
          · exact Int.le_refl _
          · exact Int.le_of_lt (asc_head ha z hz)
        rcases List.mem_cons.1 hy2 with rfl | hy2
        · omega
        · exact ⟨y2, hy2, e⟩
theorem mgr_len : ∀ (n : Nat) (l m : List S30), (mgr n l m).length ≤ l.length + m.length
  | 0, _, _ => Nat.zero_le _
  | n + 1, l, [] => by rw [mgr_nil]; exact Nat.zero_le _
  | n + 1, [], y :: m => by
    have := mgr_len n [] m
    simp only [mgr, List.length_cons] at this ⊢
    omega
  | n + 1, x :: l, y :: m => by
    simp only [mgr]
    have a := mgr_len n l (y :: m)
    have b := mgr_len n l m
    have c := mgr_len n (x :: l) m
    simp only [List.length_cons] at a b c ⊢
    split
    · simp only [List.length_cons]; omega
    · split <;> (simp only [List.length_cons]; omega)
theorem good_asc {l : List S30} (g : Good l) : Asc l := by
  unfold Asc
  rw [List.pairwise_iff_getElem]
  intro i j hi hj hij
  have := good_mono g (a := (i : Int)) (b := (j : Int)) (by omega) (by omega) (by omega)
  have e : ∀ k (hk : k < l.length), rd_T30 l (k : Int) = l[k] := fun k hk => by
    unfold rd_T30
    rw [List.getD_eq_getElem?_getD, Int.toNat_natCast, List.getElem?_eq_getElem hk]
    rfl
  rwa [e i hi, e j hj] at this
theorem good_cover {l m : List S30} (g : Good l) (h : Good m) : Cover l m := fun x hx => by
  obtain ⟨i, i0, i1, rfl⟩ := rd_of_mem30 hx
  refine ⟨rd_T30 m ((m.length : Int) - 1), rd_mem30 (by have := h.1; omega) (by omega), ?_⟩
  rw [h.2.2.2.2]
  exact (good_row g i0 i1).2.1
def Fin (f : Nat → List S30 → Option (Int × Int)) (out : List S30) (r : List S30 × Int) : Prop := ∃ c, Ev (fun k => f k out) c ∧ r = if c.2 = 0 then (out, 0) else ([], c.2)
theorem rd_head (x : S30) (l : List S30) : rd_T30 (x :: l) 0 = x := rfl
theorem mrg_ev : ∀ (n : Nat) (l m out : List S30) (r : List S30 × Int), l.length + m.length < n → out.length + (l.length + m.length) < 8796093022208 → Fin density_Check.f (out ++ mgd n l m) r → Ev (fun k => density_Merge.l0 k l m out) r
  | 0, _, _, _, _, h, _, _ => absurd h (Nat.not_lt_zero _)
  | n + 1, [], [], out, r, h, ho, ⟨c, hc, hr⟩ => by
    rw [show out ++ mgd (n + 1) [] [] = out from List.append_nil _] at hc hr
    subst hr
    refine Ev.step (fun k => density_Merge.l0.eq_2 ..) (evn (by first | (simp; done) | (simp only [List.length_cons, List.length_nil]; omega)) (Ev.step (fun k => density_Merge.j2.eq_2 ..) (evn (by first | (simp; done) | (simp only [List.length_cons, List.length_nil]; omega)) (evb hc ?_))))
    by_cases e : c.2 = 0
    · rw [show (if c.2 = 0 then (out, (0 : Int)) else ([], c.2)) = (out, 0) from if_pos e]; exact evp e (Ev.now _)
    · rw [show (if c.2 = 0 then (out, (0 : Int)) else ([], c.2)) = ([], c.2) from if_neg e]; exact evn e (Ev.now _)
  | n + 1, x :: l, [], out, r, h, ho, hf => by
    have ih := mrg_ev n l [] (out ++ [x]) r (by simp at h ⊢; omega) (by simp at ho ⊢; omega) (by rw [List.append_assoc]; exact hf)
    refine Ev.step (fun k => density_Merge.l0.eq_2 ..) (evp (by first | (simp; done) | (simp only [List.length_cons, List.length_nil]; omega)) (Ev.step (fun k => density_Merge.j2.eq_2 ..) (evp rfl (evp rfl (Ev.step (fun k => density_Merge.j3.eq_2 ..) (evp rfl (evp (by first | (simp; done) | (simp only [List.length_cons, List.length_nil]; omega)) (evp (by simp at ho ⊢; omega) (evp (by first | (simp; done) | (simp only [List.length_cons, List.length_nil]; omega)) ih)))))))))
  | n + 1, [], y :: m, out, r, h, ho, hf => by
    have ih := mrg_ev n [] m (out ++ [y]) r (by simp at h ⊢; omega) (by simp at ho ⊢; omega) (by rw [List.append_assoc]; exact hf)
    refine Ev.step (fun k => density_Merge.l0.eq_2 ..) (evn (by first | (simp; done) | (simp only [List.length_cons, List.length_nil]; omega)) (Ev.step (fun k => density_Merge.j2.eq_2 ..) (evp (by first | (simp; done) | (simp only [List.length_cons, List.length_nil]; omega)) (evn (by first | (simp; done) | (simp only [List.length_cons, List.length_nil]; omega)) (evn (by first | (simp; done) | (simp only [List.length_cons, List.length_nil]; omega)) (Ev.step (fun k => density_Merge.j3.eq_2 ..) (evn (by first | (simp; done) | (simp only [List.length_cons, List.length_nil]; omega)) (evn (by first | (simp; done) | (simp only [List.length_cons, List.length_nil]; omega)) (evp (by first | (simp; done) | (simp only [List.length_cons, List.length_nil]; omega)) (evp (by simp at ho ⊢; omega) (evp (by first | (simp; done) | (simp only [List.length_cons, List.length_nil]; omega)) ih)))))))))))
  | n + 1, x :: l, y :: m, out, r, h, ho, hf => by
    have st : ∀ b : Bool, b = decide (x.f0 < y.f0) → Ev (fun k => density_Merge.j3 k (x :: l) (y :: m) out b) r → Ev (fun k => density_Merge.l0 k (x :: l) (y :: m) out) r := fun b hb hj => by
      refine Ev.step (fun k => density_Merge.l0.eq_2 ..) (evp (by first | (simp; done) | (simp only [List.length_cons, List.length_nil]; omega)) (Ev.step (fun k => density_Merge.j2.eq_2 ..) (evp rfl (evn (by first | (simp; done) | (simp only [List.length_cons, List.length_nil]; omega)) (evp (by first | (simp; done) | (simp only [List.length_cons, List.length_nil]; omega)) (evp (by first | (simp; done) | (simp only [List.length_cons, List.length_nil]; omega)) (evp (by first | (simp; done) | (simp only [List.length_cons, List.length_nil]; omega)) ?_)))))))
      rw [rd_head, rd_head, ← hb]
      exact hj
    simp only [mgd] at hf
    by_cases c1 : x.f0 < y.f0
    · rw [if_pos c1] at hf
      have ih := mrg_ev n l (y :: m) (out ++ [x]) r (by simp at h ⊢; omega) (by simp at ho ⊢; omega) (by rw [List.append_assoc]; exact hf)
      exact st true (decide_eq_true c1).symm (Ev.step (fun k => density_Merge.j3.eq_2 ..) (evp rfl (evp (by first | (simp; done) | (simp only [List.length_cons, List.length_nil]; omega)) (evp (by simp at ho ⊢; omega) (evp (by first | (simp; done) | (simp only [List.length_cons, List.length_nil]; omega)) ih)))))
    · rw [if_neg c1] at hf
      refine st false (decide_eq_false c1).symm (Ev.step (fun k => density_Merge.j3.eq_2 ..) (evn (by decide) (evp (by first | (simp; done) | (simp only [List.length_cons, List.length_nil]; omega)) (evp (by first | (simp; done) | (simp only [List.length_cons, List.length_nil]; omega)) (evp (by first | (simp; done) | (simp only [List.length_cons, List.length_nil]; omega)) ?_)))))
      by_cases c2 : x.f0 = y.f0
      · rw [if_pos c2] at hf
        exact evp c2 (evp (by first | (simp; done) | (simp only [List.length_cons, List.length_nil]; omega)) (mrg_ev n l (y :: m) out r (by simp at h ⊢; omega) (by simp at ho ⊢; omega) hf))
      · rw [if_neg c2] at hf
        have ih := mrg_ev n (x :: l) m (out ++ [y]) r (by simp at h ⊢; omega) (by simp at ho ⊢; omega) (by rw [List.append_assoc]; exact hf)
        exact evn c2 (evp (by simp at ho ⊢; omega) (evp (by first | (simp; done) | (simp only [List.length_cons, List.length_nil]; omega)) ih))
theorem drop_cons_len {l t : List S30} {x : S30} {i : Nat} (h : l.drop i = x :: t) : i < l.length ∧ l.drop (i + 1) = t ∧ rd_T30 l (i : Int) = x := by
  have h1 : i < l.length := by
    rcases Nat.lt_or_ge i l.length with c | c
    · exact c
    · rw [List.drop_eq_nil_of_le c] at h; cases h
  have h2 := drop_rd (l := l) (i := (i : Int)) (by omega) (by omega)
  rw [Int.toNat_natCast, h] at h2
  injection h2 with e1 e2
  exact ⟨h1, by rw [e2]; congr 1, e1.symm⟩
theorem drop_nil_len {l : List S30} {i : Nat} (h : l.drop i = []) : l.length ≤ i := by
  rcases Nat.lt_or_ge i l.length with c | c
  · have h2 := drop_rd (l := l) (i := (i : Int)) (by omega) (by omega)
    rw [Int.toNat_natCast, h] at h2; cases h2
  · exact c
/-- The reference's rounds: at l0 behind each row of m, at l1 inside. -/
theorem ref_mrg_ev (L M : List S30) (hL : (L.length : Int) ≤ 128) (hM : (M.length : Int) ≤ 128) : ∀ (n : Nat) (l m out : List S30) (i j : Nat) (r : List S30 × Int), L.drop i = l → M.drop j = m → l.length + m.length < n → out.length + (l.length + m.length) < 8796093022208 →
    i ≤ L.length → j ≤ M.length → Fin spileref16_Check.f (out ++ mgr n l m) r → (m ≠ [] → Ev (fun k => spileref16_Merge.l1 k L M out i j) r) ∧ Ev (fun k => spileref16_Merge.l0 k L M out i j) r
  | 0, _, _, _, _, _, _, _, _, h, _, _, _, _ => absurd h (Nat.not_lt_zero _)
  | n + 1, l, [], out, i, j, r, hl, hm, h, ho, hi, hj, ⟨c, hc, hr⟩ => by
    refine ⟨fun q => absurd rfl q, ?_⟩
    rw [mgr_nil, List.append_nil] at hc hr
    subst hr
    have := drop_nil_len hm
    refine Ev.step (fun k => spileref16_Merge.l0.eq_2 ..) (evn (by omega) (evb hc ?_))
    by_cases e : c.2 = 0
    · rw [show (if c.2 = 0 then (out, (0 : Int)) else ([], c.2)) = (out, 0) from if_pos e]; exact evp e (Ev.now _)
    · rw [show (if c.2 = 0 then (out, (0 : Int)) else ([], c.2)) = ([], c.2) from if_neg e]; exact evn e (Ev.now _)
  | n + 1, [], y :: m, out, i, j, r, hl, hm, h, ho, hi, hj, hf => by
    have a := drop_nil_len hl
    obtain ⟨b1, b2, b3⟩ := drop_cons_len hm
    have ih := (ref_mrg_ev L M hL hM n [] m (out ++ [y]) i (j + 1) r hl b2 (by simp at h ⊢; omega) (by simp at ho ⊢; omega) hi b1 (by rw [List.append_assoc]; exact hf)).2
    have hs := w64_succ (i := (j : Int)) (n := (M.length : Int)) (by omega) (by omega) (by omega)
    have k1 : Ev (fun k => spileref16_Merge.l1 k L M out i j) r := by
      refine Ev.step (fun k => spileref16_Merge.l1.eq_2 ..) (evn (by omega) (evp (by omega) (evp (by omega) (evp (by simp at ho; omega) ?_))))
      rw [hs, b3]
      exact ih
    exact ⟨fun _ => k1, Ev.step (fun k => spileref16_Merge.l0.eq_2 ..) (evp (by omega) k1)⟩
  | n + 1, x :: l, y :: m, out, i, j, r, hl, hm, h, ho, hi, hj, hf => by
    obtain ⟨a1, a2, a3⟩ := drop_cons_len hl
    obtain ⟨b1, b2, b3⟩ := drop_cons_len hm
    have hs := w64_succ (i := (j : Int)) (n := (M.length : Int)) (by omega) (by omega) (by omega)
    have hs2 := w64_succ (i := (i : Int)) (n := (L.length : Int)) (by omega) (by omega) (by omega)
    simp only [mgr] at hf
    have k1 : Ev (fun k => spileref16_Merge.l1 k L M out i j) r := by
      refine Ev.step (fun k => spileref16_Merge.l1.eq_2 ..) (evp (by omega) (evp (by omega) (evp (by omega) (evp (by omega) ?_))))
      rw [hs, hs2, a3, b3]
      by_cases c1 : x.f0 < y.f0
      · rw [if_pos c1] at hf
        have ih := (ref_mrg_ev L M hL hM n l (y :: m) (out ++ [x]) (i + 1) j r a2 hm (by simp at h ⊢; omega) (by simp at ho ⊢; omega) a1 hj (by rw [List.append_assoc]; exact hf)).1 (by simp)
        exact evp c1 (evp (by simp at ho; omega) ih)
      · rw [if_neg c1] at hf
        by_cases c2 : x.f0 = y.f0
        · rw [if_pos c2] at hf
          have ih := (ref_mrg_ev L M hL hM n l m (out ++ [y]) (i + 1) (j + 1) r a2 b2 (by simp at h ⊢; omega) (by simp at ho ⊢; omega) a1 b1 (by rw [List.append_assoc]; exact hf)).2
          exact evn c1 (evp c2 (evp (by simp at ho; omega) ih))
        · rw [if_neg c2] at hf
          have ih := (ref_mrg_ev L M hL hM n (x :: l) m (out ++ [y]) i (j + 1) r hl b2 (by simp at h ⊢; omega) (by simp at ho ⊢; omega) hi b1 (by rw [List.append_assoc]; exact hf)).2
          exact evn c1 (evn c2 (evp (by simp at ho; omega) ih))
    exact ⟨fun _ => k1, Ev.step (fun k => spileref16_Merge.l0.eq_2 ..) (evp (by omega) k1)⟩
/-- What merging answers, with both. -/
theorem merge_both (l m : List S30) (hl : (l.length : Int) ≤ 9223372036854775807) (hm : (m.length : Int) ≤ 9223372036854775807) : ∃ r, Ev (fun k => density_Merge.f k l m) r ∧ Ev (fun k => spileref16_Merge.f k l m) r ∧
    (r.1.length : Int) ≤ 256 ∧ ((r.2 ≠ 0 ∧ r.1 = [] ∧ (Good l → Good m → ¬ Good (mgr (l.length + m.length + 1) l m))) ∨ (r.2 = 0 ∧ Good l ∧ Good m ∧ r.1 = mgr (l.length + m.length + 1) l m ∧ Good r.1)) := by
  have g1 := right_ev l hl
  have g2 := ref_right_ev l hl
  have g3 := right_ev m hm
  have g4 := ref_right_ev m hm
  by_cases g : Good l
  · by_cases h : Good m
    · have e := mgd_eq (l.length + m.length + 1) l m (by omega) (good_asc g) (good_cover g h)
      have hn := mgr_len (l.length + m.length + 1) l m
      have b1 := g.2.1
      have b2 := h.2.1
      obtain ⟨c, c1, c2, c3, _⟩ := check_both (mgr (l.length + m.length + 1) l m) (by omega)
      have f1 := mrg_ev (l.length + m.length + 1) l m [] (if c.2 = 0 then (mgr (l.length + m.length + 1) l m, 0) else ([], c.2)) (by omega) (by simp; omega) ⟨c, by rw [List.nil_append, e]; exact c1, by rw [List.nil_append, e]⟩
      have f2 := (ref_mrg_ev l m b1 b2 (l.length + m.length + 1) l m [] 0 0 (if c.2 = 0 then (mgr (l.length + m.length + 1) l m, 0) else ([], c.2)) rfl rfl (by omega) (by simp; omega) (by omega) (by omega) ⟨c, by rw [List.nil_append]; exact c2, by rw [List.nil_append]⟩).2
      refine ⟨_, evb (g1.1 g) (evp rfl (evb (g3.1 h) (Ev.step (fun k => density_Merge.j0.eq_2 ..) (evn (by simp) f1)))), evb (g2.1 g) (evp rfl (evb (g4.1 h) (Ev.step (fun k => spileref16_Merge.j0.eq_2 ..) (evn (by simp) f2)))), ?_, ?_⟩
      · split
        · show ((mgr (l.length + m.length + 1) l m).length : Int) ≤ 256
          omega
        · simp
      · by_cases e0 : c.2 = 0
        · rw [if_pos e0]
          exact .inr ⟨rfl, g, h, rfl, c3.1 e0⟩
        · rw [if_neg e0]
          exact .inl ⟨e0, rfl, fun _ _ q => e0 (c3.2 q)⟩
    · exact ⟨([], 1), evb (g1.1 g) (evp rfl (evb (g3.2 h) (Ev.step (fun k => density_Merge.j0.eq_2 ..) (evp rfl (Ev.now _))))), evb (g2.1 g) (evp rfl (evb (g4.2 h) (Ev.step (fun k => spileref16_Merge.j0.eq_2 ..) (evp rfl (Ev.now _))))), by simp, .inl ⟨by decide, rfl, fun _ q => absurd q h⟩⟩
  · exact ⟨([], 1), evb (g1.2 g) (evn (by decide) (Ev.step (fun k => density_Merge.j0.eq_2 ..) (evp rfl (Ev.now _)))), evb (g2.2 g) (evn (by decide) (Ev.step (fun k => spileref16_Merge.j0.eq_2 ..) (evp rfl (Ev.now _)))), by simp, .inl ⟨by decide, rfl, fun q => absurd q g⟩⟩
end Go.Proofs.YtoofoicocfnfoaaDoor.PL
namespace Go.Proofs.YtoofoicocfnfoaaDoor.Pure
open Go Go.RowKit Go.Proofs.YtoofoicocfnfoaaDoorW.PrintWords Go.Proofs.YtoofoicocfnfoaaDoorW.PrintLast Go.Proofs.YtoofoicocfnfoaaDoorW.PrintMore Go.Proofs.YtoofoicocfnfoaaDoor.Pr Go.Proofs.YtoofoicocfnfoaaDoor.Opn Go.Proofs.YtoofoicocfnfoaaDoor.X Go.Proofs.YtoofoicocfnfoaaDoor.PL
theorem DensityMerges : densityMergesPure := by
  intro l m hl hm
  have hl2 := len_le hl.1
  have hm2 := len_le hm.1
  obtain ⟨fw, hf⟩ := few_ev l
  obtain ⟨fm, hfm⟩ := few_ev m
  have key : Ev (fun k => spilelaw16_DensityMerges.f k l m) true := by
    have hj : Ev (fun k => spilelaw16_DensityMerges.j0 k l m true) true := Ev.step (fun k => spilelaw16_DensityMerges.j0.eq_2 ..) (evp rfl (Ev.now _))
    refine evb (a := true) (evc (fun _ => rfl) rfl) (evp rfl (evb (a := fw) (evc (fun _ => rfl) hf) ?_))
    by_cases hw : fw = true
    case neg => exact evn hw hj
    refine evp hw (evb (a := fm) (evc (fun _ => rfl) hfm) ?_)
    by_cases hw2 : fm = true
    case neg =>
      have : fm = false := by cases fm with | false => rfl | true => exact absurd rfl hw2
      rw [this]
      exact hj
    rw [hw2]
    obtain ⟨r, r1, r2, r3, _⟩ := merge_both l m hl2 hm2
    exact Ev.step (fun k => spilelaw16_DensityMerges.j0.eq_2 ..) (evn (by decide) (evb r1 (evb r2 (evb (same_self r.1 (by omega)) (evp rfl (evr (by simp)))))))
  obtain ⟨K, hK⟩ := key
  exact ⟨K, hK K (Nat.le_refl _)⟩
end Go.Proofs.YtoofoicocfnfoaaDoor.Pure
