/-
A part of what these laws rest on: contracts of the functions that they reach, and plain lemmas.
-/
import Derived.Test.YtnhmlneebnkjcaaDoorCaskReadsD
set_option linter.unusedVariables false
set_option linter.unusedSimpArgs false
namespace Go.Proofs.YtnhmlneebnkjcaaDoor.Pr
open Go.RowKit Go.Proofs.YtnhmlneebnkjcaaDoorW.PrintWords Go.Proofs.YtnhmlneebnkjcaaDoorW.PrintLast Go.Proofs.YtnhmlneebnkjcaaDoorW.PrintMore Go.Proofs.YtnhmlneebnkjcaaDoor.X
attribute [local go_sem] max2_int min2_int max_two min_two max_three min_three max_four min_four   -- for this text's walks alone
set_option linter.unusedVariables false
set_option linter.unusedSimpArgs false
mutual
def spileref09_Words.l0 : Nat → ByteArray → List ByteArray → Int → Int → Option (List ByteArray × Bool)
 | 0, _, _, _, _ => none
 | k + 1, x0, x4, x5, x6 => if x6 ≤ (x0.size : Int) then (if x6 = (x0.size : Int) then (spileref09_Words.j1 k x0 x4 x5 x6 true) else (if 0 ≤ x6 then (if x6 < (x0.size : Int) then (spileref09_Words.j1 k x0 x4 x5 x6 ((bt x0 x6) == 32)) else (none)) else (none))) else (some (x4, true))
def spileref09_Words.j1 : Nat → ByteArray → List ByteArray → Int → Int → Bool → Option (List ByteArray × Bool)
 | 0, _, _, _, _, _ => none
 | k + 1, x0, x4, x5, x6, x22 => if x22 = true then (if x6 = x5 then (some (([] : List ByteArray), false)) else (if 0 ≤ x5 then (if x5 ≤ x6 then (if x6 ≤ (x0.size : Int) then (if x4.length < 8796093022208 then (spileref09_Words.l0 k x0 (x4 ++ [x0.extract (x5 : Int).toNat (x6 : Int).toNat]) (wrap64 (x6 + 1)) (wrap64 (x6 + 1))) else (none)) else (none)) else (none)) else (none))) else (spileref09_Words.l0 k x0 x4 x5 (wrap64 (x6 + 1)))
end
def spileref09_Words.f (k : Nat) (a0 : ByteArray) : Option (List ByteArray × Bool) := spileref09_Words.l0 k a0 ([] : List ByteArray) 0 0
set_option maxHeartbeats 8000000 in
set_option maxRecDepth 100000 in
theorem spileref09_Words.calls (k : Nat) (a0 : ByteArray) (r1 : List ByteArray) (r2 : Bool) (w : World) (h : spileref09_Words.f k a0 = some (r1, r2)) :
  Calls Tryd.prog 49 #[.string a0] w fun e w' => ∃ v0_ : Value, e = .returned (.tuple #[v0_, .bool r2]) ∧ Kd.R Kd.string 9 w' w.heap.size (fun _ => True) v0_ r1 ∧ Below w.heap.size w w' := by
 have HB := Aside0.mk (Below.refl w.heap.size w); have H : (spileref09_Words.l0 k a0 ([] : List ByteArray) 0 0) = some (r1, r2) := h; clear h; have H' := Aside0.mk H; clear H; go_enter Tryd.func49, Tryd.ntmps49
 go_wp2; go_loopg [4, 5, 6] k (fun kq v4 v5 v6 w' => ∃ (x4_1 : List ByteArray) (x5_1 : Int) (x6_1 : Int), v5 = .int .i64 x5_1 ∧ v6 = .int .i64 x6_1 ∧ Aside0 (spileref09_Words.l0 kq a0 x4_1 x5_1 x6_1 = some (r1, r2)) ∧ Aside0 (kq ≤ k) ∧ Aside0 (Kd.R Kd.string 9 w' w.heap.size (fun _ => True) v4 x4_1) ∧ Aside0 (Below w.heap.size w w'))
 case atStart => exact ⟨(([] : List ByteArray)), (0), (0), (by first | rfl | (simp; done) | (simp [*]; done)), (by first | rfl | (simp; done) | (simp [*]; done)), H', ⟨Nat.le_refl _⟩, ⟨by first | exact Kd.R_nil _ _ _ _ _ | exact Kd.N_nil _ _ _ _ _ | exact Kd.V_nil _ _ _ _ _ | exact Kd.Q_nil _ _ _ _ _ | exact Kd.S_nil _ _ _ _ _⟩, ⟨by repeat (first | (with_reducible first | exact HB.out | apply below_alloc | apply pw_below_drewN | apply below_drew1) | exact HB.out)⟩⟩
 case round =>
  clear H'; obtain ⟨x4_1, x5_1, x6_1, rfl, rfl, HA, HK1, HO_4, HB⟩ := hrel
  cases gk with
  | zero => exact absurd HA.out (by simp [spileref09_Words.l0])
  | succ k1 =>
   have H := HA.out; clear HA; simp only [spileref09_Words.l0] at H; by_cases c2 : x6_1 ≤ (a0.size : Int)
   ·
    rw [if_pos c2] at H; have c2b0 : decide (x6_1 ≤ (a0.size : Int)) = true := decide_eq_true c2; clear c2; have HC3 := Aside0.mk H; clear H; go_upto_region 6 with (fail)
    go_cut [22] (fun v22 wc => ∃ (kq : Nat) (x22_2 : Bool), v22 = .bool x22_2 ∧ Aside0 (spileref09_Words.j1 kq a0 x4_1 x5_1 x6_1 x22_2 = some (r1, r2)) ∧ Aside0 (kq ≤ k1) ∧ Aside0 (Kd.R Kd.string 9 wc w.heap.size (fun _ => True) u4 x4_1) ∧ Aside0 (Below w.heap.size w wc))
    case first =>
     have H := HC3.out; clear HC3; by_cases c4 : x6_1 = (a0.size : Int)
     ·
      rw [if_pos c4] at H; have c4b0 : (x6_1 == (a0.size : Int)) = true := beq_iff_eq.mpr c4; have c4b1 : (x6_1 != (a0.size : Int)) = false := bne_eq_false_iff_eq.mpr c4; clear c4; (first | rw [c4b0] | (simp only [i64_w, i32_w]; rw [c4b0]) | skip)
      have H' := Aside0.mk H; clear H; go_wp2; go_meet
      case rel => exact ⟨_, (true), (by first | rfl | (simp; done) | (simp [*]; done)), H', ⟨by have := HK1.out; first | omega | exact Nat.le_refl _⟩, ⟨by (with_reducible repeat (first | apply Kd.R_alloc | apply Kd.R_drewN | apply Kd.R_drew)); exact HO_4.out⟩, ⟨by repeat (first | (with_reducible first | exact HB.out | apply below_alloc | apply pw_below_drewN | apply below_drew1) | exact HB.out)⟩⟩
     ·
      rw [if_neg c4] at H; have c4b0 : (x6_1 == (a0.size : Int)) = false := beq_eq_false_iff_ne.mpr c4; have c4b1 : (x6_1 != (a0.size : Int)) = true := bne_iff_ne.mpr c4; (first | rw [c4b0] | (simp only [i64_w, i32_w]; rw [c4b0]) | skip)
      by_cases c5 : 0 ≤ x6_1
      ·
       rw [if_pos c5] at H; have c5b0 : decide (0 ≤ x6_1) = true := decide_eq_true c5; clear c5; by_cases c6 : x6_1 < (a0.size : Int)
       ·
        rw [if_pos c6] at H; have c6b0 : decide (x6_1 < (a0.size : Int)) = true := decide_eq_true c6; clear c6; have H' := Aside0.mk H; clear H; have p7 : 0 ≤ (x6_1 : Int) := of_decide_eq_true (by first | (with_reducible assumption) | assumption); have q7 : x6_1 < (a0.size : Int) := of_decide_eq_true (by first | (with_reducible assumption) | assumption); have hx7 := bt_at a0 x6_1; replace p7 := eq_true p7; replace q7 := eq_true q7; go_wp2; go_meet
        case rel => exact ⟨_, (((bt a0 x6_1) == 32)), (by first | rfl | (simp; done) | (simp [*]; done)), H', ⟨by have := HK1.out; first | omega | exact Nat.le_refl _⟩, ⟨by (with_reducible repeat (first | apply Kd.R_alloc | apply Kd.R_drewN | apply Kd.R_drew)); exact HO_4.out⟩, ⟨by repeat (first | (with_reducible first | exact HB.out | apply below_alloc | apply pw_below_drewN | apply below_drew1) | exact HB.out)⟩⟩
       · rw [if_neg c6] at H; exact absurd H (by simp)
      · rw [if_neg c5] at H; exact absurd H (by simp)
    case rest =>
     clear HC3; try clear c2
     try clear c2b0
     try clear p2
     try clear c4
     try clear c4b0
     try clear c4b1
     try clear c5
     try clear c5b0
     try clear c6
     try clear c6b0
     try clear p7
     try clear q7
     try clear hx7
     try clear p7
     try clear q7
     obtain ⟨kq, x22_2, rfl, HA, HJ2, HO_4, HB⟩ := hcut
     cases kq with
     | zero => exact absurd HA.out (by simp [spileref09_Words.j1])
     | succ kj2 =>
      have H := HA.out; clear HA; simp only [spileref09_Words.j1] at H; by_cases c8 : x22_2 = true
      ·
       subst c8; have H1 : (if x6_1 = x5_1 then (some (([] : List ByteArray), false)) else (if 0 ≤ x5_1 then (if x5_1 ≤ x6_1 then (if x6_1 ≤ (a0.size : Int) then (if x4_1.length < 8796093022208 then (spileref09_Words.l0 kj2 a0 (x4_1 ++ [a0.extract (x5_1 : Int).toNat (x6_1 : Int).toNat]) (wrap64 (x6_1 + 1)) (wrap64 (x6_1 + 1))) else (none)) else (none)) else (none)) else (none))) = some (r1, r2) := by rw [if_pos rfl] at H; exact H
       clear H; have H := H1; clear H1; by_cases c9 : x6_1 = x5_1
       ·
        rw [if_pos c9] at H; have c9b0 : (x6_1 == x5_1) = true := beq_iff_eq.mpr c9; have c9b1 : (x6_1 != x5_1) = false := bne_eq_false_iff_eq.mpr c9; clear c9; simp only [Option.some.injEq, Prod.mk.injEq] at H; obtain ⟨rfl, rfl⟩ := H; go_wp2; go_ret2
        exact ⟨_, by first | rfl | (simp [errW_none, errW_some] <;> rfl) | (simp [*, errW_none, errW_some] <;> rfl), by first | exact Kd.R_nil _ _ _ _ _ | exact Kd.N_nil _ _ _ _ _ | exact Kd.V_nil _ _ _ _ _ | exact Kd.Q_nil _ _ _ _ _ | exact Kd.S_nil _ _ _ _ _, by repeat (first | (with_reducible first | exact HB.out | apply below_alloc | apply pw_below_drewN | apply below_drew1) | exact HB.out)⟩
       ·
        rw [if_neg c9] at H; have c9b0 : (x6_1 == x5_1) = false := beq_eq_false_iff_ne.mpr c9; have c9b1 : (x6_1 != x5_1) = true := bne_iff_ne.mpr c9; by_cases c10 : 0 ≤ x5_1
        ·
         rw [if_pos c10] at H; have c10b0 := eq_true c10; have c10b1 : decide (0 ≤ x5_1) = true := decide_eq_true c10; clear c10; by_cases c11 : x5_1 ≤ x6_1
         ·
          rw [if_pos c11] at H; have c11b0 := eq_true c11; have c11b1 : decide (x5_1 ≤ x6_1) = true := decide_eq_true c11; clear c11; by_cases c12 : x6_1 ≤ (a0.size : Int)
          ·
           rw [if_pos c12] at H; have c12b0 := eq_true c12; have c12b1 : decide (x6_1 ≤ (a0.size : Int)) = true := decide_eq_true c12; clear c12; by_cases c13 : x4_1.length < 8796093022208
           ·
            rw [if_pos c13] at H; have LMc13 := Aside0.mk c13; clear c13; obtain ⟨y291, hy291⟩ : ∃ y_ : List ByteArray, y_ = (x4_1 ++ [a0.extract (x5_1 : Int).toNat (x6_1 : Int).toNat]) := ⟨_, rfl⟩; replace H : (spileref09_Words.l0 kj2 a0 y291 (wrap64 (x6_1 + 1)) (wrap64 (x6_1 + 1))) = some (r1, r2) := by first | (rw [hy291]; with_reducible exact H) | (have H2_ := (Option.bind_some _ _).symm.trans H; rw [hy291]; with_reducible exact H2_) | (have H2_ := (Option.bind_some _ _).symm.trans H; with_reducible exact H2_) | with_reducible exact H | (rw [hy291]; exact H) | exact H
            have Ny291 := Aside0.mk hy291; clear hy291; have H' := Aside0.mk H; clear H; go_wp2_with (first | ((with_reducible refine gate_builtin (b := .append) (xs := #[.tmp 26, .tmp 31]) rfl ?_); at_builtin; refine Kd.R_append Kd.string (w0 := w) w.heap.size rfl (.tmp 26) (.tmp 31) 79 9 (.string ⟨#[]⟩) 16 rfl Tryd.underlying79 info9 rfl (by decide) (by omega) u4 x4_1 (a0.extract (x5_1 : Int).toNat (x6_1 : Int).toNat) [.string (a0.extract (x5_1 : Int).toNat (x6_1 : Int).toNat)] (fun _ => True) (fun _ => False) rfl rfl ?aP (fun _ hk => hk.elim) ?aF ?aO ?aB ?aS ?aL ?_; (case aP => exact rfl); (case aB => exact (by repeat (first | (with_reducible first | exact HB.out | apply below_alloc | apply pw_below_drewN | apply below_drew1) | exact HB.out))); (case aF => exact (fun _ _ => trivial)); (case aO => exact (by (with_reducible repeat (first | apply Kd.R_alloc | apply Kd.R_drewN | apply Kd.R_drew)); exact HO_4.out)); (case aS => exact (below_size (by repeat (first | (with_reducible first | exact HB.out | apply below_alloc | apply pw_below_drewN | apply below_drew1) | exact HB.out)))); (case aL => have := LMc13.out; omega); intro v292 w14 ho hb hg hat; rw [← Ny291.out] at ho; have n0_ := Aside0.mk (hb); have n1_ := Aside0.mk (ho); clear HB; clear HO_4; have HB := n0_; have HO293 := n1_; clear n0_ n1_; clear ho hb hg hat))
            go_roundg kj2
            case measure => have := HK1.out; have := HJ2.out; omega
            case rel => exact ⟨(y291), (wrap64 (x6_1 + 1)), (wrap64 (x6_1 + 1)), (by first | rfl | (simp; done) | (simp [*]; done)), (by first | rfl | (simp; done) | (simp [*]; done)), H', ⟨by have := HK1.out; have := HJ2.out; omega⟩, ⟨by (with_reducible repeat (first | apply Kd.R_alloc | apply Kd.R_drewN | apply Kd.R_drew)); exact HO293.out⟩, ⟨by repeat (first | (with_reducible first | exact HB.out | apply below_alloc | apply pw_below_drewN | apply below_drew1) | exact HB.out)⟩⟩
           · rw [if_neg c13] at H; exact absurd H (by simp)
          · rw [if_neg c12] at H; exact absurd H (by simp)
         · rw [if_neg c11] at H; exact absurd H (by simp)
        · rw [if_neg c10] at H; exact absurd H (by simp)
      ·
       replace c8 := Bool.eq_false_iff.mpr c8; subst c8; have H1 : (spileref09_Words.l0 kj2 a0 x4_1 x5_1 (wrap64 (x6_1 + 1))) = some (r1, r2) := by rw [if_neg (show ¬ (false = true) by decide)] at H; exact H
       clear H; have H := H1; clear H1; have H' := Aside0.mk H; clear H; go_wp2; go_roundg kj2
       case measure => have := HK1.out; have := HJ2.out; omega
       case rel => exact ⟨(x4_1), (x5_1), (wrap64 (x6_1 + 1)), (by first | rfl | (simp; done) | (simp [*]; done)), (by first | rfl | (simp; done) | (simp [*]; done)), H', ⟨by have := HK1.out; have := HJ2.out; omega⟩, ⟨by (with_reducible repeat (first | apply Kd.R_alloc | apply Kd.R_drewN | apply Kd.R_drew)); exact HO_4.out⟩, ⟨by repeat (first | (with_reducible first | exact HB.out | apply below_alloc | apply pw_below_drewN | apply below_drew1) | exact HB.out)⟩⟩
   ·
    rw [if_neg c2] at H; have c2b0 : decide (x6_1 ≤ (a0.size : Int)) = false := decide_eq_false c2; clear c2; simp only [Option.some.injEq, Prod.mk.injEq] at H; obtain ⟨rfl, rfl⟩ := H; go_wp2; go_ret2
    exact ⟨_, by first | rfl | (simp [errW_none, errW_some] <;> rfl) | (simp [*, errW_none, errW_some] <;> rfl), by (with_reducible repeat (first | apply Kd.R_alloc | apply Kd.R_drewN | apply Kd.R_drew)); exact HO_4.out, by repeat (first | (with_reducible first | exact HB.out | apply below_alloc | apply pw_below_drewN | apply below_drew1) | exact HB.out)⟩
mutual
def spileref09_Number.l0 : Nat → ByteArray → Int → Int → Option (Int × Bool)
 | 0, _, _, _ => none
 | k + 1, x0, x4, x5 => if x5 < (x0.size : Int) then (if 0 ≤ x5 then (if (bt x0 x5) < 48 then (spileref09_Number.j1 k x0 x4 x5 true) else (spileref09_Number.j1 k x0 x4 x5 (decide ((bt x0 x5) > 57)))) else (none)) else (if (x0.size : Int) ≥ 1 then (if (x0.size : Int) ≤ 10 then (if (x0.size : Int) = 1 then (some (x4, true)) else (if 0 < (x0.size : Int) then (some (x4, ((bt x0 0) != 48))) else (none))) else (some (x4, false))) else (some (x4, false)))
def spileref09_Number.j1 : Nat → ByteArray → Int → Int → Bool → Option (Int × Bool)
 | 0, _, _, _, _ => none
 | k + 1, x0, x4, x5, x21 => if x21 = true then (some (0, false)) else (if x5 < 10 then (if 0 ≤ x5 then (if x5 < (x0.size : Int) then (spileref09_Number.l0 k x0 (wrap64 ((wrap64 (10 * x4)) + (((bt x0 x5) - 48) % 256))) (wrap64 (x5 + 1))) else (none)) else (none)) else (spileref09_Number.l0 k x0 x4 (wrap64 (x5 + 1))))
end
def spileref09_Number.f (k : Nat) (a0 : ByteArray) : Option (Int × Bool) := spileref09_Number.l0 k a0 0 0
set_option maxHeartbeats 8000000 in
set_option maxRecDepth 100000 in
theorem spileref09_Number.calls (k : Nat) (a0 : ByteArray) (r1 : Int) (r2 : Bool) (w : World) (h : spileref09_Number.f k a0 = some (r1, r2)) :
  Calls Tryd.prog 69 #[.string a0] w fun e w' => e = .returned (.tuple #[.int .i64 r1, .bool r2]) ∧ Drawn0 w w' := by
 have H : (spileref09_Number.l0 k a0 0 0) = some (r1, r2) := h; clear h; have H' := Aside0.mk H; clear H; go_enter Tryd.func69, Tryd.ntmps69
 go_wp2; repeat (go_quiet (fail); try go_wp2)
 go_loopg [4, 5] k (fun kq v4 v5 w' => ∃ (x4_1 : Int) (x5_1 : Int), v4 = .int .i64 x4_1 ∧ v5 = .int .i64 x5_1 ∧ Aside0 (spileref09_Number.l0 kq a0 x4_1 x5_1 = some (r1, r2)) ∧ Aside0 (kq ≤ k) ∧ Drawn0 w w')
 case atStart => exact ⟨(0), (0), (by first | rfl | (simp; done) | (simp [*]; done)), (by first | rfl | (simp; done) | (simp [*]; done)), H', ⟨Nat.le_refl _⟩, by repeat (first | exact Drawn0.refl _ | apply Drawn0.step)⟩
 case round =>
  clear H'; obtain ⟨x4_1, x5_1, rfl, rfl, HA, HK1, ⟨m1, rfl⟩⟩ := hrel
  cases gk with
  | zero => exact absurd HA.out (by simp [spileref09_Number.l0])
  | succ k1 =>
   have H := HA.out; clear HA; simp only [spileref09_Number.l0] at H; by_cases c2 : x5_1 < (a0.size : Int)
   ·
    rw [if_pos c2] at H; have c2b0 : decide (x5_1 < (a0.size : Int)) = true := decide_eq_true c2; clear c2; have HC3 := Aside0.mk H; clear H; go_upto_region 5 with (fail)
    repeat (go_quiet (fail); go_upto_region 5 with (fail))
    go_cut [21] (fun v21 wc => ∃ (kq : Nat) (x21_2 : Bool), v21 = .bool x21_2 ∧ Aside0 (spileref09_Number.j1 kq a0 x4_1 x5_1 x21_2 = some (r1, r2)) ∧ Aside0 (kq ≤ k1) ∧ Drawn0 w wc)
    case first =>
     have H := HC3.out; clear HC3; by_cases c4 : 0 ≤ x5_1
     ·
      rw [if_pos c4] at H; have c4b0 : decide (0 ≤ x5_1) = true := decide_eq_true c4; clear c4; (first | rw [c4b0] | (simp only [i64_w, i32_w]; rw [c4b0]) | skip)
      by_cases c6 : (bt a0 x5_1) < 48
      ·
       rw [if_pos c6] at H; have c6b0 : decide ((bt a0 x5_1) < 48) = true := decide_eq_true c6; clear c6; have H' := Aside0.mk H; clear H; have p5 : 0 ≤ (x5_1 : Int) := of_decide_eq_true (by first | (with_reducible assumption) | assumption); have q5 : x5_1 < (a0.size : Int) := of_decide_eq_true (by first | (with_reducible assumption) | assumption); have hx5 := bt_at a0 x5_1; replace p5 := eq_true p5; replace q5 := eq_true q5; go_wp2; repeat (go_quiet (fail); try go_wp2)
       go_meet
       case rel => exact ⟨_, (true), (by first | rfl | (simp; done) | (simp [*]; done)), H', ⟨by have := HK1.out; first | omega | exact Nat.le_refl _⟩, by repeat (first | exact Drawn0.refl _ | apply Drawn0.step)⟩
      ·
       rw [if_neg c6] at H; have c6b0 : decide ((bt a0 x5_1) < 48) = false := decide_eq_false c6; clear c6; have H' := Aside0.mk H; clear H; have p5 : 0 ≤ (x5_1 : Int) := of_decide_eq_true (by first | (with_reducible assumption) | assumption); have q5 : x5_1 < (a0.size : Int) := of_decide_eq_true (by first | (with_reducible assumption) | assumption); have hx5 := bt_at a0 x5_1; replace p5 := eq_true p5; replace q5 := eq_true q5; have p7 : 0 ≤ (x5_1 : Int) := of_decide_eq_true (by first | (with_reducible assumption) | assumption); have q7 : x5_1 < (a0.size : Int) := of_decide_eq_true (by first | (with_reducible assumption) | assumption); have hx7 := bt_at a0 x5_1; replace p7 := eq_true p7; replace q7 := eq_true q7; go_wp2; repeat (go_quiet (fail); try go_wp2)
       go_meet
       case rel => exact ⟨_, (decide ((bt a0 x5_1) > 57)), (by first | rfl | (simp; done) | (simp [*]; done)), H', ⟨by have := HK1.out; first | omega | exact Nat.le_refl _⟩, by repeat (first | exact Drawn0.refl _ | apply Drawn0.step)⟩
     · rw [if_neg c4] at H; exact absurd H (by simp)
    case rest =>
     clear HC3; try clear c2
     try clear c2b0
     try clear p2
     try clear c4
     try clear c4b0
     try clear p5
     try clear q5
     try clear hx5
     try clear c6
     try clear c6b0
     try clear p7
     try clear q7
     try clear hx7
     try clear p5
     try clear p7
     try clear q5
     try clear q7
     obtain ⟨kq, x21_2, rfl, HA, HJ2, ⟨mc2, rfl⟩⟩ := hcut
     cases kq with
     | zero => exact absurd HA.out (by simp [spileref09_Number.j1])
     | succ kj2 =>
      have H := HA.out; clear HA; simp only [spileref09_Number.j1] at H; by_cases c8 : x21_2 = true
      ·
       subst c8; have H1 : (some (0, false)) = some (r1, r2) := by rw [if_pos rfl] at H; exact H
       clear H; have H := H1; clear H1; simp only [Option.some.injEq, Prod.mk.injEq] at H; obtain ⟨rfl, rfl⟩ := H; go_wp2; repeat (go_quiet (fail); try go_wp2)
       go_ret2
       exact ⟨by first | rfl | (simp; done) | (simp [*]; done), by repeat (first | exact Drawn0.refl _ | apply Drawn0.step)⟩
      ·
       replace c8 := Bool.eq_false_iff.mpr c8; subst c8; have H1 : (if x5_1 < 10 then (if 0 ≤ x5_1 then (if x5_1 < (a0.size : Int) then (spileref09_Number.l0 kj2 a0 (wrap64 ((wrap64 (10 * x4_1)) + (((bt a0 x5_1) - 48) % 256))) (wrap64 (x5_1 + 1))) else (none)) else (none)) else (spileref09_Number.l0 kj2 a0 x4_1 (wrap64 (x5_1 + 1)))) = some (r1, r2) := by rw [if_neg (show ¬ (false = true) by decide)] at H; exact H
       clear H; have H := H1; clear H1; by_cases c9 : x5_1 < 10
       ·
        rw [if_pos c9] at H; have c9b0 : decide (x5_1 < 10) = true := decide_eq_true c9; clear c9; by_cases c10 : 0 ≤ x5_1
        ·
         rw [if_pos c10] at H; have c10b0 : decide (0 ≤ x5_1) = true := decide_eq_true c10; clear c10; by_cases c11 : x5_1 < (a0.size : Int)
         ·
          rw [if_pos c11] at H; have c11b0 : decide (x5_1 < (a0.size : Int)) = true := decide_eq_true c11; clear c11; have H' := Aside0.mk H; clear H; have p12 : 0 ≤ (x5_1 : Int) := of_decide_eq_true (by first | (with_reducible assumption) | assumption); have q12 : x5_1 < (a0.size : Int) := of_decide_eq_true (by first | (with_reducible assumption) | assumption); have hx12 := bt_at a0 x5_1; replace p12 := eq_true p12; replace q12 := eq_true q12; go_wp2; repeat (go_quiet (fail); try go_wp2)
          go_roundg kj2
          case measure => have := HK1.out; have := HJ2.out; omega
          case rel => exact ⟨(wrap64 ((wrap64 (10 * x4_1)) + (((bt a0 x5_1) - 48) % 256))), (wrap64 (x5_1 + 1)), (by first | rfl | (simp; done) | (simp [*]; done)), (by first | rfl | (simp; done) | (simp [*]; done)), H', ⟨by have := HK1.out; have := HJ2.out; omega⟩, by repeat (first | exact Drawn0.refl _ | apply Drawn0.step)⟩
         · rw [if_neg c11] at H; exact absurd H (by simp)
        · rw [if_neg c10] at H; exact absurd H (by simp)
       ·
        rw [if_neg c9] at H; have c9b0 : decide (x5_1 < 10) = false := decide_eq_false c9; clear c9; have H' := Aside0.mk H; clear H; go_wp2; repeat (go_quiet (fail); try go_wp2)
        go_roundg kj2
        case measure => have := HK1.out; have := HJ2.out; omega
        case rel => exact ⟨(x4_1), (wrap64 (x5_1 + 1)), (by first | rfl | (simp; done) | (simp [*]; done)), (by first | rfl | (simp; done) | (simp [*]; done)), H', ⟨by have := HK1.out; have := HJ2.out; omega⟩, by repeat (first | exact Drawn0.refl _ | apply Drawn0.step)⟩
   ·
    rw [if_neg c2] at H; have c2b0 : decide (x5_1 < (a0.size : Int)) = false := decide_eq_false c2; clear c2; by_cases c13 : (a0.size : Int) ≥ 1
    ·
     rw [if_pos c13] at H; have c13b0 : decide (1 ≤ (a0.size : Int)) = true := decide_eq_true c13; have c13b1 : decide (1 ≤ a0.size) = true := decide_eq_true (by omega); clear c13; by_cases c14 : (a0.size : Int) ≤ 10
     ·
      rw [if_pos c14] at H; have c14b0 : decide ((a0.size : Int) ≤ 10) = true := decide_eq_true c14; have c14b1 : decide (a0.size ≤ 10) = true := decide_eq_true (by omega); clear c14; by_cases c15 : (a0.size : Int) = 1
      ·
       rw [if_pos c15] at H; have c15b0 : ((a0.size : Int) == 1) = true := beq_iff_eq.mpr c15; have c15b1 : ((a0.size : Int) != 1) = false := bne_eq_false_iff_eq.mpr c15; clear c15; simp only [Option.some.injEq, Prod.mk.injEq] at H; obtain ⟨rfl, rfl⟩ := H; go_wp2; repeat (go_quiet (fail); try go_wp2)
       go_ret2
       exact ⟨by first | rfl | (simp; done) | (simp [*]; done), by repeat (first | exact Drawn0.refl _ | apply Drawn0.step)⟩
      ·
       rw [if_neg c15] at H; have c15b0 : ((a0.size : Int) == 1) = false := beq_eq_false_iff_ne.mpr c15; have c15b1 : ((a0.size : Int) != 1) = true := bne_iff_ne.mpr c15; by_cases c16 : 0 < (a0.size : Int)
       ·
        rw [if_pos c16] at H; have c16b0 : decide (0 < (a0.size : Int)) = true := decide_eq_true c16; have c16b1 : decide (0 < a0.size) = true := decide_eq_true (by omega); clear c16; simp only [Option.some.injEq, Prod.mk.injEq] at H; obtain ⟨rfl, rfl⟩ := H; have p17 : 0 ≤ (0 : Int) := (by omega); have q17 : 0 < a0.size := (by have : (0 : Int) < (a0.size : Int) := of_decide_eq_true (by first | (with_reducible assumption) | assumption); omega); have hx17 : ∀ h : 0 < a0.size, ((a0[0]'h).toNat : Int) = bt a0 0 := bt_at a0 0; clear p17; have qi17 : (0 < (a0.size : Int)) = True := eq_true (of_decide_eq_true (by first | (with_reducible assumption) | assumption)); replace q17 := eq_true q17; go_wp2; repeat (go_quiet (fail); try go_wp2)
        go_ret2
        exact ⟨by first | rfl | (simp; done) | (simp [*]; done), by repeat (first | exact Drawn0.refl _ | apply Drawn0.step)⟩
       · rw [if_neg c16] at H; exact absurd H (by simp)
     ·
      rw [if_neg c14] at H; have c14b0 : decide ((a0.size : Int) ≤ 10) = false := decide_eq_false c14; have c14b1 : decide (a0.size ≤ 10) = false := decide_eq_false (by omega); clear c14; simp only [Option.some.injEq, Prod.mk.injEq] at H; obtain ⟨rfl, rfl⟩ := H; go_wp2; repeat (go_quiet (fail); try go_wp2)
      go_ret2
      exact ⟨by first | rfl | (simp; done) | (simp [*]; done), by repeat (first | exact Drawn0.refl _ | apply Drawn0.step)⟩
    ·
     rw [if_neg c13] at H; have c13b0 : decide (1 ≤ (a0.size : Int)) = false := decide_eq_false c13; have c13b1 : decide (1 ≤ a0.size) = false := decide_eq_false (by omega); clear c13; simp only [Option.some.injEq, Prod.mk.injEq] at H; obtain ⟨rfl, rfl⟩ := H; go_wp2; repeat (go_quiet (fail); try go_wp2)
     go_ret2
     exact ⟨by first | rfl | (simp; done) | (simp [*]; done), by repeat (first | exact Drawn0.refl _ | apply Drawn0.step)⟩
end Go.Proofs.YtnhmlneebnkjcaaDoor.Pr
namespace Go.Proofs.YtnhmlneebnkjcaaDoor.Pr
open Go.RowKit Go.Proofs.YtnhmlneebnkjcaaDoorW.PrintWords Go.Proofs.YtnhmlneebnkjcaaDoorW.PrintLast Go.Proofs.YtnhmlneebnkjcaaDoorW.PrintMore Go.Proofs.YtnhmlneebnkjcaaDoor.X
attribute [local go_sem] max2_int min2_int max_two min_two max_three min_three max_four min_four   -- for this text's walks alone
set_option linter.unusedVariables false
set_option linter.unusedSimpArgs false
def spileref09_head.j0 : Nat → List ByteArray → Bool → Option (ByteArray × Int × (List (S46)) × Int × Bool)
 | 0, _, _ => none
 | k + 1, x0, x33 => if x33 = true then (some ((⟨#[]⟩ : ByteArray), 0, ([] : List (S46)), 0, false)) else (if 4 < (x0.length : Int) then ((spileref09_Number.f k (rdOf ByteArray.empty x0 4)).bind fun bt301 => (if 1 < (x0.length : Int) then (if 2 < (x0.length : Int) then (if (rdOf ByteArray.empty x0 2).toList = ([108, 121, 105, 110, 103] : List UInt8) then (some (rdOf ByteArray.empty x0 1, 1, ([] : List (S46)), bt301.1, bt301.2)) else (some (rdOf ByteArray.empty x0 1, 2, ([] : List (S46)), bt301.1, bt301.2))) else (none)) else (none))) else (none))
def spileref09_head.f (k : Nat) (l0 : List ByteArray) : Option (ByteArray × Int × (List (S46)) × Int × Bool) := if (l0.length : Int) = 5 then (if 0 < (l0.length : Int) then (if (rdOf ByteArray.empty l0 0).toList = ([99, 97, 115, 107] : List UInt8) then (if 2 < (l0.length : Int) then (if (rdOf ByteArray.empty l0 2).toList = ([108, 121, 105, 110, 103] : List UInt8) then (if 3 < (l0.length : Int) then (spileref09_head.j0 k l0 ((rdOf ByteArray.empty l0 3).toList != ([100, 101, 99, 108, 97, 114, 101, 100] : List UInt8))) else (none)) else (if (rdOf ByteArray.empty l0 2).toList = ([115, 116, 97, 110, 100, 105, 110, 103] : List UInt8) then (if 3 < (l0.length : Int) then (spileref09_head.j0 k l0 ((rdOf ByteArray.empty l0 3).toList != ([100, 101, 99, 108, 97, 114, 101, 100] : List UInt8))) else (none)) else (spileref09_head.j0 k l0 true))) else (none)) else (spileref09_head.j0 k l0 true)) else (none)) else (spileref09_head.j0 k l0 true)
set_option maxHeartbeats 8000000 in
set_option maxRecDepth 100000 in
theorem spileref09_head.calls (k : Nat) (A0 : Option Addr) (c0 : Nat) (l0 : List ByteArray) (r1 : ByteArray) (r2 : Int) (r3 : List (S46)) (r4 : Int) (r5 : Bool) (w : World) (hr0 : Kd.C Kd.string w A0 l0.length l0) (hc0 : l0.length ≤ c0) (h : spileref09_head.f k l0 = some (r1, r2, r3, r4, r5)) :
  Calls Tryd.prog 50 #[.slice A0 l0.length c0] w fun e w' => ∃ v2_ : Value, e = .returned (.tuple #[.agg #[.string r1, .int .i64 r2, v2_, .int .i64 r4], .bool r5]) ∧ Kd.R k46 46 w' w.heap.size (fun _ => True) v2_ r3 ∧ Below w.heap.size w w' := by
 have hu27 := Tryd.underlying27; have HR0 := Aside0.mk hr0; have HC0 := Aside0.mk hc0; clear hr0 hc0; have HB := Aside0.mk (Below.refl w.heap.size w); have H : (if (l0.length : Int) = 5 then (if 0 < (l0.length : Int) then (if (rdOf ByteArray.empty l0 0).toList = ([99, 97, 115, 107] : List UInt8) then (if 2 < (l0.length : Int) then (if (rdOf ByteArray.empty l0 2).toList = ([108, 121, 105, 110, 103] : List UInt8) then (if 3 < (l0.length : Int) then (spileref09_head.j0 k l0 ((rdOf ByteArray.empty l0 3).toList != ([100, 101, 99, 108, 97, 114, 101, 100] : List UInt8))) else (none)) else (if (rdOf ByteArray.empty l0 2).toList = ([115, 116, 97, 110, 100, 105, 110, 103] : List UInt8) then (if 3 < (l0.length : Int) then (spileref09_head.j0 k l0 ((rdOf ByteArray.empty l0 3).toList != ([100, 101, 99, 108, 97, 114, 101, 100] : List UInt8))) else (none)) else (spileref09_head.j0 k l0 true))) else (none)) else (spileref09_head.j0 k l0 true)) else (none)) else (spileref09_head.j0 k l0 true)) = some (r1, r2, r3, r4, r5) := h; clear h; have HC2 := Aside0.mk H; clear H; go_enter Tryd.func50, Tryd.ntmps50
 go_upto_region 1 with (first | ((with_reducible refine gate_dst (N := 2) rfl ?_); refine box_event ?hg (N := 2) ?hd (cs := #[.string (⟨#[]⟩ : ByteArray), .int .i64 0, .slice none 0 0, .int .i64 0]) (t := 27) ?hr ?_; (case hd => rfl); (case hg => rfl); (case hr => first | (go_simp; done) | (go_simp; rfl)); intro gb294 hg w3 hbox hb; have n0_ := Aside0.mk (below_step (by repeat (first | (with_reducible first | exact HB.out | apply below_alloc | apply pw_below_drewN | apply below_drew1) | exact HB.out)) hb); have n1_ := Aside0.mk (hbox); have n2_ := Aside0.mk ((by rw [hg]; exact (below_size (by repeat (first | (with_reducible first | exact HB.out | apply below_alloc | apply pw_below_drewN | apply below_drew1) | exact HB.out))) : w.heap.size ≤ gb294)); have n3_ := Aside0.mk ((by rw [hg]; exact (below_size (by repeat (first | (with_reducible first | exact HB.out | apply below_alloc | apply pw_below_drewN | apply below_drew1) | exact HB.out))) : w.heap.size ≤ gb294)); clear HB; have HB := n0_; have BK294 := n1_; have GW294 := n2_; have GE294 := n3_; clear n0_ n1_ n2_ n3_; clear hb hbox hg))
 (try simp only [Act.put, sIA, sC0, sCS])
 go_cut [33] (fun v33 wc => ∃ (kq : Nat) (x33_1 : Bool), v33 = .bool x33_1 ∧ Aside0 (spileref09_head.j0 kq l0 x33_1 = some (r1, r2, r3, r4, r5)) ∧ Aside0 (kq ≤ k) ∧ Aside0 (wc.heap[gb294]? = some (.cells #[.string (⟨#[]⟩ : ByteArray), .int .i64 0, (.slice none 0 0), .int .i64 0] 27 (0, 0))) ∧ Aside0 (Below w.heap.size w wc))
 case first =>
  have H := HC2.out; clear HC2; by_cases c4 : (l0.length : Int) = 5
  ·
   rw [if_pos c4] at H; have c4b0 : ((l0.length : Int) == 5) = true := beq_iff_eq.mpr c4; have c4b1 : ((l0.length : Int) != 5) = false := bne_eq_false_iff_eq.mpr c4; clear c4; (first | rw [c4b0] | (simp only [i64_w, i32_w]; rw [c4b0]) | skip)
   by_cases c5 : 0 < (l0.length : Int)
   ·
    rw [if_pos c5] at H; have c5b0 : decide (0 < (l0.length : Int)) = true := decide_eq_true c5; have c5b1 : decide (0 < l0.length) = true := decide_eq_true (by omega); clear c5; by_cases c6 : (rdOf ByteArray.empty l0 0).toList = ([99, 97, 115, 107] : List UInt8)
    ·
     rw [if_pos c6] at H; have c6b0 : ((rdOf ByteArray.empty l0 0).toList == ([99, 97, 115, 107] : List UInt8)) = true := beq_iff_eq.mpr c6; have c6b1 : ((rdOf ByteArray.empty l0 0).toList != ([99, 97, 115, 107] : List UInt8)) = false := bne_eq_false_iff_eq.mpr c6; clear c6; by_cases c7 : 2 < (l0.length : Int)
     ·
      rw [if_pos c7] at H; have c7b0 : decide (2 < (l0.length : Int)) = true := decide_eq_true c7; have c7b1 : decide (2 < l0.length) = true := decide_eq_true (by omega); clear c7; by_cases c8 : (rdOf ByteArray.empty l0 2).toList = ([108, 121, 105, 110, 103] : List UInt8)
      ·
       rw [if_pos c8] at H; have c8b0 : ((rdOf ByteArray.empty l0 2).toList == ([108, 121, 105, 110, 103] : List UInt8)) = true := beq_iff_eq.mpr c8; have c8b1 : ((rdOf ByteArray.empty l0 2).toList != ([108, 121, 105, 110, 103] : List UInt8)) = false := bne_eq_false_iff_eq.mpr c8; clear c8; by_cases c9 : 3 < (l0.length : Int)
       ·
        rw [if_pos c9] at H; have c9b0 : decide (3 < (l0.length : Int)) = true := decide_eq_true c9; have c9b1 : decide (3 < l0.length) = true := decide_eq_true (by omega); clear c9; have H' := Aside0.mk H; clear H; have p295 : 0 ≤ (0 : Int) := (by omega); have q295 : 0 < (l0.length : Int) := of_decide_eq_true (by first | (with_reducible assumption) | assumption); obtain ⟨ad295, e295, hx295_0⟩ := Kd.at_string HR0.out 0 p295 q295; cases e295; have qi295 : (0 < l0.length) = True := eq_true (by omega); (try rw [show ((0 : Int)).toNat = 0 from rfl] at hx295_0)
        (try rw [Addr.add_zero'] at hx295_0)
        replace hx295_0 := (HB.out.cell (World.block_lt_of_cell? w _ hx295_0)).trans hx295_0; replace p295 := eq_true p295; replace q295 := eq_true q295; have p296 : 0 ≤ (2 : Int) := (by omega); have q296 : 2 < (l0.length : Int) := of_decide_eq_true (by first | (with_reducible assumption) | assumption); obtain ⟨ad296, e296, hx296_0⟩ := Kd.at_string HR0.out 2 p296 q296; obtain rfl : ad295 = ad296 := (by injection e296); (try simp only [show (2 : Int).toNat = 2 from rfl, Nat.reduceMul, Nat.reduceEqDiff, Go.Addr.add, ↓reduceIte] at hx296_0)
        have qi296 : (2 < l0.length) = True := eq_true (by omega); (try rw [show ((2 : Int)).toNat = 2 from rfl] at hx296_0)
        replace hx296_0 := (HB.out.cell (World.block_lt_of_cell? w _ hx296_0)).trans hx296_0; replace p296 := eq_true p296; replace q296 := eq_true q296; have p297 : 0 ≤ (3 : Int) := (by omega); have q297 : 3 < (l0.length : Int) := of_decide_eq_true (by first | (with_reducible assumption) | assumption); obtain ⟨ad297, e297, hx297_0⟩ := Kd.at_string HR0.out 3 p297 q297; obtain rfl : ad295 = ad297 := (by injection e297); (try simp only [show (3 : Int).toNat = 3 from rfl, Nat.reduceMul, Nat.reduceEqDiff, Go.Addr.add, ↓reduceIte] at hx297_0)
        have qi297 : (3 < l0.length) = True := eq_true (by omega); (try rw [show ((3 : Int)).toNat = 3 from rfl] at hx297_0)
        replace hx297_0 := (HB.out.cell (World.block_lt_of_cell? w _ hx297_0)).trans hx297_0; replace p297 := eq_true p297; replace q297 := eq_true q297; go_wp2; go_meet
        case rel => exact ⟨_, (((rdOf ByteArray.empty l0 3).toList != ([100, 101, 99, 108, 97, 114, 101, 100] : List UInt8))), (by first | rfl | (simp; done) | (simp [*]; done)), H', ⟨by first | omega | exact Nat.le_refl _⟩, ⟨by (with_reducible repeat (first | refine blk_drewN ?_ _ | refine blk_drew ?_ | refine blk_alloc ?_ _)); exact BK294.out⟩, ⟨by repeat (first | (with_reducible first | exact HB.out | apply below_alloc | apply pw_below_drewN | apply below_drew1 | refine below_set ?_ GE294.out) | exact HB.out)⟩⟩
       · rw [if_neg c9] at H; exact absurd H (by simp)
      ·
       rw [if_neg c8] at H; have c8b0 : ((rdOf ByteArray.empty l0 2).toList == ([108, 121, 105, 110, 103] : List UInt8)) = false := beq_eq_false_iff_ne.mpr c8; have c8b1 : ((rdOf ByteArray.empty l0 2).toList != ([108, 121, 105, 110, 103] : List UInt8)) = true := bne_iff_ne.mpr c8; by_cases c10 : (rdOf ByteArray.empty l0 2).toList = ([115, 116, 97, 110, 100, 105, 110, 103] : List UInt8)
       ·
        rw [if_pos c10] at H; have c10b0 : ((rdOf ByteArray.empty l0 2).toList == ([115, 116, 97, 110, 100, 105, 110, 103] : List UInt8)) = true := beq_iff_eq.mpr c10; have c10b1 : ((rdOf ByteArray.empty l0 2).toList != ([115, 116, 97, 110, 100, 105, 110, 103] : List UInt8)) = false := bne_eq_false_iff_eq.mpr c10; clear c10; by_cases c11 : 3 < (l0.length : Int)
        ·
         rw [if_pos c11] at H; have c11b0 : decide (3 < (l0.length : Int)) = true := decide_eq_true c11; have c11b1 : decide (3 < l0.length) = true := decide_eq_true (by omega); clear c11; have H' := Aside0.mk H; clear H; have p295 : 0 ≤ (0 : Int) := (by omega); have q295 : 0 < (l0.length : Int) := of_decide_eq_true (by first | (with_reducible assumption) | assumption); obtain ⟨ad295, e295, hx295_0⟩ := Kd.at_string HR0.out 0 p295 q295; cases e295; have qi295 : (0 < l0.length) = True := eq_true (by omega); (try rw [show ((0 : Int)).toNat = 0 from rfl] at hx295_0)
         (try rw [Addr.add_zero'] at hx295_0)
         replace hx295_0 := (HB.out.cell (World.block_lt_of_cell? w _ hx295_0)).trans hx295_0; replace p295 := eq_true p295; replace q295 := eq_true q295; have p296 : 0 ≤ (2 : Int) := (by omega); have q296 : 2 < (l0.length : Int) := of_decide_eq_true (by first | (with_reducible assumption) | assumption); obtain ⟨ad296, e296, hx296_0⟩ := Kd.at_string HR0.out 2 p296 q296; obtain rfl : ad295 = ad296 := (by injection e296); (try simp only [show (2 : Int).toNat = 2 from rfl, Nat.reduceMul, Nat.reduceEqDiff, Go.Addr.add, ↓reduceIte] at hx296_0)
         have qi296 : (2 < l0.length) = True := eq_true (by omega); (try rw [show ((2 : Int)).toNat = 2 from rfl] at hx296_0)
         replace hx296_0 := (HB.out.cell (World.block_lt_of_cell? w _ hx296_0)).trans hx296_0; replace p296 := eq_true p296; replace q296 := eq_true q296; have p298 : 0 ≤ (2 : Int) := (by omega); have q298 : 2 < (l0.length : Int) := of_decide_eq_true (by first | (with_reducible assumption) | assumption); obtain ⟨ad298, e298, hx298_0⟩ := Kd.at_string HR0.out 2 p298 q298; obtain rfl : ad295 = ad298 := (by injection e298); (try simp only [show (2 : Int).toNat = 2 from rfl, Nat.reduceMul, Nat.reduceEqDiff, Go.Addr.add, ↓reduceIte] at hx298_0)
         have qi298 : (2 < l0.length) = True := eq_true (by omega); (try rw [show ((2 : Int)).toNat = 2 from rfl] at hx298_0)
         replace hx298_0 := (HB.out.cell (World.block_lt_of_cell? w _ hx298_0)).trans hx298_0; replace p298 := eq_true p298; replace q298 := eq_true q298; have p299 : 0 ≤ (3 : Int) := (by omega); have q299 : 3 < (l0.length : Int) := of_decide_eq_true (by first | (with_reducible assumption) | assumption); obtain ⟨ad299, e299, hx299_0⟩ := Kd.at_string HR0.out 3 p299 q299; obtain rfl : ad295 = ad299 := (by injection e299); (try simp only [show (3 : Int).toNat = 3 from rfl, Nat.reduceMul, Nat.reduceEqDiff, Go.Addr.add, ↓reduceIte] at hx299_0)
         have qi299 : (3 < l0.length) = True := eq_true (by omega); (try rw [show ((3 : Int)).toNat = 3 from rfl] at hx299_0)
         replace hx299_0 := (HB.out.cell (World.block_lt_of_cell? w _ hx299_0)).trans hx299_0; replace p299 := eq_true p299; replace q299 := eq_true q299; go_wp2; go_meet
         case rel => exact ⟨_, (((rdOf ByteArray.empty l0 3).toList != ([100, 101, 99, 108, 97, 114, 101, 100] : List UInt8))), (by first | rfl | (simp; done) | (simp [*]; done)), H', ⟨by first | omega | exact Nat.le_refl _⟩, ⟨by (with_reducible repeat (first | refine blk_drewN ?_ _ | refine blk_drew ?_ | refine blk_alloc ?_ _)); exact BK294.out⟩, ⟨by repeat (first | (with_reducible first | exact HB.out | apply below_alloc | apply pw_below_drewN | apply below_drew1 | refine below_set ?_ GE294.out) | exact HB.out)⟩⟩
        · rw [if_neg c11] at H; exact absurd H (by simp)
       ·
        rw [if_neg c10] at H; have c10b0 : ((rdOf ByteArray.empty l0 2).toList == ([115, 116, 97, 110, 100, 105, 110, 103] : List UInt8)) = false := beq_eq_false_iff_ne.mpr c10; have c10b1 : ((rdOf ByteArray.empty l0 2).toList != ([115, 116, 97, 110, 100, 105, 110, 103] : List UInt8)) = true := bne_iff_ne.mpr c10; have H' := Aside0.mk H; clear H; have p295 : 0 ≤ (0 : Int) := (by omega); have q295 : 0 < (l0.length : Int) := of_decide_eq_true (by first | (with_reducible assumption) | assumption); obtain ⟨ad295, e295, hx295_0⟩ := Kd.at_string HR0.out 0 p295 q295; cases e295; have qi295 : (0 < l0.length) = True := eq_true (by omega); (try rw [show ((0 : Int)).toNat = 0 from rfl] at hx295_0)
        (try rw [Addr.add_zero'] at hx295_0)
        replace hx295_0 := (HB.out.cell (World.block_lt_of_cell? w _ hx295_0)).trans hx295_0; replace p295 := eq_true p295; replace q295 := eq_true q295; have p296 : 0 ≤ (2 : Int) := (by omega); have q296 : 2 < (l0.length : Int) := of_decide_eq_true (by first | (with_reducible assumption) | assumption); obtain ⟨ad296, e296, hx296_0⟩ := Kd.at_string HR0.out 2 p296 q296; obtain rfl : ad295 = ad296 := (by injection e296); (try simp only [show (2 : Int).toNat = 2 from rfl, Nat.reduceMul, Nat.reduceEqDiff, Go.Addr.add, ↓reduceIte] at hx296_0)
        have qi296 : (2 < l0.length) = True := eq_true (by omega); (try rw [show ((2 : Int)).toNat = 2 from rfl] at hx296_0)
        replace hx296_0 := (HB.out.cell (World.block_lt_of_cell? w _ hx296_0)).trans hx296_0; replace p296 := eq_true p296; replace q296 := eq_true q296; have p298 : 0 ≤ (2 : Int) := (by omega); have q298 : 2 < (l0.length : Int) := of_decide_eq_true (by first | (with_reducible assumption) | assumption); obtain ⟨ad298, e298, hx298_0⟩ := Kd.at_string HR0.out 2 p298 q298; obtain rfl : ad295 = ad298 := (by injection e298); (try simp only [show (2 : Int).toNat = 2 from rfl, Nat.reduceMul, Nat.reduceEqDiff, Go.Addr.add, ↓reduceIte] at hx298_0)
        have qi298 : (2 < l0.length) = True := eq_true (by omega); (try rw [show ((2 : Int)).toNat = 2 from rfl] at hx298_0)
        replace hx298_0 := (HB.out.cell (World.block_lt_of_cell? w _ hx298_0)).trans hx298_0; replace p298 := eq_true p298; replace q298 := eq_true q298; go_wp2; go_meet
        case rel => exact ⟨_, (true), (by first | rfl | (simp; done) | (simp [*]; done)), H', ⟨by first | omega | exact Nat.le_refl _⟩, ⟨by (with_reducible repeat (first | refine blk_drewN ?_ _ | refine blk_drew ?_ | refine blk_alloc ?_ _)); exact BK294.out⟩, ⟨by repeat (first | (with_reducible first | exact HB.out | apply below_alloc | apply pw_below_drewN | apply below_drew1 | refine below_set ?_ GE294.out) | exact HB.out)⟩⟩
     · rw [if_neg c7] at H; exact absurd H (by simp)
    ·
     rw [if_neg c6] at H; have c6b0 : ((rdOf ByteArray.empty l0 0).toList == ([99, 97, 115, 107] : List UInt8)) = false := beq_eq_false_iff_ne.mpr c6; have c6b1 : ((rdOf ByteArray.empty l0 0).toList != ([99, 97, 115, 107] : List UInt8)) = true := bne_iff_ne.mpr c6; have H' := Aside0.mk H; clear H; have p295 : 0 ≤ (0 : Int) := (by omega); have q295 : 0 < (l0.length : Int) := of_decide_eq_true (by first | (with_reducible assumption) | assumption); obtain ⟨ad295, e295, hx295_0⟩ := Kd.at_string HR0.out 0 p295 q295; cases e295; have qi295 : (0 < l0.length) = True := eq_true (by omega); (try rw [show ((0 : Int)).toNat = 0 from rfl] at hx295_0)
     (try rw [Addr.add_zero'] at hx295_0)
     replace hx295_0 := (HB.out.cell (World.block_lt_of_cell? w _ hx295_0)).trans hx295_0; replace p295 := eq_true p295; replace q295 := eq_true q295; go_wp2; go_meet
     case rel => exact ⟨_, (true), (by first | rfl | (simp; done) | (simp [*]; done)), H', ⟨by first | omega | exact Nat.le_refl _⟩, ⟨by (with_reducible repeat (first | refine blk_drewN ?_ _ | refine blk_drew ?_ | refine blk_alloc ?_ _)); exact BK294.out⟩, ⟨by repeat (first | (with_reducible first | exact HB.out | apply below_alloc | apply pw_below_drewN | apply below_drew1 | refine below_set ?_ GE294.out) | exact HB.out)⟩⟩
   · rw [if_neg c5] at H; exact absurd H (by simp)
  ·
   rw [if_neg c4] at H; have c4b0 : ((l0.length : Int) == 5) = false := beq_eq_false_iff_ne.mpr c4; have c4b1 : ((l0.length : Int) != 5) = true := bne_iff_ne.mpr c4; (first | rw [c4b0] | (simp only [i64_w, i32_w]; rw [c4b0]) | skip)
   have H' := Aside0.mk H; clear H; go_wp2; go_meet
   case rel => exact ⟨_, (true), (by first | rfl | (simp; done) | (simp [*]; done)), H', ⟨by first | omega | exact Nat.le_refl _⟩, ⟨by (with_reducible repeat (first | refine blk_drewN ?_ _ | refine blk_drew ?_ | refine blk_alloc ?_ _)); exact BK294.out⟩, ⟨by repeat (first | (with_reducible first | exact HB.out | apply below_alloc | apply pw_below_drewN | apply below_drew1 | refine below_set ?_ GE294.out) | exact HB.out)⟩⟩
 case rest =>
  clear HC2; try clear c1
  try clear p2
  try clear q2
  try clear hx2
  try clear qi2
  try clear c4
  try clear c4b0
  try clear c4b1
  try clear c5
  try clear c5b0
  try clear c5b1
  try clear c6
  try clear c6b0
  try clear c6b1
  try clear c7
  try clear c7b0
  try clear c7b1
  try clear c8
  try clear c8b0
  try clear c8b1
  try clear c9
  try clear c9b0
  try clear c9b1
  try clear c10
  try clear c10b0
  try clear c10b1
  try clear c11
  try clear c11b0
  try clear c11b1
  try clear hx295_0
  try clear hx296_0
  try clear hx297_0
  try clear hx298_0
  try clear hx299_0
  try clear p295
  try clear p296
  try clear p297
  try clear p298
  try clear p299
  try clear q295
  try clear q296
  try clear q297
  try clear q298
  try clear q299
  obtain ⟨kq, x33_1, rfl, HA, HJ1, BK294, HB⟩ := hcut
  cases kq with
  | zero => exact absurd HA.out (by simp [spileref09_head.j0])
  | succ kj1 =>
   have H := HA.out; clear HA; simp only [spileref09_head.j0] at H; by_cases c12 : x33_1 = true
   ·
    subst c12; have H1 : (some ((⟨#[]⟩ : ByteArray), 0, ([] : List (S46)), 0, false)) = some (r1, r2, r3, r4, r5) := by rw [if_pos rfl] at H; exact H
    clear H; have H := H1; clear H1; simp only [Option.some.injEq, Prod.mk.injEq] at H; obtain ⟨rfl, rfl, rfl, rfl, rfl⟩ := H; have hcz13_0 : wc.cell? ⟨gb294, 0, none⟩ = some (.string (⟨#[]⟩ : ByteArray)) := (blk_cell BK294.out 0).trans rfl; have hcz13_1 : wc.cell? ⟨gb294, 1, none⟩ = some (.int .i64 0) := (blk_cell BK294.out 1).trans rfl; have hcz13_2 : wc.cell? ⟨gb294, 2, none⟩ = some (.slice none 0 0) := (blk_cell BK294.out 2).trans rfl; have hcz13_3 : wc.cell? ⟨gb294, 3, none⟩ = some (.int .i64 0) := (blk_cell BK294.out 3).trans rfl; have hfz13_0 := blk_frozen BK294.out 0; have hfz13_1 := blk_frozen BK294.out 1; have hfz13_2 := blk_frozen BK294.out 2; have hfz13_3 := blk_frozen BK294.out 3; go_wp2; refine bodyPost_ret (results_ct rfl _ _ gb294 27 #[.string (⟨#[]⟩ : ByteArray), .int .i64 0, .slice none 0 0, .int .i64 0] (0, 0) _ rfl (by (with_reducible repeat (first | refine blk_drewN ?_ _ | refine blk_drew ?_ | refine blk_alloc ?_ _)); refine blk_put (cs := #[.string (⟨#[]⟩ : ByteArray), .int .i64 0, .slice none 0 0, .int .i64 0]) ?_ 3 _ rfl; (with_reducible repeat (first | refine blk_drewN ?_ _ | refine blk_drew ?_ | refine blk_alloc ?_ _)); refine blk_put (cs := #[.string (⟨#[]⟩ : ByteArray), .int .i64 0, .slice none 0 0, .int .i64 0]) ?_ 2 _ rfl; (with_reducible repeat (first | refine blk_drewN ?_ _ | refine blk_drew ?_ | refine blk_alloc ?_ _)); refine blk_put (cs := #[.string (⟨#[]⟩ : ByteArray), .int .i64 0, .slice none 0 0, .int .i64 0]) ?_ 1 _ rfl; (with_reducible repeat (first | refine blk_drewN ?_ _ | refine blk_drew ?_ | refine blk_alloc ?_ _)); refine blk_put (cs := #[.string (⟨#[]⟩ : ByteArray), .int .i64 0, .slice none 0 0, .int .i64 0]) ?_ 0 _ rfl; (with_reducible repeat (first | refine blk_drewN ?_ _ | refine blk_drew ?_ | refine blk_alloc ?_ _)); exact BK294.out) Tryd.underlying27 rfl (by kernel_rfl)) rfl ?_; exact ⟨_, by first | rfl | (simp [errW_none, errW_some] <;> rfl) | (simp [*, errW_none, errW_some] <;> rfl), by first | exact Kd.R_nil _ _ _ _ _ | exact Kd.N_nil _ _ _ _ _ | exact Kd.V_nil _ _ _ _ _ | exact Kd.Q_nil _ _ _ _ _ | exact Kd.S_nil _ _ _ _ _, by repeat (first | (with_reducible first | exact HB.out | apply below_alloc | apply pw_below_drewN | apply below_drew1 | refine below_set ?_ GE294.out) | exact HB.out)⟩
   ·
    replace c12 := Bool.eq_false_iff.mpr c12; subst c12; have H1 : (if 4 < (l0.length : Int) then ((spileref09_Number.f kj1 (rdOf ByteArray.empty l0 4)).bind fun bt301 => (if 1 < (l0.length : Int) then (if 2 < (l0.length : Int) then (if (rdOf ByteArray.empty l0 2).toList = ([108, 121, 105, 110, 103] : List UInt8) then (some (rdOf ByteArray.empty l0 1, 1, ([] : List (S46)), bt301.1, bt301.2)) else (some (rdOf ByteArray.empty l0 1, 2, ([] : List (S46)), bt301.1, bt301.2))) else (none)) else (none))) else (none)) = some (r1, r2, r3, r4, r5) := by rw [if_neg (show ¬ (false = true) by decide)] at H; exact H
    clear H; have H := H1; clear H1; by_cases c14 : 4 < (l0.length : Int)
    ·
     rw [if_pos c14] at H; have c14b0 : decide (4 < (l0.length : Int)) = true := decide_eq_true c14; have c14b1 : decide (4 < l0.length) = true := decide_eq_true (by omega); clear c14; replace H := Option.bind_eq_some_iff.mp H; obtain ⟨⟨t301, t302⟩, A150, H⟩ := H; replace H : (if 1 < (l0.length : Int) then (if 2 < (l0.length : Int) then (if (rdOf ByteArray.empty l0 2).toList = ([108, 121, 105, 110, 103] : List UInt8) then (some (rdOf ByteArray.empty l0 1, 1, ([] : List (S46)), t301, t302)) else (some (rdOf ByteArray.empty l0 1, 2, ([] : List (S46)), t301, t302))) else (none)) else (none)) = some (r1, r2, r3, r4, r5) := H; have A15 := Aside0.mk A150; clear A150; by_cases c16 : 1 < (l0.length : Int)
     ·
      rw [if_pos c16] at H; have c16b0 : decide (1 < (l0.length : Int)) = true := decide_eq_true c16; have c16b1 : decide (1 < l0.length) = true := decide_eq_true (by omega); clear c16; by_cases c17 : 2 < (l0.length : Int)
      ·
       rw [if_pos c17] at H; have c17b0 : decide (2 < (l0.length : Int)) = true := decide_eq_true c17; have c17b1 : decide (2 < l0.length) = true := decide_eq_true (by omega); clear c17; by_cases c18 : (rdOf ByteArray.empty l0 2).toList = ([108, 121, 105, 110, 103] : List UInt8)
       ·
        rw [if_pos c18] at H; have c18b0 : ((rdOf ByteArray.empty l0 2).toList == ([108, 121, 105, 110, 103] : List UInt8)) = true := beq_iff_eq.mpr c18; have c18b1 : ((rdOf ByteArray.empty l0 2).toList != ([108, 121, 105, 110, 103] : List UInt8)) = false := bne_eq_false_iff_eq.mpr c18; clear c18; simp only [Option.some.injEq, Prod.mk.injEq] at H; obtain ⟨rfl, rfl, rfl, rfl, rfl⟩ := H; have p300 : 0 ≤ (4 : Int) := (by omega); have q300 : 4 < (l0.length : Int) := of_decide_eq_true (by first | (with_reducible assumption) | assumption); obtain ⟨ad300, e300, hx300_0⟩ := Kd.at_string HR0.out 4 p300 q300; cases e300; (try simp only [show (4 : Int).toNat = 4 from rfl, Nat.reduceMul, Nat.reduceEqDiff, Go.Addr.add, ↓reduceIte] at hx300_0)
        have qi300 : (4 < l0.length) = True := eq_true (by omega); (try rw [show ((4 : Int)).toNat = 4 from rfl] at hx300_0)
        replace hx300_0 := (HB.out.cell (World.block_lt_of_cell? w _ hx300_0)).trans hx300_0; replace p300 := eq_true p300; replace q300 := eq_true q300; go_upto_region 7 with (first | ((with_reducible refine gate_callee (f := 69) rfl ?_); refine goesL_ (some 39) rfl rfl Tryd.func69 (by kernel_rfl) rfl #[.string (rdOf ByteArray.empty l0 4)] rfl (by (try simp only [List.map_toArray, List.map_cons, List.map_nil]); first | done | rfl | (simp only [List.length_drop, List.length_take]; rfl)) ?_; (with_reducible refine (spileref09_Number.calls kj1 (rdOf ByteArray.empty l0 4) t301 t302 _ A15.out).mono ?_); rintro e w' ⟨rfl, ⟨nd, rfl⟩⟩; refine ⟨_, rfl, ?_⟩; (try (rw [drewN_self wc]; generalize hq_ : World.drewN wc _ = wc; have n0_ : Aside0 (wc.heap[gb294]? = some (.cells #[.string (⟨#[]⟩ : ByteArray), .int .i64 0, .slice none 0 0, .int .i64 0] 27 (0, 0))) := ⟨by rw [← hq_]; exact (by (with_reducible repeat (first | refine blk_drewN ?_ _ | refine blk_drew ?_ | refine blk_alloc ?_ _)); exact BK294.out)⟩; have n1_ : Aside0 (Below w.heap.size w wc) := ⟨by rw [← hq_]; exact (by repeat (first | (with_reducible first | exact HB.out | apply below_alloc | apply pw_below_drewN | apply below_drew1 | refine below_set ?_ GE294.out) | exact HB.out))⟩; clear BK294 HB hq_; have BK294 := n0_; have HB := n1_; clear n0_ n1_)); have p303 : 0 ≤ (1 : Int) := (by omega); have q303 : 1 < (l0.length : Int) := of_decide_eq_true (by first | (with_reducible assumption) | assumption); obtain ⟨ad303, e303, hx303_0⟩ := Kd.at_string HR0.out 1 p303 q303; obtain rfl : ad300 = ad303 := (by injection e303); (try simp only [show (1 : Int).toNat = 1 from rfl, Nat.reduceMul, Nat.reduceEqDiff, Go.Addr.add, ↓reduceIte] at hx303_0); have qi303 : (1 < l0.length) = True := eq_true (by omega); (try rw [show ((1 : Int)).toNat = 1 from rfl] at hx303_0); replace hx303_0 := (HB.out.cell (World.block_lt_of_cell? w _ hx303_0)).trans hx303_0; replace p303 := eq_true p303; replace q303 := eq_true q303) | ((with_reducible refine gate_dst (N := 6) rfl ?_); refine box_event ?hg (N := 6) ?hd (cs := #[.string (⟨#[]⟩ : ByteArray), .int .i64 0, .slice none 0 0, .int .i64 0]) (t := 27) ?hr ?_; (case hd => rfl); (case hg => rfl); (case hr => first | (go_simp; done) | (go_simp; rfl)); intro gb304 hg w19 hbox hb; have n0_ := Aside0.mk (blk_below (g := gb294) (o := .cells #[.string (⟨#[]⟩ : ByteArray), .int .i64 0, .slice none 0 0, .int .i64 0] 27 (0, 0)) (by (with_reducible repeat (first | refine blk_drewN ?_ _ | refine blk_drew ?_ | refine blk_alloc ?_ _)); exact BK294.out) hb); have n1_ := Aside0.mk (below_step (by repeat (first | (with_reducible first | exact HB.out | apply below_alloc | apply pw_below_drewN | apply below_drew1 | refine below_set ?_ GE294.out) | exact HB.out)) hb); have n2_ := Aside0.mk (hbox); have n3_ := Aside0.mk ((by rw [hg]; exact (below_size (by repeat (first | (with_reducible first | exact HB.out | apply below_alloc | apply pw_below_drewN | apply below_drew1 | refine below_set ?_ GE294.out) | exact HB.out))) : w.heap.size ≤ gb304)); have n4_ := Aside0.mk ((by rw [hg]; exact (below_size (by repeat (first | (with_reducible first | exact HB.out | apply below_alloc | apply pw_below_drewN | apply below_drew1 | refine below_set ?_ GE294.out) | exact HB.out))) : w.heap.size ≤ gb304)); have n5_ := Aside0.mk ((by rw [hg]; exact Nat.ne_of_lt (blk_lt (g := gb294) (o := .cells #[.string (⟨#[]⟩ : ByteArray), .int .i64 0, .slice none 0 0, .int .i64 0] 27 (0, 0)) (by (with_reducible repeat (first | refine blk_drewN ?_ _ | refine blk_drew ?_ | refine blk_alloc ?_ _)); exact BK294.out)) : gb294 ≠ gb304)); have n6_ := Aside0.mk ((by rw [hg]; exact Nat.ne_of_gt (blk_lt (g := gb294) (o := .cells #[.string (⟨#[]⟩ : ByteArray), .int .i64 0, .slice none 0 0, .int .i64 0] 27 (0, 0)) (by (with_reducible repeat (first | refine blk_drewN ?_ _ | refine blk_drew ?_ | refine blk_alloc ?_ _)); exact BK294.out)) : gb304 ≠ gb294)); clear BK294; clear HB; have BK294 := n0_; have HB := n1_; have BK304 := n2_; have GW304 := n3_; have GE304 := n4_; have NB294_304 := n5_; have NB304_294 := n6_; clear n0_ n1_ n2_ n3_ n4_ n5_ n6_; clear hb hbox hg; have hnb20 := NB304_294.out; have hnc20 := NB294_304.out; have hcz21_0 : w19.cell? ⟨gb304, 0, none⟩ = some (.string (⟨#[]⟩ : ByteArray)) := (blk_cell BK304.out 0).trans rfl; have hcz21_1 : w19.cell? ⟨gb304, 1, none⟩ = some (.int .i64 0) := (blk_cell BK304.out 1).trans rfl; have hcz21_2 : w19.cell? ⟨gb304, 2, none⟩ = some (.slice none 0 0) := (blk_cell BK304.out 2).trans rfl; have hcz21_3 : w19.cell? ⟨gb304, 3, none⟩ = some (.int .i64 0) := (blk_cell BK304.out 3).trans rfl; have hfz21_0 := blk_frozen BK304.out 0; have hfz21_1 := blk_frozen BK304.out 1; have hfz21_2 := blk_frozen BK304.out 2; have hfz21_3 := blk_frozen BK304.out 3; have p305 : 0 ≤ (2 : Int) := (by omega); have q305 : 2 < (l0.length : Int) := of_decide_eq_true (by first | (with_reducible assumption) | assumption); obtain ⟨ad305, e305, hx305_0⟩ := Kd.at_string HR0.out 2 p305 q305; obtain rfl : ad300 = ad305 := (by injection e305); (try simp only [show (2 : Int).toNat = 2 from rfl, Nat.reduceMul, Nat.reduceEqDiff, Go.Addr.add, ↓reduceIte] at hx305_0); have qi305 : (2 < l0.length) = True := eq_true (by omega); (try rw [show ((2 : Int)).toNat = 2 from rfl] at hx305_0); have hn305_0 : ad300.block ≠ gb304 := Nat.ne_of_lt (Nat.lt_of_lt_of_le (by have := World.block_lt_of_cell? _ _ hx305_0; first | rwa [add_block] at this | exact this) GW304.out); have hn305_1 : ad300.block ≠ gb304 := Nat.ne_of_lt (Nat.lt_of_lt_of_le (by have := World.block_lt_of_cell? _ _ hx305_0; first | rwa [add_block] at this | exact this) GW304.out); have hn305_2 : ad300.block ≠ gb304 := Nat.ne_of_lt (Nat.lt_of_lt_of_le (by have := World.block_lt_of_cell? _ _ hx305_0; first | rwa [add_block] at this | exact this) GW304.out); have hn305_3 : ad300.block ≠ gb304 := Nat.ne_of_lt (Nat.lt_of_lt_of_le (by have := World.block_lt_of_cell? _ _ hx305_0; first | rwa [add_block] at this | exact this) GW304.out); replace hx305_0 := (HB.out.cell (World.block_lt_of_cell? w _ hx305_0)).trans hx305_0; replace hx305_0 := (cell_far (p := ⟨gb304, 0, none⟩) (by first | (rw [add_block]; exact hn305_0) | (show (Addr.add _ _).block ≠ _; rw [add_block]; exact hn305_0) | exact hn305_0) (.string (rdOf ByteArray.empty l0 1))).trans hx305_0; replace hx305_0 := (cell_far (p := ⟨gb304, 1, none⟩) (by first | (rw [add_block]; exact hn305_1) | (show (Addr.add _ _).block ≠ _; rw [add_block]; exact hn305_1) | exact hn305_1) (.int .i64 2)).trans hx305_0; replace hx305_0 := (cell_far (p := ⟨gb304, 2, none⟩) (by first | (rw [add_block]; exact hn305_2) | (show (Addr.add _ _).block ≠ _; rw [add_block]; exact hn305_2) | exact hn305_2) (.slice none 0 0)).trans hx305_0; replace hx305_0 := (cell_far (p := ⟨gb304, 3, none⟩) (by first | (rw [add_block]; exact hn305_3) | (show (Addr.add _ _).block ≠ _; rw [add_block]; exact hn305_3) | exact hn305_3) (.int .i64 t301)).trans hx305_0; clear hn305_0; clear hn305_1; clear hn305_2; clear hn305_3; replace p305 := eq_true p305; replace q305 := eq_true q305; have hcz22_0 : w19.cell? ⟨gb294, 0, none⟩ = some (.string (⟨#[]⟩ : ByteArray)) := (blk_cell BK294.out 0).trans rfl; have hcz22_1 : w19.cell? ⟨gb294, 1, none⟩ = some (.int .i64 0) := (blk_cell BK294.out 1).trans rfl; have hcz22_2 : w19.cell? ⟨gb294, 2, none⟩ = some (.slice none 0 0) := (blk_cell BK294.out 2).trans rfl; have hcz22_3 : w19.cell? ⟨gb294, 3, none⟩ = some (.int .i64 0) := (blk_cell BK294.out 3).trans rfl; have hfz22_0 := blk_frozen BK294.out 0; have hfz22_1 := blk_frozen BK294.out 1; have hfz22_2 := blk_frozen BK294.out 2; have hfz22_3 := blk_frozen BK294.out 3))
        have BKn : Aside0 ((((((w19.setCell ⟨gb304, 0, none⟩ (.string (rdOf ByteArray.empty l0 1))).setCell ⟨gb304, 1, none⟩ (.int .i64 2)).setCell ⟨gb304, 2, none⟩ (.slice none 0 0)).setCell ⟨gb304, 3, none⟩ (.int .i64 t301)).setCell ⟨gb304, 1, none⟩ (.int .i64 1)).heap[gb304]? = some (.cells #[.string (rdOf ByteArray.empty l0 1), .int .i64 1, .slice none 0 0, .int .i64 t301] 27 (0, 0))) := ⟨blk_put (blk_put (blk_put (blk_put (blk_put BK304.out 0 _ rfl) 1 _ rfl) 2 _ rfl) 3 _ rfl) 1 _ rfl⟩; have BKm : Aside0 ((((((w19.setCell ⟨gb304, 0, none⟩ (.string (rdOf ByteArray.empty l0 1))).setCell ⟨gb304, 1, none⟩ (.int .i64 2)).setCell ⟨gb304, 2, none⟩ (.slice none 0 0)).setCell ⟨gb304, 3, none⟩ (.int .i64 t301)).setCell ⟨gb304, 1, none⟩ (.int .i64 1)).heap[gb294]? = some (.cells #[.string (⟨#[]⟩ : ByteArray), .int .i64 0, .slice none 0 0, .int .i64 0] 27 (0, 0))) := ⟨blk_far (blk_far (blk_far (blk_far (blk_far BK294.out NB294_304.out _) NB294_304.out _) NB294_304.out _) NB294_304.out _) NB294_304.out _⟩; have HBn : Aside0 (Below w.heap.size w (((((w19.setCell ⟨gb304, 0, none⟩ (.string (rdOf ByteArray.empty l0 1))).setCell ⟨gb304, 1, none⟩ (.int .i64 2)).setCell ⟨gb304, 2, none⟩ (.slice none 0 0)).setCell ⟨gb304, 3, none⟩ (.int .i64 t301)).setCell ⟨gb304, 1, none⟩ (.int .i64 1))) := ⟨below_set (below_set (below_set (below_set (below_set HB.out GE304.out) GE304.out) GE304.out) GE304.out) GE304.out⟩; clear hcz21_0 hcz21_1 hcz21_2 hcz21_3 hfz21_0 hfz21_1 hfz21_2 hfz21_3 hcz22_0 hcz22_1 hcz22_2 hcz22_3 hfz22_0 hfz22_1 hfz22_2 hfz22_3 hnb20 hnc20; (try clear hx244_0)
        (try clear hx242_0)
        generalize (((((w19.setCell ⟨gb304, 0, none⟩ (.string (rdOf ByteArray.empty l0 1))).setCell ⟨gb304, 1, none⟩ (.int .i64 2)).setCell ⟨gb304, 2, none⟩ (.slice none 0 0)).setCell ⟨gb304, 3, none⟩ (.int .i64 t301)).setCell ⟨gb304, 1, none⟩ (.int .i64 1)) = W7 at BKn BKm HBn ⊢; have y0 : W7.cell? ⟨gb304, 0, none⟩ = some (.string (rdOf ByteArray.empty l0 1)) := (blk_cell BKn.out 0).trans rfl; have y1 : W7.cell? ⟨gb304, 1, none⟩ = some (.int .i64 1) := (blk_cell BKn.out 1).trans rfl; have y2 : W7.cell? ⟨gb304, 2, none⟩ = some (.slice none 0 0) := (blk_cell BKn.out 2).trans rfl; have y3 : W7.cell? ⟨gb304, 3, none⟩ = some (.int .i64 t301) := (blk_cell BKn.out 3).trans rfl; have z0 := (blk_cell BKm.out 0).trans rfl; have z1 := (blk_cell BKm.out 1).trans rfl; have z2 := (blk_cell BKm.out 2).trans rfl; have z3 := (blk_cell BKm.out 3).trans rfl; have f0 := blk_frozen BKm.out 0; have f1 := blk_frozen BKm.out 1; have f2 := blk_frozen BKm.out 2; have f3 := blk_frozen BKm.out 3; go_wp2; refine bodyPost_ret (results_ct rfl _ _ gb294 27 #[.string (rdOf ByteArray.empty l0 1), .int .i64 1, .slice none 0 0, .int .i64 t301] (0, 0) _ rfl (blk_put (blk_put (blk_put (blk_put BKm.out 0 _ rfl) 1 _ rfl) 2 _ rfl) 3 _ rfl) Tryd.underlying27 rfl (by kernel_rfl)) rfl ?_; exact ⟨_, rfl, Kd.R_nil _ _ _ _ _, below_set (below_set (below_set (below_set HBn.out GE294.out) GE294.out) GE294.out) GE294.out⟩
       ·
        rw [if_neg c18] at H; have c18b0 : ((rdOf ByteArray.empty l0 2).toList == ([108, 121, 105, 110, 103] : List UInt8)) = false := beq_eq_false_iff_ne.mpr c18; have c18b1 : ((rdOf ByteArray.empty l0 2).toList != ([108, 121, 105, 110, 103] : List UInt8)) = true := bne_iff_ne.mpr c18; simp only [Option.some.injEq, Prod.mk.injEq] at H; obtain ⟨rfl, rfl, rfl, rfl, rfl⟩ := H; have p300 : 0 ≤ (4 : Int) := (by omega); have q300 : 4 < (l0.length : Int) := of_decide_eq_true (by first | (with_reducible assumption) | assumption); obtain ⟨ad300, e300, hx300_0⟩ := Kd.at_string HR0.out 4 p300 q300; cases e300; (try simp only [show (4 : Int).toNat = 4 from rfl, Nat.reduceMul, Nat.reduceEqDiff, Go.Addr.add, ↓reduceIte] at hx300_0)
        have qi300 : (4 < l0.length) = True := eq_true (by omega); (try rw [show ((4 : Int)).toNat = 4 from rfl] at hx300_0)
        replace hx300_0 := (HB.out.cell (World.block_lt_of_cell? w _ hx300_0)).trans hx300_0; replace p300 := eq_true p300; replace q300 := eq_true q300; go_wp2_with (first | ((with_reducible refine gate_callee (f := 69) rfl ?_); refine goesL_ (some 39) rfl rfl Tryd.func69 (by kernel_rfl) rfl #[.string (rdOf ByteArray.empty l0 4)] rfl (by (try simp only [List.map_toArray, List.map_cons, List.map_nil]); first | done | rfl | (simp only [List.length_drop, List.length_take]; rfl)) ?_; (with_reducible refine (spileref09_Number.calls kj1 (rdOf ByteArray.empty l0 4) t301 t302 _ A15.out).mono ?_); rintro e w' ⟨rfl, ⟨nd, rfl⟩⟩; refine ⟨_, rfl, ?_⟩; (try (rw [drewN_self wc]; generalize hq_ : World.drewN wc _ = wc; have n0_ : Aside0 (wc.heap[gb294]? = some (.cells #[.string (⟨#[]⟩ : ByteArray), .int .i64 0, .slice none 0 0, .int .i64 0] 27 (0, 0))) := ⟨by rw [← hq_]; exact (by (with_reducible repeat (first | refine blk_drewN ?_ _ | refine blk_drew ?_ | refine blk_alloc ?_ _)); exact BK294.out)⟩; have n1_ : Aside0 (Below w.heap.size w wc) := ⟨by rw [← hq_]; exact (by repeat (first | (with_reducible first | exact HB.out | apply below_alloc | apply pw_below_drewN | apply below_drew1 | refine below_set ?_ GE294.out) | exact HB.out))⟩; clear BK294 HB hq_; have BK294 := n0_; have HB := n1_; clear n0_ n1_)); have p303 : 0 ≤ (1 : Int) := (by omega); have q303 : 1 < (l0.length : Int) := of_decide_eq_true (by first | (with_reducible assumption) | assumption); obtain ⟨ad303, e303, hx303_0⟩ := Kd.at_string HR0.out 1 p303 q303; obtain rfl : ad300 = ad303 := (by injection e303); (try simp only [show (1 : Int).toNat = 1 from rfl, Nat.reduceMul, Nat.reduceEqDiff, Go.Addr.add, ↓reduceIte] at hx303_0); have qi303 : (1 < l0.length) = True := eq_true (by omega); (try rw [show ((1 : Int)).toNat = 1 from rfl] at hx303_0); replace hx303_0 := (HB.out.cell (World.block_lt_of_cell? w _ hx303_0)).trans hx303_0; replace p303 := eq_true p303; replace q303 := eq_true q303) | ((with_reducible refine gate_dst (N := 6) rfl ?_); refine box_event ?hg (N := 6) ?hd (cs := #[.string (⟨#[]⟩ : ByteArray), .int .i64 0, .slice none 0 0, .int .i64 0]) (t := 27) ?hr ?_; (case hd => rfl); (case hg => rfl); (case hr => first | (go_simp; done) | (go_simp; rfl)); intro gb304 hg w23 hbox hb; have n0_ := Aside0.mk (blk_below (g := gb294) (o := .cells #[.string (⟨#[]⟩ : ByteArray), .int .i64 0, .slice none 0 0, .int .i64 0] 27 (0, 0)) (by (with_reducible repeat (first | refine blk_drewN ?_ _ | refine blk_drew ?_ | refine blk_alloc ?_ _)); exact BK294.out) hb); have n1_ := Aside0.mk (below_step (by repeat (first | (with_reducible first | exact HB.out | apply below_alloc | apply pw_below_drewN | apply below_drew1 | refine below_set ?_ GE294.out) | exact HB.out)) hb); have n2_ := Aside0.mk (hbox); have n3_ := Aside0.mk ((by rw [hg]; exact (below_size (by repeat (first | (with_reducible first | exact HB.out | apply below_alloc | apply pw_below_drewN | apply below_drew1 | refine below_set ?_ GE294.out) | exact HB.out))) : w.heap.size ≤ gb304)); have n4_ := Aside0.mk ((by rw [hg]; exact (below_size (by repeat (first | (with_reducible first | exact HB.out | apply below_alloc | apply pw_below_drewN | apply below_drew1 | refine below_set ?_ GE294.out) | exact HB.out))) : w.heap.size ≤ gb304)); have n5_ := Aside0.mk ((by rw [hg]; exact Nat.ne_of_lt (blk_lt (g := gb294) (o := .cells #[.string (⟨#[]⟩ : ByteArray), .int .i64 0, .slice none 0 0, .int .i64 0] 27 (0, 0)) (by (with_reducible repeat (first | refine blk_drewN ?_ _ | refine blk_drew ?_ | refine blk_alloc ?_ _)); exact BK294.out)) : gb294 ≠ gb304)); have n6_ := Aside0.mk ((by rw [hg]; exact Nat.ne_of_gt (blk_lt (g := gb294) (o := .cells #[.string (⟨#[]⟩ : ByteArray), .int .i64 0, .slice none 0 0, .int .i64 0] 27 (0, 0)) (by (with_reducible repeat (first | refine blk_drewN ?_ _ | refine blk_drew ?_ | refine blk_alloc ?_ _)); exact BK294.out)) : gb304 ≠ gb294)); clear BK294; clear HB; have BK294 := n0_; have HB := n1_; have BK304 := n2_; have GW304 := n3_; have GE304 := n4_; have NB294_304 := n5_; have NB304_294 := n6_; clear n0_ n1_ n2_ n3_ n4_ n5_ n6_; clear hb hbox hg; have hnb24 := NB304_294.out; have hnc24 := NB294_304.out; have hcz25_0 : w23.cell? ⟨gb304, 0, none⟩ = some (.string (⟨#[]⟩ : ByteArray)) := (blk_cell BK304.out 0).trans rfl; have hcz25_1 : w23.cell? ⟨gb304, 1, none⟩ = some (.int .i64 0) := (blk_cell BK304.out 1).trans rfl; have hcz25_2 : w23.cell? ⟨gb304, 2, none⟩ = some (.slice none 0 0) := (blk_cell BK304.out 2).trans rfl; have hcz25_3 : w23.cell? ⟨gb304, 3, none⟩ = some (.int .i64 0) := (blk_cell BK304.out 3).trans rfl; have hfz25_0 := blk_frozen BK304.out 0; have hfz25_1 := blk_frozen BK304.out 1; have hfz25_2 := blk_frozen BK304.out 2; have hfz25_3 := blk_frozen BK304.out 3; have p305 : 0 ≤ (2 : Int) := (by omega); have q305 : 2 < (l0.length : Int) := of_decide_eq_true (by first | (with_reducible assumption) | assumption); obtain ⟨ad305, e305, hx305_0⟩ := Kd.at_string HR0.out 2 p305 q305; obtain rfl : ad300 = ad305 := (by injection e305); (try simp only [show (2 : Int).toNat = 2 from rfl, Nat.reduceMul, Nat.reduceEqDiff, Go.Addr.add, ↓reduceIte] at hx305_0); have qi305 : (2 < l0.length) = True := eq_true (by omega); (try rw [show ((2 : Int)).toNat = 2 from rfl] at hx305_0); have hn305_0 : ad300.block ≠ gb304 := Nat.ne_of_lt (Nat.lt_of_lt_of_le (by have := World.block_lt_of_cell? _ _ hx305_0; first | rwa [add_block] at this | exact this) GW304.out); have hn305_1 : ad300.block ≠ gb304 := Nat.ne_of_lt (Nat.lt_of_lt_of_le (by have := World.block_lt_of_cell? _ _ hx305_0; first | rwa [add_block] at this | exact this) GW304.out); have hn305_2 : ad300.block ≠ gb304 := Nat.ne_of_lt (Nat.lt_of_lt_of_le (by have := World.block_lt_of_cell? _ _ hx305_0; first | rwa [add_block] at this | exact this) GW304.out); have hn305_3 : ad300.block ≠ gb304 := Nat.ne_of_lt (Nat.lt_of_lt_of_le (by have := World.block_lt_of_cell? _ _ hx305_0; first | rwa [add_block] at this | exact this) GW304.out); replace hx305_0 := (HB.out.cell (World.block_lt_of_cell? w _ hx305_0)).trans hx305_0; replace hx305_0 := (cell_far (p := ⟨gb304, 0, none⟩) (by first | (rw [add_block]; exact hn305_0) | (show (Addr.add _ _).block ≠ _; rw [add_block]; exact hn305_0) | exact hn305_0) (.string (rdOf ByteArray.empty l0 1))).trans hx305_0; replace hx305_0 := (cell_far (p := ⟨gb304, 1, none⟩) (by first | (rw [add_block]; exact hn305_1) | (show (Addr.add _ _).block ≠ _; rw [add_block]; exact hn305_1) | exact hn305_1) (.int .i64 2)).trans hx305_0; replace hx305_0 := (cell_far (p := ⟨gb304, 2, none⟩) (by first | (rw [add_block]; exact hn305_2) | (show (Addr.add _ _).block ≠ _; rw [add_block]; exact hn305_2) | exact hn305_2) (.slice none 0 0)).trans hx305_0; replace hx305_0 := (cell_far (p := ⟨gb304, 3, none⟩) (by first | (rw [add_block]; exact hn305_3) | (show (Addr.add _ _).block ≠ _; rw [add_block]; exact hn305_3) | exact hn305_3) (.int .i64 t301)).trans hx305_0; clear hn305_0; clear hn305_1; clear hn305_2; clear hn305_3; replace p305 := eq_true p305; replace q305 := eq_true q305; have hcz26_0 : w23.cell? ⟨gb294, 0, none⟩ = some (.string (⟨#[]⟩ : ByteArray)) := (blk_cell BK294.out 0).trans rfl; have hcz26_1 : w23.cell? ⟨gb294, 1, none⟩ = some (.int .i64 0) := (blk_cell BK294.out 1).trans rfl; have hcz26_2 : w23.cell? ⟨gb294, 2, none⟩ = some (.slice none 0 0) := (blk_cell BK294.out 2).trans rfl; have hcz26_3 : w23.cell? ⟨gb294, 3, none⟩ = some (.int .i64 0) := (blk_cell BK294.out 3).trans rfl; have hfz26_0 := blk_frozen BK294.out 0; have hfz26_1 := blk_frozen BK294.out 1; have hfz26_2 := blk_frozen BK294.out 2; have hfz26_3 := blk_frozen BK294.out 3))
        refine bodyPost_ret (results_ct rfl _ _ gb294 27 #[.string (rdOf ByteArray.empty l0 1), .int .i64 2, .slice none 0 0, .int .i64 t301] (0, 0) _ rfl (by (with_reducible repeat (first | refine blk_drewN ?_ _ | refine blk_drew ?_ | refine blk_alloc ?_ _)); refine blk_put (cs := #[.string (rdOf ByteArray.empty l0 1), .int .i64 2, .slice none 0 0, .int .i64 0]) ?_ 3 _ rfl; (with_reducible repeat (first | refine blk_drewN ?_ _ | refine blk_drew ?_ | refine blk_alloc ?_ _)); refine blk_put (cs := #[.string (rdOf ByteArray.empty l0 1), .int .i64 2, .slice none 0 0, .int .i64 0]) ?_ 2 _ rfl; (with_reducible repeat (first | refine blk_drewN ?_ _ | refine blk_drew ?_ | refine blk_alloc ?_ _)); refine blk_put (cs := #[.string (rdOf ByteArray.empty l0 1), .int .i64 0, .slice none 0 0, .int .i64 0]) ?_ 1 _ rfl; (with_reducible repeat (first | refine blk_drewN ?_ _ | refine blk_drew ?_ | refine blk_alloc ?_ _)); refine blk_put (cs := #[.string (⟨#[]⟩ : ByteArray), .int .i64 0, .slice none 0 0, .int .i64 0]) ?_ 0 _ rfl; (with_reducible repeat (first | refine blk_drewN ?_ _ | refine blk_drew ?_ | refine blk_alloc ?_ _)); refine blk_far ?_ NB294_304.out _; (with_reducible repeat (first | refine blk_drewN ?_ _ | refine blk_drew ?_ | refine blk_alloc ?_ _)); refine blk_far ?_ NB294_304.out _; (with_reducible repeat (first | refine blk_drewN ?_ _ | refine blk_drew ?_ | refine blk_alloc ?_ _)); refine blk_far ?_ NB294_304.out _; (with_reducible repeat (first | refine blk_drewN ?_ _ | refine blk_drew ?_ | refine blk_alloc ?_ _)); refine blk_far ?_ NB294_304.out _; (with_reducible repeat (first | refine blk_drewN ?_ _ | refine blk_drew ?_ | refine blk_alloc ?_ _)); exact BK294.out) Tryd.underlying27 rfl (by kernel_rfl)) rfl ?_; exact ⟨_, by first | rfl | (simp [errW_none, errW_some] <;> rfl) | (simp [*, errW_none, errW_some] <;> rfl), by first | exact Kd.R_nil _ _ _ _ _ | exact Kd.N_nil _ _ _ _ _ | exact Kd.V_nil _ _ _ _ _ | exact Kd.Q_nil _ _ _ _ _ | exact Kd.S_nil _ _ _ _ _, by repeat (first | (with_reducible first | exact HB.out | apply below_alloc | apply pw_below_drewN | apply below_drew1 | refine below_set ?_ GE294.out | refine below_set ?_ GE304.out) | exact HB.out)⟩
      · rw [if_neg c17] at H; exact absurd H (by simp)
     · rw [if_neg c16] at H; exact absurd H (by simp)
    · rw [if_neg c14] at H; exact absurd H (by simp)
def spileref09_point.j0 : Nat → List ByteArray → Bool → Option (Int × Int × Bool)
 | 0, _, _ => none
 | k + 1, x0, x22 => if x22 = true then (some (0, 0, false)) else (if 1 < (x0.length : Int) then ((spileref09_Number.f k (rdOf ByteArray.empty x0 1)).bind fun bt310 => (if 3 < (x0.length : Int) then ((spileref09_Number.f k (rdOf ByteArray.empty x0 3)).bind fun bt313 => (if bt310.2 = true then (some (bt310.1, bt313.1, bt313.2)) else (some (bt310.1, bt313.1, false)))) else (none))) else (none))
def spileref09_point.f (k : Nat) (l0 : List ByteArray) : Option (Int × Int × Bool) := if (l0.length : Int) = 4 then (if 0 < (l0.length : Int) then (if (rdOf ByteArray.empty l0 0).toList = ([97, 116] : List UInt8) then (if 2 < (l0.length : Int) then (spileref09_point.j0 k l0 ((rdOf ByteArray.empty l0 2).toList != ([114, 97, 100, 105, 117, 115] : List UInt8))) else (none)) else (spileref09_point.j0 k l0 true)) else (none)) else (spileref09_point.j0 k l0 true)
set_option maxHeartbeats 8000000 in
set_option maxRecDepth 100000 in
theorem spileref09_point.calls (k : Nat) (A0 : Option Addr) (c0 : Nat) (l0 : List ByteArray) (r1 : Int) (r2 : Int) (r3 : Bool) (w : World) (hr0 : Kd.C Kd.string w A0 l0.length l0) (hc0 : l0.length ≤ c0) (h : spileref09_point.f k l0 = some (r1, r2, r3)) :
  Calls Tryd.prog 51 #[.slice A0 l0.length c0] w fun e w' => e = .returned (.tuple #[.agg #[.int .i64 r1, .int .i64 r2], .bool r3]) ∧ Below w.heap.size w w' := by
 have hu46 := Tryd.underlying46; have HR0 := Aside0.mk hr0; have HC0 := Aside0.mk hc0; clear hr0 hc0; have HB := Aside0.mk (Below.refl w.heap.size w); have H : (if (l0.length : Int) = 4 then (if 0 < (l0.length : Int) then (if (rdOf ByteArray.empty l0 0).toList = ([97, 116] : List UInt8) then (if 2 < (l0.length : Int) then (spileref09_point.j0 k l0 ((rdOf ByteArray.empty l0 2).toList != ([114, 97, 100, 105, 117, 115] : List UInt8))) else (none)) else (spileref09_point.j0 k l0 true)) else (none)) else (spileref09_point.j0 k l0 true)) = some (r1, r2, r3) := h; clear h; have HC2 := Aside0.mk H; clear H; go_enter Tryd.func51, Tryd.ntmps51
 go_upto_region 1 with (first | ((with_reducible refine gate_dst (N := 2) rfl ?_); refine box_event ?hg (N := 2) ?hd (cs := #[.int .i64 0, .int .i64 0]) (t := 46) ?hr ?_; (case hd => rfl); (case hg => rfl); (case hr => first | (go_simp; done) | (go_simp; rfl)); intro gb306 hg w3 hbox hb; have n0_ := Aside0.mk (below_step (by repeat (first | (with_reducible first | exact HB.out | apply below_alloc | apply pw_below_drewN | apply below_drew1) | exact HB.out)) hb); have n1_ := Aside0.mk (hbox); have n2_ := Aside0.mk ((by rw [hg]; exact (below_size (by repeat (first | (with_reducible first | exact HB.out | apply below_alloc | apply pw_below_drewN | apply below_drew1) | exact HB.out))) : w.heap.size ≤ gb306)); have n3_ := Aside0.mk ((by rw [hg]; exact (below_size (by repeat (first | (with_reducible first | exact HB.out | apply below_alloc | apply pw_below_drewN | apply below_drew1) | exact HB.out))) : w.heap.size ≤ gb306)); clear HB; have HB := n0_; have BK306 := n1_; have GW306 := n2_; have GE306 := n3_; clear n0_ n1_ n2_ n3_; clear hb hbox hg))
 (try simp only [Act.put, sIA, sC0, sCS])
 go_cut [22] (fun v22 wc => ∃ (kq : Nat) (x22_1 : Bool), v22 = .bool x22_1 ∧ Aside0 (spileref09_point.j0 kq l0 x22_1 = some (r1, r2, r3)) ∧ Aside0 (kq ≤ k) ∧ Aside0 (wc.heap[gb306]? = some (.cells #[.int .i64 0, .int .i64 0] 46 (0, 0))) ∧ Aside0 (Below w.heap.size w wc))
 case first =>
  have H := HC2.out; clear HC2; by_cases c4 : (l0.length : Int) = 4
  ·
   rw [if_pos c4] at H; have c4b0 : ((l0.length : Int) == 4) = true := beq_iff_eq.mpr c4; have c4b1 : ((l0.length : Int) != 4) = false := bne_eq_false_iff_eq.mpr c4; clear c4; (first | rw [c4b0] | (simp only [i64_w, i32_w]; rw [c4b0]) | skip)
   by_cases c5 : 0 < (l0.length : Int)
   ·
    rw [if_pos c5] at H; have c5b0 : decide (0 < (l0.length : Int)) = true := decide_eq_true c5; have c5b1 : decide (0 < l0.length) = true := decide_eq_true (by omega); clear c5; by_cases c6 : (rdOf ByteArray.empty l0 0).toList = ([97, 116] : List UInt8)
    ·
     rw [if_pos c6] at H; have c6b0 : ((rdOf ByteArray.empty l0 0).toList == ([97, 116] : List UInt8)) = true := beq_iff_eq.mpr c6; have c6b1 : ((rdOf ByteArray.empty l0 0).toList != ([97, 116] : List UInt8)) = false := bne_eq_false_iff_eq.mpr c6; clear c6; by_cases c7 : 2 < (l0.length : Int)
     ·
      rw [if_pos c7] at H; have c7b0 : decide (2 < (l0.length : Int)) = true := decide_eq_true c7; have c7b1 : decide (2 < l0.length) = true := decide_eq_true (by omega); clear c7; have H' := Aside0.mk H; clear H; have p307 : 0 ≤ (0 : Int) := (by omega); have q307 : 0 < (l0.length : Int) := of_decide_eq_true (by first | (with_reducible assumption) | assumption); obtain ⟨ad307, e307, hx307_0⟩ := Kd.at_string HR0.out 0 p307 q307; cases e307; have qi307 : (0 < l0.length) = True := eq_true (by omega); (try rw [show ((0 : Int)).toNat = 0 from rfl] at hx307_0)
      (try rw [Addr.add_zero'] at hx307_0)
      replace hx307_0 := (HB.out.cell (World.block_lt_of_cell? w _ hx307_0)).trans hx307_0; replace p307 := eq_true p307; replace q307 := eq_true q307; have p308 : 0 ≤ (2 : Int) := (by omega); have q308 : 2 < (l0.length : Int) := of_decide_eq_true (by first | (with_reducible assumption) | assumption); obtain ⟨ad308, e308, hx308_0⟩ := Kd.at_string HR0.out 2 p308 q308; obtain rfl : ad307 = ad308 := (by injection e308); (try simp only [show (2 : Int).toNat = 2 from rfl, Nat.reduceMul, Nat.reduceEqDiff, Go.Addr.add, ↓reduceIte] at hx308_0)
      have qi308 : (2 < l0.length) = True := eq_true (by omega); (try rw [show ((2 : Int)).toNat = 2 from rfl] at hx308_0)
      replace hx308_0 := (HB.out.cell (World.block_lt_of_cell? w _ hx308_0)).trans hx308_0; replace p308 := eq_true p308; replace q308 := eq_true q308; go_wp2; go_meet
      case rel => exact ⟨_, (((rdOf ByteArray.empty l0 2).toList != ([114, 97, 100, 105, 117, 115] : List UInt8))), (by first | rfl | (simp; done) | (simp [*]; done)), H', ⟨by first | omega | exact Nat.le_refl _⟩, ⟨by (with_reducible repeat (first | refine blk_drewN ?_ _ | refine blk_drew ?_ | refine blk_alloc ?_ _)); exact BK306.out⟩, ⟨by repeat (first | (with_reducible first | exact HB.out | apply below_alloc | apply pw_below_drewN | apply below_drew1 | refine below_set ?_ GE306.out) | exact HB.out)⟩⟩
     · rw [if_neg c7] at H; exact absurd H (by simp)
    ·
     rw [if_neg c6] at H; have c6b0 : ((rdOf ByteArray.empty l0 0).toList == ([97, 116] : List UInt8)) = false := beq_eq_false_iff_ne.mpr c6; have c6b1 : ((rdOf ByteArray.empty l0 0).toList != ([97, 116] : List UInt8)) = true := bne_iff_ne.mpr c6; have H' := Aside0.mk H; clear H; have p307 : 0 ≤ (0 : Int) := (by omega); have q307 : 0 < (l0.length : Int) := of_decide_eq_true (by first | (with_reducible assumption) | assumption); obtain ⟨ad307, e307, hx307_0⟩ := Kd.at_string HR0.out 0 p307 q307; cases e307; have qi307 : (0 < l0.length) = True := eq_true (by omega); (try rw [show ((0 : Int)).toNat = 0 from rfl] at hx307_0)
     (try rw [Addr.add_zero'] at hx307_0)
     replace hx307_0 := (HB.out.cell (World.block_lt_of_cell? w _ hx307_0)).trans hx307_0; replace p307 := eq_true p307; replace q307 := eq_true q307; go_wp2; go_meet
     case rel => exact ⟨_, (true), (by first | rfl | (simp; done) | (simp [*]; done)), H', ⟨by first | omega | exact Nat.le_refl _⟩, ⟨by (with_reducible repeat (first | refine blk_drewN ?_ _ | refine blk_drew ?_ | refine blk_alloc ?_ _)); exact BK306.out⟩, ⟨by repeat (first | (with_reducible first | exact HB.out | apply below_alloc | apply pw_below_drewN | apply below_drew1 | refine below_set ?_ GE306.out) | exact HB.out)⟩⟩
   · rw [if_neg c5] at H; exact absurd H (by simp)
  ·
   rw [if_neg c4] at H; have c4b0 : ((l0.length : Int) == 4) = false := beq_eq_false_iff_ne.mpr c4; have c4b1 : ((l0.length : Int) != 4) = true := bne_iff_ne.mpr c4; (first | rw [c4b0] | (simp only [i64_w, i32_w]; rw [c4b0]) | skip)
   have H' := Aside0.mk H; clear H; go_wp2; go_meet
   case rel => exact ⟨_, (true), (by first | rfl | (simp; done) | (simp [*]; done)), H', ⟨by first | omega | exact Nat.le_refl _⟩, ⟨by (with_reducible repeat (first | refine blk_drewN ?_ _ | refine blk_drew ?_ | refine blk_alloc ?_ _)); exact BK306.out⟩, ⟨by repeat (first | (with_reducible first | exact HB.out | apply below_alloc | apply pw_below_drewN | apply below_drew1 | refine below_set ?_ GE306.out) | exact HB.out)⟩⟩
 case rest =>
  clear HC2; try clear p2
  try clear p3
  try clear q3
  try clear hx3
  try clear qi3
  try clear c4
  try clear c4b0
  try clear c4b1
  try clear c5
  try clear c5b0
  try clear c5b1
  try clear c6
  try clear c6b0
  try clear c6b1
  try clear c7
  try clear c7b0
  try clear c7b1
  try clear hx307_0
  try clear hx308_0
  try clear p307
  try clear p308
  try clear q307
  try clear q308
  obtain ⟨kq, x22_1, rfl, HA, HJ1, BK306, HB⟩ := hcut
  cases kq with
  | zero => exact absurd HA.out (by simp [spileref09_point.j0])
  | succ kj1 =>
   have H := HA.out; clear HA; simp only [spileref09_point.j0] at H; by_cases c8 : x22_1 = true
   ·
    subst c8; have H1 : (some (0, 0, false)) = some (r1, r2, r3) := by rw [if_pos rfl] at H; exact H
    clear H; have H := H1; clear H1; simp only [Option.some.injEq, Prod.mk.injEq] at H; obtain ⟨rfl, rfl, rfl⟩ := H; have hcz9_0 : wc.cell? ⟨gb306, 0, none⟩ = some (.int .i64 0) := (blk_cell BK306.out 0).trans rfl; have hcz9_1 : wc.cell? ⟨gb306, 1, none⟩ = some (.int .i64 0) := (blk_cell BK306.out 1).trans rfl; have hfz9_0 := blk_frozen BK306.out 0; have hfz9_1 := blk_frozen BK306.out 1; go_wp2; refine bodyPost_ret (results_ct rfl _ _ gb306 46 #[.int .i64 0, .int .i64 0] (0, 0) _ rfl (by (with_reducible repeat (first | refine blk_drewN ?_ _ | refine blk_drew ?_ | refine blk_alloc ?_ _)); refine blk_put (cs := #[.int .i64 0, .int .i64 0]) ?_ 1 _ rfl; (with_reducible repeat (first | refine blk_drewN ?_ _ | refine blk_drew ?_ | refine blk_alloc ?_ _)); refine blk_put (cs := #[.int .i64 0, .int .i64 0]) ?_ 0 _ rfl; (with_reducible repeat (first | refine blk_drewN ?_ _ | refine blk_drew ?_ | refine blk_alloc ?_ _)); exact BK306.out) Tryd.underlying46 rfl (by kernel_rfl)) rfl ?_; exact ⟨by first | rfl | (simp [errW_none, errW_some] <;> rfl) | (simp [*, errW_none, errW_some] <;> rfl), by repeat (first | (with_reducible first | exact HB.out | apply below_alloc | apply pw_below_drewN | apply below_drew1 | refine below_set ?_ GE306.out) | exact HB.out)⟩
   ·
    replace c8 := Bool.eq_false_iff.mpr c8; subst c8; have H1 : (if 1 < (l0.length : Int) then ((spileref09_Number.f kj1 (rdOf ByteArray.empty l0 1)).bind fun bt310 => (if 3 < (l0.length : Int) then ((spileref09_Number.f kj1 (rdOf ByteArray.empty l0 3)).bind fun bt313 => (if bt310.2 = true then (some (bt310.1, bt313.1, bt313.2)) else (some (bt310.1, bt313.1, false)))) else (none))) else (none)) = some (r1, r2, r3) := by rw [if_neg (show ¬ (false = true) by decide)] at H; exact H
    clear H; have H := H1; clear H1; by_cases c10 : 1 < (l0.length : Int)
    ·
     rw [if_pos c10] at H; have c10b0 : decide (1 < (l0.length : Int)) = true := decide_eq_true c10; have c10b1 : decide (1 < l0.length) = true := decide_eq_true (by omega); clear c10; replace H := Option.bind_eq_some_iff.mp H; obtain ⟨⟨t310, t311⟩, A110, H⟩ := H; replace H : (if 3 < (l0.length : Int) then ((spileref09_Number.f kj1 (rdOf ByteArray.empty l0 3)).bind fun bt313 => (if t311 = true then (some (t310, bt313.1, bt313.2)) else (some (t310, bt313.1, false)))) else (none)) = some (r1, r2, r3) := H; have A11 := Aside0.mk A110; clear A110; by_cases c12 : 3 < (l0.length : Int)
     ·
      rw [if_pos c12] at H; have c12b0 : decide (3 < (l0.length : Int)) = true := decide_eq_true c12; have c12b1 : decide (3 < l0.length) = true := decide_eq_true (by omega); clear c12; replace H := Option.bind_eq_some_iff.mp H; obtain ⟨⟨t313, t314⟩, A130, H⟩ := H; replace H : (if t311 = true then (some (t310, t313, t314)) else (some (t310, t313, false))) = some (r1, r2, r3) := H; have A13 := Aside0.mk A130; clear A130; by_cases c14 : t311 = true
      ·
       subst c14; have H1 : (some (t310, t313, t314)) = some (r1, r2, r3) := by rw [if_pos rfl] at H; exact H
       clear H; have H := H1; clear H1; simp only [Option.some.injEq, Prod.mk.injEq] at H; obtain ⟨rfl, rfl, rfl⟩ := H; have p309 : 0 ≤ (1 : Int) := (by omega); have q309 : 1 < (l0.length : Int) := of_decide_eq_true (by first | (with_reducible assumption) | assumption); obtain ⟨ad309, e309, hx309_0⟩ := Kd.at_string HR0.out 1 p309 q309; cases e309; (try simp only [show (1 : Int).toNat = 1 from rfl, Nat.reduceMul, Nat.reduceEqDiff, Go.Addr.add, ↓reduceIte] at hx309_0)
       have qi309 : (1 < l0.length) = True := eq_true (by omega); (try rw [show ((1 : Int)).toNat = 1 from rfl] at hx309_0)
       replace hx309_0 := (HB.out.cell (World.block_lt_of_cell? w _ hx309_0)).trans hx309_0; replace p309 := eq_true p309; replace q309 := eq_true q309; go_wp2_with (first | ((with_reducible refine gate_callee (f := 69) rfl ?_); refine goesL_ (some 28) rfl rfl Tryd.func69 (by kernel_rfl) rfl #[.string (rdOf ByteArray.empty l0 1)] rfl (by (try simp only [List.map_toArray, List.map_cons, List.map_nil]); first | done | rfl | (simp only [List.length_drop, List.length_take]; rfl)) ?_; (with_reducible refine (spileref09_Number.calls kj1 (rdOf ByteArray.empty l0 1) t310 true _ A11.out).mono ?_); rintro e w' ⟨rfl, ⟨nd, rfl⟩⟩; refine ⟨_, rfl, ?_⟩; (try (rw [drewN_self wc]; generalize hq_ : World.drewN wc _ = wc; have n0_ : Aside0 (wc.heap[gb306]? = some (.cells #[.int .i64 0, .int .i64 0] 46 (0, 0))) := ⟨by rw [← hq_]; exact (by (with_reducible repeat (first | refine blk_drewN ?_ _ | refine blk_drew ?_ | refine blk_alloc ?_ _)); exact BK306.out)⟩; have n1_ : Aside0 (Below w.heap.size w wc) := ⟨by rw [← hq_]; exact (by repeat (first | (with_reducible first | exact HB.out | apply below_alloc | apply pw_below_drewN | apply below_drew1 | refine below_set ?_ GE306.out) | exact HB.out))⟩; clear BK306 HB hq_; have BK306 := n0_; have HB := n1_; clear n0_ n1_)); have p312 : 0 ≤ (3 : Int) := (by omega); have q312 : 3 < (l0.length : Int) := of_decide_eq_true (by first | (with_reducible assumption) | assumption); obtain ⟨ad312, e312, hx312_0⟩ := Kd.at_string HR0.out 3 p312 q312; obtain rfl : ad309 = ad312 := (by injection e312); (try simp only [show (3 : Int).toNat = 3 from rfl, Nat.reduceMul, Nat.reduceEqDiff, Go.Addr.add, ↓reduceIte] at hx312_0); have qi312 : (3 < l0.length) = True := eq_true (by omega); (try rw [show ((3 : Int)).toNat = 3 from rfl] at hx312_0); replace hx312_0 := (HB.out.cell (World.block_lt_of_cell? w _ hx312_0)).trans hx312_0; replace p312 := eq_true p312; replace q312 := eq_true q312) | ((with_reducible refine gate_callee (f := 69) rfl ?_); refine goesL_ (some 35) rfl rfl Tryd.func69 (by kernel_rfl) rfl #[.string (rdOf ByteArray.empty l0 3)] rfl (by (try simp only [List.map_toArray, List.map_cons, List.map_nil]); first | done | rfl | (simp only [List.length_drop, List.length_take]; rfl)) ?_; (with_reducible refine (spileref09_Number.calls kj1 (rdOf ByteArray.empty l0 3) t313 t314 _ A13.out).mono ?_); rintro e w' ⟨rfl, ⟨nd, rfl⟩⟩; refine ⟨_, rfl, ?_⟩; (try (rw [drewN_self wc]; generalize hq_ : World.drewN wc _ = wc; have n0_ : Aside0 (wc.heap[gb306]? = some (.cells #[.int .i64 0, .int .i64 0] 46 (0, 0))) := ⟨by rw [← hq_]; exact (by (with_reducible repeat (first | refine blk_drewN ?_ _ | refine blk_drew ?_ | refine blk_alloc ?_ _)); exact BK306.out)⟩; have n1_ : Aside0 (Below w.heap.size w wc) := ⟨by rw [← hq_]; exact (by repeat (first | (with_reducible first | exact HB.out | apply below_alloc | apply pw_below_drewN | apply below_drew1 | refine below_set ?_ GE306.out) | exact HB.out))⟩; clear BK306 HB hq_; have BK306 := n0_; have HB := n1_; clear n0_ n1_)); have hcz15_0 : wc.cell? ⟨gb306, 0, none⟩ = some (.int .i64 0) := (blk_cell BK306.out 0).trans rfl; have hcz15_1 : wc.cell? ⟨gb306, 1, none⟩ = some (.int .i64 0) := (blk_cell BK306.out 1).trans rfl; have hfz15_0 := blk_frozen BK306.out 0; have hfz15_1 := blk_frozen BK306.out 1))
       refine bodyPost_ret (results_ct rfl _ _ gb306 46 #[.int .i64 t310, .int .i64 t313] (0, 0) _ rfl (by (with_reducible repeat (first | refine blk_drewN ?_ _ | refine blk_drew ?_ | refine blk_alloc ?_ _)); refine blk_put (cs := #[.int .i64 t310, .int .i64 0]) ?_ 1 _ rfl; (with_reducible repeat (first | refine blk_drewN ?_ _ | refine blk_drew ?_ | refine blk_alloc ?_ _)); refine blk_put (cs := #[.int .i64 0, .int .i64 0]) ?_ 0 _ rfl; (with_reducible repeat (first | refine blk_drewN ?_ _ | refine blk_drew ?_ | refine blk_alloc ?_ _)); exact BK306.out) Tryd.underlying46 rfl (by kernel_rfl)) rfl ?_; exact ⟨by first | rfl | (simp [errW_none, errW_some] <;> rfl) | (simp [*, errW_none, errW_some] <;> rfl), by repeat (first | (with_reducible first | exact HB.out | apply below_alloc | apply pw_below_drewN | apply below_drew1 | refine below_set ?_ GE306.out) | exact HB.out)⟩
      ·
       replace c14 := Bool.eq_false_iff.mpr c14; subst c14; have H1 : (some (t310, t313, false)) = some (r1, r2, r3) := by rw [if_neg (show ¬ (false = true) by decide)] at H; exact H
       clear H; have H := H1; clear H1; simp only [Option.some.injEq, Prod.mk.injEq] at H; obtain ⟨rfl, rfl, rfl⟩ := H; have p309 : 0 ≤ (1 : Int) := (by omega); have q309 : 1 < (l0.length : Int) := of_decide_eq_true (by first | (with_reducible assumption) | assumption); obtain ⟨ad309, e309, hx309_0⟩ := Kd.at_string HR0.out 1 p309 q309; cases e309; (try simp only [show (1 : Int).toNat = 1 from rfl, Nat.reduceMul, Nat.reduceEqDiff, Go.Addr.add, ↓reduceIte] at hx309_0)
       have qi309 : (1 < l0.length) = True := eq_true (by omega); (try rw [show ((1 : Int)).toNat = 1 from rfl] at hx309_0)
       replace hx309_0 := (HB.out.cell (World.block_lt_of_cell? w _ hx309_0)).trans hx309_0; replace p309 := eq_true p309; replace q309 := eq_true q309; go_wp2_with (first | ((with_reducible refine gate_callee (f := 69) rfl ?_); refine goesL_ (some 28) rfl rfl Tryd.func69 (by kernel_rfl) rfl #[.string (rdOf ByteArray.empty l0 1)] rfl (by (try simp only [List.map_toArray, List.map_cons, List.map_nil]); first | done | rfl | (simp only [List.length_drop, List.length_take]; rfl)) ?_; (with_reducible refine (spileref09_Number.calls kj1 (rdOf ByteArray.empty l0 1) t310 false _ A11.out).mono ?_); rintro e w' ⟨rfl, ⟨nd, rfl⟩⟩; refine ⟨_, rfl, ?_⟩; (try (rw [drewN_self wc]; generalize hq_ : World.drewN wc _ = wc; have n0_ : Aside0 (wc.heap[gb306]? = some (.cells #[.int .i64 0, .int .i64 0] 46 (0, 0))) := ⟨by rw [← hq_]; exact (by (with_reducible repeat (first | refine blk_drewN ?_ _ | refine blk_drew ?_ | refine blk_alloc ?_ _)); exact BK306.out)⟩; have n1_ : Aside0 (Below w.heap.size w wc) := ⟨by rw [← hq_]; exact (by repeat (first | (with_reducible first | exact HB.out | apply below_alloc | apply pw_below_drewN | apply below_drew1 | refine below_set ?_ GE306.out) | exact HB.out))⟩; clear BK306 HB hq_; have BK306 := n0_; have HB := n1_; clear n0_ n1_)); have p312 : 0 ≤ (3 : Int) := (by omega); have q312 : 3 < (l0.length : Int) := of_decide_eq_true (by first | (with_reducible assumption) | assumption); obtain ⟨ad312, e312, hx312_0⟩ := Kd.at_string HR0.out 3 p312 q312; obtain rfl : ad309 = ad312 := (by injection e312); (try simp only [show (3 : Int).toNat = 3 from rfl, Nat.reduceMul, Nat.reduceEqDiff, Go.Addr.add, ↓reduceIte] at hx312_0); have qi312 : (3 < l0.length) = True := eq_true (by omega); (try rw [show ((3 : Int)).toNat = 3 from rfl] at hx312_0); replace hx312_0 := (HB.out.cell (World.block_lt_of_cell? w _ hx312_0)).trans hx312_0; replace p312 := eq_true p312; replace q312 := eq_true q312) | ((with_reducible refine gate_callee (f := 69) rfl ?_); refine goesL_ (some 35) rfl rfl Tryd.func69 (by kernel_rfl) rfl #[.string (rdOf ByteArray.empty l0 3)] rfl (by (try simp only [List.map_toArray, List.map_cons, List.map_nil]); first | done | rfl | (simp only [List.length_drop, List.length_take]; rfl)) ?_; (with_reducible refine (spileref09_Number.calls kj1 (rdOf ByteArray.empty l0 3) t313 t314 _ A13.out).mono ?_); rintro e w' ⟨rfl, ⟨nd, rfl⟩⟩; refine ⟨_, rfl, ?_⟩; (try (rw [drewN_self wc]; generalize hq_ : World.drewN wc _ = wc; have n0_ : Aside0 (wc.heap[gb306]? = some (.cells #[.int .i64 0, .int .i64 0] 46 (0, 0))) := ⟨by rw [← hq_]; exact (by (with_reducible repeat (first | refine blk_drewN ?_ _ | refine blk_drew ?_ | refine blk_alloc ?_ _)); exact BK306.out)⟩; have n1_ : Aside0 (Below w.heap.size w wc) := ⟨by rw [← hq_]; exact (by repeat (first | (with_reducible first | exact HB.out | apply below_alloc | apply pw_below_drewN | apply below_drew1 | refine below_set ?_ GE306.out) | exact HB.out))⟩; clear BK306 HB hq_; have BK306 := n0_; have HB := n1_; clear n0_ n1_)); have hcz16_0 : wc.cell? ⟨gb306, 0, none⟩ = some (.int .i64 0) := (blk_cell BK306.out 0).trans rfl; have hcz16_1 : wc.cell? ⟨gb306, 1, none⟩ = some (.int .i64 0) := (blk_cell BK306.out 1).trans rfl; have hfz16_0 := blk_frozen BK306.out 0; have hfz16_1 := blk_frozen BK306.out 1))
       refine bodyPost_ret (results_ct rfl _ _ gb306 46 #[.int .i64 t310, .int .i64 t313] (0, 0) _ rfl (by (with_reducible repeat (first | refine blk_drewN ?_ _ | refine blk_drew ?_ | refine blk_alloc ?_ _)); refine blk_put (cs := #[.int .i64 t310, .int .i64 0]) ?_ 1 _ rfl; (with_reducible repeat (first | refine blk_drewN ?_ _ | refine blk_drew ?_ | refine blk_alloc ?_ _)); refine blk_put (cs := #[.int .i64 0, .int .i64 0]) ?_ 0 _ rfl; (with_reducible repeat (first | refine blk_drewN ?_ _ | refine blk_drew ?_ | refine blk_alloc ?_ _)); exact BK306.out) Tryd.underlying46 rfl (by kernel_rfl)) rfl ?_; exact ⟨by first | rfl | (simp [errW_none, errW_some] <;> rfl) | (simp [*, errW_none, errW_some] <;> rfl), by repeat (first | (with_reducible first | exact HB.out | apply below_alloc | apply pw_below_drewN | apply below_drew1 | refine below_set ?_ GE306.out) | exact HB.out)⟩
     · rw [if_neg c12] at H; exact absurd H (by simp)
    · rw [if_neg c10] at H; exact absurd H (by simp)
end Go.Proofs.YtnhmlneebnkjcaaDoor.Pr
namespace Go.Proofs.YtnhmlneebnkjcaaDoor.Pr
open Go.RowKit Go.Proofs.YtnhmlneebnkjcaaDoorW.PrintWords Go.Proofs.YtnhmlneebnkjcaaDoorW.PrintLast Go.Proofs.YtnhmlneebnkjcaaDoorW.PrintMore Go.Proofs.YtnhmlneebnkjcaaDoor.X
attribute [local go_sem] max2_int min2_int max_two min_two max_three min_three max_four min_four   -- for this text's walks alone
set_option linter.unusedVariables false
set_option linter.unusedSimpArgs false
mutual
def spileref09_Parse.l0 : Nat → ByteArray → List (S27) → Bool → Int → Int → Int → Option ((List (S27)) × Int × Int)
 | 0, _, _, _, _, _, _ => none
 | k + 1, x0, x5, x6, x7, x8, x9 => if x9 < (x0.size : Int) then (if 0 ≤ x9 then (if (bt x0 x9) = 10 then (if 0 ≤ x8 then (if x8 ≤ x9 then (if x9 ≤ (x0.size : Int) then ((spileref09_Words.f k (x0.extract (x8 : Int).toNat (x9 : Int).toNat)).bind fun bt315 => (if bt315.2 = true then (if x6 = true then (if (bt315.1.length : Int) = 1 then (if 0 < (bt315.1.length : Int) then (spileref09_Parse.j1 k x0 x5 x6 (wrap64 (x7 + 1)) (wrap64 (x9 + 1)) x9 bt315.1 ((rdOf ByteArray.empty bt315.1 0).toList == ([101, 110, 100] : List UInt8))) else (none)) else (spileref09_Parse.j1 k x0 x5 x6 (wrap64 (x7 + 1)) (wrap64 (x9 + 1)) x9 bt315.1 false)) else ((spileref09_head.f k bt315.1).bind fun bt319 => (if bt319.2.2.2.2 = true then (if x5.length < 2513169434916 then (spileref09_Parse.l0 k x0 (x5 ++ [(⟨bt319.1, bt319.2.1, bt319.2.2.1, bt319.2.2.2.1⟩ : S27)]) true (wrap64 (x7 + 1)) (wrap64 (x9 + 1)) (wrap64 (x9 + 1))) else (none)) else (some (([] : List (S27)), wrap64 (x7 + 1), 3))))) else (some (([] : List (S27)), wrap64 (x7 + 1), 3)))) else (none)) else (none)) else (none)) else (spileref09_Parse.l0 k x0 x5 x6 x7 x8 (wrap64 (x9 + 1)))) else (none)) else (if x8 < (x0.size : Int) then (spileref09_Parse.j2 k x5 x7 true) else (spileref09_Parse.j2 k x5 x7 x6))
def spileref09_Parse.j1 : Nat → ByteArray → List (S27) → Bool → Int → Int → Int → List ByteArray → Bool → Option ((List (S27)) × Int × Int)
 | 0, _, _, _, _, _, _, _, _ => none
 | k + 1, x0, x5, x6, x7, x8, x9, x10, x67 => if x67 = true then (spileref09_Parse.l0 k x0 x5 false x7 x8 (wrap64 (x9 + 1))) else ((spileref09_point.f k x10).bind fun bt331 => (if bt331.2.2 = true then (if 0 ≤ (wrap64 ((x5.length : Int) - 1)) then (if (wrap64 ((x5.length : Int) - 1)) < (x5.length : Int) then (if ((rd_T27 x5 (wrap64 ((x5.length : Int) - 1))).f2).length < 8796093022208 then (spileref09_Parse.l0 k x0 (x5.set ((wrap64 ((x5.length : Int) - 1)) : Int).toNat (⟨(rd_T27 x5 (wrap64 ((x5.length : Int) - 1))).f0, (rd_T27 x5 (wrap64 ((x5.length : Int) - 1))).f1, (((rd_T27 x5 (wrap64 ((x5.length : Int) - 1))).f2) ++ [(⟨bt331.1, bt331.2.1⟩ : S46)]), (rd_T27 x5 (wrap64 ((x5.length : Int) - 1))).f3⟩ : S27)) x6 x7 x8 (wrap64 (x9 + 1))) else (none)) else (none)) else (none)) else (some (([] : List (S27)), x7, 3))))
def spileref09_Parse.j2 : Nat → List (S27) → Int → Bool → Option ((List (S27)) × Int × Int)
 | 0, _, _, _ => none
 | k + 1, x5, x7, x98 => if x98 = true then (some (([] : List (S27)), wrap64 (x7 + 1), 3)) else ((spileref09_List.f k x5).bind fun t340 => (if t340 = 0 then (some (x5, 0, 0)) else (some (([] : List (S27)), 0, t340))))
end
def spileref09_Parse.f (k : Nat) (a0 : ByteArray) : Option ((List (S27)) × Int × Int) := if (a0.size : Int) > 65536 then (some (([] : List (S27)), 0, 8)) else (spileref09_Parse.l0 k a0 ([] : List (S27)) false 0 0 0)
def spileref09_Parse.T24 : Bool × List (List Nat × List Nat) := (true, [([], []), ([], []), ([1], [1]), ([2], [2]), ([], []), ([], []), ([5], [5]), ([6], [6]), ([4, 7], [4, 7]), ([8], [8]), ([9], [9]), ([], []), ([11], [11]), ([10, 12], [10, 12]), ([0, 3, 0, 1, 2, 3, 4, 5, 6, 7, 8, 9, 10, 11, 12, 13], [0, 3]), ([14, 0, 1, 2, 3, 4, 5, 6, 7, 8, 9, 10, 11, 12, 13], [14]), ([15, 13, 13, 0, 1, 2, 3, 4, 5, 6, 7, 8, 9, 10, 11, 12, 13], [13, 15])])
def spileref09_Parse.B24 : List Nat := [0, 0, 2, 6, 0, 0, 32, 96, 240, 496, 1008, 0, 2048, 8176, 16383, 32767, 65535]
theorem spileref09_Parse.tab24 : rtab .any (opsOf Tryd.f25 24) = spileref09_Parse.T24 := by kernel_rfl
theorem spileref09_Parse.bits24 : waitsOk spileref09_Parse.T24.2 spileref09_Parse.B24 = true := by kernel_rfl
set_option maxHeartbeats 8000000 in
set_option maxRecDepth 100000 in
theorem spileref09_Parse.calls (k : Nat) (a0 : ByteArray) (r1 : List (S27)) (r2 : Int) (r3 : Int) (w : World) (h : spileref09_Parse.f k a0 = some (r1, r2, r3)) :
  Calls Tryd.prog 25 #[.string a0] w fun e w' => ∃ v0_ : Value, e = .returned (.tuple #[v0_, .int .i64 r2, .int .i64 r3]) ∧ Kd.S k27 27 w' w.heap.size (fun _ => True) v0_ r1 ∧ Below w.heap.size w w' := by
 have hu27 := Tryd.underlying27; have hu46 := Tryd.underlying46; have HB := Aside0.mk (Below.refl w.heap.size w); have H : (if (a0.size : Int) > 65536 then (some (([] : List (S27)), 0, 8)) else (spileref09_Parse.l0 k a0 ([] : List (S27)) false 0 0 0)) = some (r1, r2, r3) := h; clear h; by_cases c2 : (a0.size : Int) > 65536
 ·
  rw [if_pos c2] at H; have c2b0 : decide (65536 < (a0.size : Int)) = true := decide_eq_true c2; have c2b1 : decide (65536 < a0.size) = true := decide_eq_true (by omega); clear c2; simp only [Option.some.injEq, Prod.mk.injEq] at H; obtain ⟨rfl, rfl, rfl⟩ := H; go_enter Tryd.func25, Tryd.ntmps25
  go_wp2; go_ret3
  exact ⟨_, by first | rfl | (simp [errW_none, errW_some] <;> rfl) | (simp [*, errW_none, errW_some] <;> rfl), by first | exact Kd.S_nil _ _ _ _ _ | exact Kd.N_nil _ _ _ _ _ | exact Kd.V_nil _ _ _ _ _ | exact Kd.Q_nil _ _ _ _ _ | exact Kd.R_nil _ _ _ _ _, by repeat (first | (with_reducible first | exact HB.out | apply below_alloc | apply pw_below_drewN | apply below_drew1) | exact HB.out)⟩
 ·
  rw [if_neg c2] at H; have c2b0 : decide (65536 < (a0.size : Int)) = false := decide_eq_false c2; have c2b1 : decide (65536 < a0.size) = false := decide_eq_false (by omega); clear c2; have H' := Aside0.mk H; clear H; go_enter Tryd.func25, Tryd.ntmps25
  go_wp2; go_loopg [5, 6, 7, 8, 9] k (fun kq v5 v6 v7 v8 v9 w' => ∃ (x5_1 : List (S27)) (x6_1 : Bool) (x7_1 : Int) (x8_1 : Int) (x9_1 : Int), v6 = .bool x6_1 ∧ v7 = .int .i64 x7_1 ∧ v8 = .int .i64 x8_1 ∧ v9 = .int .i64 x9_1 ∧ Aside0 (spileref09_Parse.l0 kq a0 x5_1 x6_1 x7_1 x8_1 x9_1 = some (r1, r2, r3)) ∧ Aside0 (kq ≤ k) ∧ Aside0 (Kd.S k27 27 w' w.heap.size (fun _ => True) v5 x5_1) ∧ Aside0 (Below w.heap.size w w'))
  case atStart => exact ⟨(([] : List (S27))), (false), (0), (0), (0), (by first | rfl | (simp; done) | (simp [*]; done)), (by first | rfl | (simp; done) | (simp [*]; done)), (by first | rfl | (simp; done) | (simp [*]; done)), (by first | rfl | (simp; done) | (simp [*]; done)), H', ⟨Nat.le_refl _⟩, ⟨by first | exact Kd.S_nil _ _ _ _ _ | exact Kd.N_nil _ _ _ _ _ | exact Kd.V_nil _ _ _ _ _ | exact Kd.Q_nil _ _ _ _ _ | exact Kd.R_nil _ _ _ _ _⟩, ⟨by repeat (first | (with_reducible first | exact HB.out | apply below_alloc | apply pw_below_drewN | apply below_drew1) | exact HB.out)⟩⟩
  case round =>
   clear H'; try clear c2
   try clear c2b0
   try clear c2b1
   try clear p2
   obtain ⟨x5_1, x6_1, x7_1, x8_1, x9_1, rfl, rfl, rfl, rfl, HA, HK1, HO_5, HB⟩ := hrel
   cases gk with
   | zero => exact absurd HA.out (by simp [spileref09_Parse.l0])
   | succ k1 =>
    have H := HA.out; clear HA; simp only [spileref09_Parse.l0] at H; by_cases c3 : x9_1 < (a0.size : Int)
    ·
     rw [if_pos c3] at H; have c3b0 : decide (x9_1 < (a0.size : Int)) = true := decide_eq_true c3; clear c3; by_cases c4 : 0 ≤ x9_1
     ·
      rw [if_pos c4] at H; have c4b0 : decide (0 ≤ x9_1) = true := decide_eq_true c4; clear c4; by_cases c6 : (bt a0 x9_1) = 10
      ·
       rw [if_pos c6] at H; have c6b0 : ((bt a0 x9_1) == 10) = true := beq_iff_eq.mpr c6; have c6b1 : ((bt a0 x9_1) != 10) = false := bne_eq_false_iff_eq.mpr c6; clear c6; by_cases c7 : 0 ≤ x8_1
       ·
        rw [if_pos c7] at H; have c7b0 := eq_true c7; have c7b1 : decide (0 ≤ x8_1) = true := decide_eq_true c7; clear c7; by_cases c8 : x8_1 ≤ x9_1
        ·
         rw [if_pos c8] at H; have c8b0 := eq_true c8; have c8b1 : decide (x8_1 ≤ x9_1) = true := decide_eq_true c8; clear c8; by_cases c9 : x9_1 ≤ (a0.size : Int)
         ·
          rw [if_pos c9] at H; have c9b0 := eq_true c9; have c9b1 : decide (x9_1 ≤ (a0.size : Int)) = true := decide_eq_true c9; clear c9; replace H := Option.bind_eq_some_iff.mp H; obtain ⟨⟨t315, t316⟩, A100, H⟩ := H; replace H : (if t316 = true then (if x6_1 = true then (if (t315.length : Int) = 1 then (if 0 < (t315.length : Int) then (spileref09_Parse.j1 k1 a0 x5_1 x6_1 (wrap64 (x7_1 + 1)) (wrap64 (x9_1 + 1)) x9_1 t315 ((rdOf ByteArray.empty t315 0).toList == ([101, 110, 100] : List UInt8))) else (none)) else (spileref09_Parse.j1 k1 a0 x5_1 x6_1 (wrap64 (x7_1 + 1)) (wrap64 (x9_1 + 1)) x9_1 t315 false)) else ((spileref09_head.f k1 t315).bind fun bt319 => (if bt319.2.2.2.2 = true then (if x5_1.length < 2513169434916 then (spileref09_Parse.l0 k1 a0 (x5_1 ++ [(⟨bt319.1, bt319.2.1, bt319.2.2.1, bt319.2.2.2.1⟩ : S27)]) true (wrap64 (x7_1 + 1)) (wrap64 (x9_1 + 1)) (wrap64 (x9_1 + 1))) else (none)) else (some (([] : List (S27)), wrap64 (x7_1 + 1), 3))))) else (some (([] : List (S27)), wrap64 (x7_1 + 1), 3))) = some (r1, r2, r3) := H; have A10 := Aside0.mk A100; clear A100; by_cases c11 : t316 = true
          ·
           subst c11; have H1 : (if x6_1 = true then (if (t315.length : Int) = 1 then (if 0 < (t315.length : Int) then (spileref09_Parse.j1 k1 a0 x5_1 x6_1 (wrap64 (x7_1 + 1)) (wrap64 (x9_1 + 1)) x9_1 t315 ((rdOf ByteArray.empty t315 0).toList == ([101, 110, 100] : List UInt8))) else (none)) else (spileref09_Parse.j1 k1 a0 x5_1 x6_1 (wrap64 (x7_1 + 1)) (wrap64 (x9_1 + 1)) x9_1 t315 false)) else ((spileref09_head.f k1 t315).bind fun bt319 => (if bt319.2.2.2.2 = true then (if x5_1.length < 2513169434916 then (spileref09_Parse.l0 k1 a0 (x5_1 ++ [(⟨bt319.1, bt319.2.1, bt319.2.2.1, bt319.2.2.2.1⟩ : S27)]) true (wrap64 (x7_1 + 1)) (wrap64 (x9_1 + 1)) (wrap64 (x9_1 + 1))) else (none)) else (some (([] : List (S27)), wrap64 (x7_1 + 1), 3))))) = some (r1, r2, r3) := by rw [if_pos rfl] at H; exact H
           clear H; have H := H1; clear H1; by_cases c12 : x6_1 = true
           ·
            subst c12; have H1 : (if (t315.length : Int) = 1 then (if 0 < (t315.length : Int) then (spileref09_Parse.j1 k1 a0 x5_1 true (wrap64 (x7_1 + 1)) (wrap64 (x9_1 + 1)) x9_1 t315 ((rdOf ByteArray.empty t315 0).toList == ([101, 110, 100] : List UInt8))) else (none)) else (spileref09_Parse.j1 k1 a0 x5_1 true (wrap64 (x7_1 + 1)) (wrap64 (x9_1 + 1)) x9_1 t315 false)) = some (r1, r2, r3) := by rw [if_pos rfl] at H; exact H
            clear H; have H := H1; clear H1; have HC13 := Aside0.mk H; clear H; have p5 : 0 ≤ (x9_1 : Int) := of_decide_eq_true (by first | (with_reducible assumption) | assumption); have q5 : x9_1 < (a0.size : Int) := of_decide_eq_true (by first | (with_reducible assumption) | assumption); have hx5 := bt_at a0 x9_1; replace p5 := eq_true p5; replace q5 := eq_true q5; go_upto_region 19 with (first | ((with_reducible refine gate_callee (f := 49) rfl ?_); refine goesL_ (some 37) rfl rfl Tryd.func49 (by kernel_rfl) rfl #[.string (a0.extract (x8_1 : Int).toNat (x9_1 : Int).toNat)] rfl (by (try simp only [List.map_toArray, List.map_cons, List.map_nil]); first | done | rfl | (simp only [List.length_drop, List.length_take]; rfl)) ?_; (with_reducible refine (spileref09_Words.calls k1 (a0.extract (x8_1 : Int).toNat (x9_1 : Int).toNat) t315 true _ A10.out).mono ?_); rintro e w14 ⟨v317, rfl, ho0, hb⟩; refine ⟨_, rfl, ?_⟩; have n0_ := Aside0.mk (Kd.S_below (by (with_reducible repeat (first | apply Kd.S_alloc | apply Kd.S_drewN | apply Kd.S_drew)); exact HO_5.out) hb); have n1_ := Aside0.mk (Kd.R_lower ho0 (below_size (by repeat (first | (with_reducible first | exact HB.out | apply below_alloc | apply pw_below_drewN | apply below_drew1) | exact HB.out)))); have n2_ := Aside0.mk (below_step (by repeat (first | (with_reducible first | exact HB.out | apply below_alloc | apply pw_below_drewN | apply below_drew1) | exact HB.out)) hb); clear HO_5; clear HB; have HO_5 := n0_; have HO318 := n1_; have HB := n2_; clear n0_ n1_ n2_; (try clear hb); (try clear hb2); (try clear hk); (try clear hi); (try clear ho0)))
            (try simp only [Act.put, sIA, sC0, sCS])
            go_cut [67] (fun v67 wc => ∃ (kq : Nat) (x67_12 : Bool), v67 = .bool x67_12 ∧ Aside0 (spileref09_Parse.j1 kq a0 x5_1 true (wrap64 (x7_1 + 1)) (wrap64 (x9_1 + 1)) x9_1 t315 x67_12 = some (r1, r2, r3)) ∧ Aside0 (kq ≤ k1) ∧ Aside0 (Kd.S k27 27 wc w.heap.size (fun _ => True) u5 x5_1) ∧ Aside0 (Kd.R Kd.string 9 wc w.heap.size (fun _ => True) v317 t315) ∧ Aside0 (Below w.heap.size w wc))
            case first =>
             have H := HC13.out; clear HC13; by_cases c15 : (t315.length : Int) = 1
             ·
              rw [if_pos c15] at H; have c15b0 : ((t315.length : Int) == 1) = true := beq_iff_eq.mpr c15; have c15b1 : ((t315.length : Int) != 1) = false := bne_eq_false_iff_eq.mpr c15; clear c15; (first | rw [c15b0] | (simp only [i64_w, i32_w]; rw [c15b0]) | skip)
              by_cases c16 : 0 < (t315.length : Int)
              ·
               rw [if_pos c16] at H; have c16b0 : decide (0 < (t315.length : Int)) = true := decide_eq_true c16; have c16b1 : decide (0 < t315.length) = true := decide_eq_true (by omega); clear c16; have H' := Aside0.mk H; clear H; obtain ⟨Ao17, co17, eo17⟩ := Kd.R_slice HO318.out; subst eo17; have p330 : 0 ≤ (0 : Int) := (by omega); have q330 : 0 < (t315.length : Int) := of_decide_eq_true (by first | (with_reducible assumption) | assumption); obtain ⟨ad330, e330, hx330_0⟩ := Kd.at_string (Kd.R_reads' HO318.out).2.2 0 p330 q330; cases e330; have qi330 : (0 < t315.length) = True := eq_true (by omega); (try rw [show ((0 : Int)).toNat = 0 from rfl] at hx330_0)
               (try rw [Addr.add_zero'] at hx330_0)
               replace p330 := eq_true p330; replace q330 := eq_true q330; go_wp2; go_meet
               case rel => exact ⟨_, (((rdOf ByteArray.empty t315 0).toList == ([101, 110, 100] : List UInt8))), (by first | rfl | (simp; done) | (simp [*]; done)), H', ⟨by have := HK1.out; first | omega | exact Nat.le_refl _⟩, ⟨by (with_reducible repeat (first | apply Kd.S_alloc | apply Kd.S_drewN | apply Kd.S_drew)); exact HO_5.out⟩, ⟨by (with_reducible repeat (first | apply Kd.R_alloc | apply Kd.R_drewN | apply Kd.R_drew)); exact HO318.out⟩, ⟨by repeat (first | (with_reducible first | exact HB.out | apply below_alloc | apply pw_below_drewN | apply below_drew1) | exact HB.out)⟩⟩
              · rw [if_neg c16] at H; exact absurd H (by simp)
             ·
              rw [if_neg c15] at H; have c15b0 : ((t315.length : Int) == 1) = false := beq_eq_false_iff_ne.mpr c15; have c15b1 : ((t315.length : Int) != 1) = true := bne_iff_ne.mpr c15; (first | rw [c15b0] | (simp only [i64_w, i32_w]; rw [c15b0]) | skip)
              have H' := Aside0.mk H; clear H; obtain ⟨Ao18, co18, eo18⟩ := Kd.R_slice HO318.out; subst eo18; go_wp2; go_meet
              case rel => exact ⟨_, (false), (by first | rfl | (simp; done) | (simp [*]; done)), H', ⟨by have := HK1.out; first | omega | exact Nat.le_refl _⟩, ⟨by (with_reducible repeat (first | apply Kd.S_alloc | apply Kd.S_drewN | apply Kd.S_drew)); exact HO_5.out⟩, ⟨by (with_reducible repeat (first | apply Kd.R_alloc | apply Kd.R_drewN | apply Kd.R_drew)); exact HO318.out⟩, ⟨by repeat (first | (with_reducible first | exact HB.out | apply below_alloc | apply pw_below_drewN | apply below_drew1) | exact HB.out)⟩⟩
            case rest =>
             clear HC13; try clear c1
             try clear c2
             try clear c2b0
             try clear c2b1
             try clear p2
             try clear c3
             try clear c3b0
             try clear p3
             try clear q3
             try clear hx3
             try clear qi3
             try clear c4
             try clear c4b0
             try clear p5
             try clear q5
             try clear hx5
             try clear c6
             try clear c6b0
             try clear c6b1
             try clear p6
             try clear c7
             try clear c7b0
             try clear c7b1
             try clear c8
             try clear c8b0
             try clear c8b1
             try clear c9
             try clear c9b0
             try clear c9b1
             try clear c11
             try clear c12
             try clear c15
             try clear c15b0
             try clear c15b1
             try clear c16
             try clear c16b0
             try clear c16b1
             try clear hx330_0
             try clear p2
             try clear p330
             try clear p5
             try clear q330
             try clear q5
             obtain ⟨kq, x67_12, rfl, HA, HJ12, HO_5, HO_10, HB⟩ := hcut
             cases kq with
             | zero => exact absurd HA.out (by simp [spileref09_Parse.j1])
             | succ kj12 =>
              have H := HA.out; clear HA; simp only [spileref09_Parse.j1] at H; by_cases c19 : x67_12 = true
              ·
               subst c19; have H1 : (spileref09_Parse.l0 kj12 a0 x5_1 false (wrap64 (x7_1 + 1)) (wrap64 (x9_1 + 1)) (wrap64 (x9_1 + 1))) = some (r1, r2, r3) := by rw [if_pos rfl] at H; exact H
               clear H; have H := H1; clear H1; have H' := Aside0.mk H; clear H; go_wp2; go_roundg kj12
               case measure => have := HK1.out; have := HJ12.out; omega
               case rel => exact ⟨(x5_1), (false), ((wrap64 (x7_1 + 1))), ((wrap64 (x9_1 + 1))), (wrap64 (x9_1 + 1)), (by first | rfl | (simp; done) | (simp [*]; done)), (by first | rfl | (simp; done) | (simp [*]; done)), (by first | rfl | (simp; done) | (simp [*]; done)), (by first | rfl | (simp; done) | (simp [*]; done)), H', ⟨by have := HK1.out; have := HJ12.out; omega⟩, ⟨by (with_reducible repeat (first | apply Kd.S_alloc | apply Kd.S_drewN | apply Kd.S_drew)); exact HO_5.out⟩, ⟨by repeat (first | (with_reducible first | exact HB.out | apply below_alloc | apply pw_below_drewN | apply below_drew1) | exact HB.out)⟩⟩
              ·
               replace c19 := Bool.eq_false_iff.mpr c19; subst c19; have H1 : ((spileref09_point.f kj12 t315).bind fun bt331 => (if bt331.2.2 = true then (if 0 ≤ (wrap64 ((x5_1.length : Int) - 1)) then (if (wrap64 ((x5_1.length : Int) - 1)) < (x5_1.length : Int) then (if ((rd_T27 x5_1 (wrap64 ((x5_1.length : Int) - 1))).f2).length < 8796093022208 then (spileref09_Parse.l0 kj12 a0 (x5_1.set ((wrap64 ((x5_1.length : Int) - 1)) : Int).toNat (⟨(rd_T27 x5_1 (wrap64 ((x5_1.length : Int) - 1))).f0, (rd_T27 x5_1 (wrap64 ((x5_1.length : Int) - 1))).f1, (((rd_T27 x5_1 (wrap64 ((x5_1.length : Int) - 1))).f2) ++ [(⟨bt331.1, bt331.2.1⟩ : S46)]), (rd_T27 x5_1 (wrap64 ((x5_1.length : Int) - 1))).f3⟩ : S27)) true (wrap64 (x7_1 + 1)) (wrap64 (x9_1 + 1)) (wrap64 (x9_1 + 1))) else (none)) else (none)) else (none)) else (some (([] : List (S27)), (wrap64 (x7_1 + 1)), 3)))) = some (r1, r2, r3) := by rw [if_neg (show ¬ (false = true) by decide)] at H; exact H
               clear H; have H := H1; clear H1; replace H := Option.bind_eq_some_iff.mp H; obtain ⟨⟨t331, t332, t333⟩, A200, H⟩ := H; replace H : (if t333 = true then (if 0 ≤ (wrap64 ((x5_1.length : Int) - 1)) then (if (wrap64 ((x5_1.length : Int) - 1)) < (x5_1.length : Int) then (if ((rd_T27 x5_1 (wrap64 ((x5_1.length : Int) - 1))).f2).length < 8796093022208 then (spileref09_Parse.l0 kj12 a0 (x5_1.set ((wrap64 ((x5_1.length : Int) - 1)) : Int).toNat (⟨(rd_T27 x5_1 (wrap64 ((x5_1.length : Int) - 1))).f0, (rd_T27 x5_1 (wrap64 ((x5_1.length : Int) - 1))).f1, (((rd_T27 x5_1 (wrap64 ((x5_1.length : Int) - 1))).f2) ++ [(⟨t331, t332⟩ : S46)]), (rd_T27 x5_1 (wrap64 ((x5_1.length : Int) - 1))).f3⟩ : S27)) true (wrap64 (x7_1 + 1)) (wrap64 (x9_1 + 1)) (wrap64 (x9_1 + 1))) else (none)) else (none)) else (none)) else (some (([] : List (S27)), (wrap64 (x7_1 + 1)), 3))) = some (r1, r2, r3) := H; have A20 := Aside0.mk A200; clear A200; by_cases c21 : t333 = true
               ·
                subst c21; have H1 : (if 0 ≤ (wrap64 ((x5_1.length : Int) - 1)) then (if (wrap64 ((x5_1.length : Int) - 1)) < (x5_1.length : Int) then (if ((rd_T27 x5_1 (wrap64 ((x5_1.length : Int) - 1))).f2).length < 8796093022208 then (spileref09_Parse.l0 kj12 a0 (x5_1.set ((wrap64 ((x5_1.length : Int) - 1)) : Int).toNat (⟨(rd_T27 x5_1 (wrap64 ((x5_1.length : Int) - 1))).f0, (rd_T27 x5_1 (wrap64 ((x5_1.length : Int) - 1))).f1, (((rd_T27 x5_1 (wrap64 ((x5_1.length : Int) - 1))).f2) ++ [(⟨t331, t332⟩ : S46)]), (rd_T27 x5_1 (wrap64 ((x5_1.length : Int) - 1))).f3⟩ : S27)) true (wrap64 (x7_1 + 1)) (wrap64 (x9_1 + 1)) (wrap64 (x9_1 + 1))) else (none)) else (none)) else (none)) = some (r1, r2, r3) := by rw [if_pos rfl] at H; exact H
                clear H; have H := H1; clear H1; obtain ⟨ji22, hji22⟩ : ∃ j_ : Int, (wrap64 ((x5_1.length : Int) - 1)) = j_ := ⟨_, rfl⟩; replace H : (if 0 ≤ (ji22) then (if (ji22) < (x5_1.length : Int) then (if ((rd_T27 x5_1 (ji22)).f2).length < 8796093022208 then (spileref09_Parse.l0 kj12 a0 (x5_1.set ((ji22) : Int).toNat (⟨(rd_T27 x5_1 (ji22)).f0, (rd_T27 x5_1 (ji22)).f1, (((rd_T27 x5_1 (ji22)).f2) ++ [(⟨t331, t332⟩ : S46)]), (rd_T27 x5_1 (ji22)).f3⟩ : S27)) true (wrap64 (x7_1 + 1)) (wrap64 (x9_1 + 1)) (wrap64 (x9_1 + 1))) else (none)) else (none)) else (none)) = some (r1, r2, r3) := by first | (rw [hji22] at H; exact H) | (simp only [hji22] at H ⊢; exact H)
                (try rw [hji22] at A20)
                have hji22w : (IntKind.i64.wrap ((x5_1.length : Int) - 1)) = ji22 := (i64_w _).trans hji22; by_cases c23 : 0 ≤ (ji22)
                ·
                 rw [if_pos c23] at H; have c23b0 : decide (0 ≤ (ji22)) = true := decide_eq_true c23; clear c23; by_cases c24 : (ji22) < (x5_1.length : Int)
                 ·
                  rw [if_pos c24] at H; have c24b0 : decide ((ji22) < (x5_1.length : Int)) = true := decide_eq_true c24; clear c24; by_cases c25 : ((rd_T27 x5_1 (ji22)).f2).length < 8796093022208
                  ·
                   rw [if_pos c25] at H; have LMc25 := Aside0.mk c25; clear c25; obtain ⟨y336, hy336⟩ : ∃ y_ : List (S46), y_ = (((rd_T27 x5_1 (ji22)).f2) ++ [(⟨t331, t332⟩ : S46)]) := ⟨_, rfl⟩; replace H : (spileref09_Parse.l0 kj12 a0 (x5_1.set ((ji22) : Int).toNat (⟨(rd_T27 x5_1 (ji22)).f0, (rd_T27 x5_1 (ji22)).f1, y336, (rd_T27 x5_1 (ji22)).f3⟩ : S27)) true (wrap64 (x7_1 + 1)) (wrap64 (x9_1 + 1)) (wrap64 (x9_1 + 1))) = some (r1, r2, r3) := by first | (rw [hy336]; with_reducible exact H) | (have H2_ := (Option.bind_some _ _).symm.trans H; rw [hy336]; with_reducible exact H2_) | (have H2_ := (Option.bind_some _ _).symm.trans H; with_reducible exact H2_) | with_reducible exact H | (rw [hy336]; exact H) | exact H
                   have Ny336 := Aside0.mk hy336; clear hy336; obtain ⟨y339, hy339⟩ : ∃ y_ : List (S27), y_ = (x5_1.set ((ji22) : Int).toNat (⟨(rd_T27 x5_1 (ji22)).f0, (rd_T27 x5_1 (ji22)).f1, y336, (rd_T27 x5_1 (ji22)).f3⟩ : S27)) := ⟨_, rfl⟩; replace H : (spileref09_Parse.l0 kj12 a0 y339 true (wrap64 (x7_1 + 1)) (wrap64 (x9_1 + 1)) (wrap64 (x9_1 + 1))) = some (r1, r2, r3) := by first | (rw [hy339]; with_reducible exact H) | (have H2_ := (Option.bind_some _ _).symm.trans H; rw [hy339]; with_reducible exact H2_) | (have H2_ := (Option.bind_some _ _).symm.trans H; with_reducible exact H2_) | with_reducible exact H | (rw [hy339]; exact H) | exact H
                   have Ny339 := Aside0.mk hy339; clear hy339; have H' := Aside0.mk H; clear H; obtain ⟨Ao27, co27, eo27⟩ := Kd.R_slice HO_10.out; subst eo27; try go_wp2_with (first | ((with_reducible refine gate_callee (f := 51) rfl ?_); refine goesL_ (some 70) rfl rfl Tryd.func51 (by kernel_rfl) rfl #[.slice Ao27 t315.length co27] rfl (by (try simp only [List.map_toArray, List.map_cons, List.map_nil]); first | done | rfl | (simp only [List.length_drop, List.length_take]; rfl)) ?_; (with_reducible refine (spileref09_point.calls kj12 _ _ t315 t331 t332 true _ ?side1 ?side2 A20.out).mono ?_); (case side1 => repeat (first | exact (Kd.R_reads' HO_10.out).2.2 | (with_reducible refine Kd.C_alloc ?_ _) | (with_reducible refine Kd.C_drewN ?_ _) | (with_reducible refine Kd.C_drew ?_))); (case side2 => exact (Kd.R_reads' HO_10.out).2.1); rintro e w28 ⟨rfl, hb⟩; refine ⟨_, rfl, ?_⟩; have n0_ := Aside0.mk (Kd.S_below (by (with_reducible repeat (first | apply Kd.S_alloc | apply Kd.S_drewN | apply Kd.S_drew)); exact HO_5.out) hb); have n1_ := Aside0.mk (Kd.R_below (by (with_reducible repeat (first | apply Kd.R_alloc | apply Kd.R_drewN | apply Kd.R_drew)); exact HO_10.out) hb); have n2_ := Aside0.mk (below_step (by repeat (first | (with_reducible first | exact HB.out | apply below_alloc | apply pw_below_drewN | apply below_drew1) | exact HB.out)) hb); clear HO_5; clear HO_10; clear HB; have HO_5 := n0_; have HO_10 := n1_; have HB := n2_; clear n0_ n1_ n2_; (try clear hb); (try clear hb2); (try clear hk); (try clear hi)) | ((with_reducible refine gate_dst (N := 14) rfl ?_); refine box_event ?hg (N := 14) ?hd (cs := #[.int .i64 0, .int .i64 0]) (t := 46) ?hr ?_; (case hd => rfl); (case hg => rfl); (case hr => first | (go_simp; done) | (go_simp; rfl)); intro gb334 hg w29 hbox hb; have n0_ := Aside0.mk (Kd.S_below (Kd.S_elderB (by (with_reducible repeat (first | apply Kd.S_alloc | apply Kd.S_drewN | apply Kd.S_drew)); exact HO_5.out) gb334 (Nat.le_of_eq hg.symm)) hb); have n1_ := Aside0.mk (Kd.R_below (by (with_reducible repeat (first | apply Kd.R_alloc | apply Kd.R_drewN | apply Kd.R_drew)); exact HO_10.out) hb); have n2_ := Aside0.mk (below_step (by repeat (first | (with_reducible first | exact HB.out | apply below_alloc | apply pw_below_drewN | apply below_drew1) | exact HB.out)) hb); have n3_ := Aside0.mk (hbox); have n4_ := Aside0.mk ((by rw [hg]; exact (below_size (by repeat (first | (with_reducible first | exact HB.out | apply below_alloc | apply pw_below_drewN | apply below_drew1) | exact HB.out))) : w.heap.size ≤ gb334)); have n5_ := Aside0.mk ((by rw [hg]; exact (below_size (by repeat (first | (with_reducible first | exact HB.out | apply below_alloc | apply pw_below_drewN | apply below_drew1) | exact HB.out))) : w.heap.size ≤ gb334)); clear HO_5; clear HO_10; clear HB; have HO_5 := n0_; have HO_10 := n1_; have HB := n2_; have BK334 := n3_; have GW334 := n4_; have GE334 := n5_; clear n0_ n1_ n2_ n3_ n4_ n5_; clear hb hbox hg; have hcz30_0 : w29.cell? ⟨gb334, 0, none⟩ = some (.int .i64 0) := (blk_cell BK334.out 0).trans rfl; have hcz30_1 : w29.cell? ⟨gb334, 1, none⟩ = some (.int .i64 0) := (blk_cell BK334.out 1).trans rfl; have hfz30_0 := blk_frozen BK334.out 0; have hfz30_1 := blk_frozen BK334.out 1))
                   have n0_ : Aside0 (Kd.S k27 27 ((w29.setCell ⟨gb334, 0, none⟩ (.int .i64 t331)).setCell ⟨gb334, 1, none⟩ (.int .i64 t332)) w.heap.size (fun k_ => k_ ≠ gb334) u5 x5_1) := ⟨by (with_reducible repeat (first | apply Kd.S_alloc | apply Kd.S_drewN | apply Kd.S_drew)); exact Kd.S_mono (Kd.S_far (p := ⟨gb334, 1, none⟩) (Kd.S_far (p := ⟨gb334, 0, none⟩) (Kd.S_mono HO_5.out (fun k_ hk => (⟨hk, hk.2⟩ : _ ∧ k_ ≠ gb334))) (fun _ hk => hk.2) (.int .i64 t331)) (fun _ hk => hk.2) (.int .i64 t332)) (fun _ hk => hk.1.2)⟩; have n1_ : Aside0 (Kd.R Kd.string 9 ((w29.setCell ⟨gb334, 0, none⟩ (.int .i64 t331)).setCell ⟨gb334, 1, none⟩ (.int .i64 t332)) w.heap.size (fun _ => True) (.slice Ao27 t315.length co27) t315) := ⟨by (with_reducible repeat (first | apply Kd.R_alloc | apply Kd.R_drewN | apply Kd.R_drew)); exact Kd.R_mono (Kd.R_far (p := ⟨gb334, 1, none⟩) (Kd.R_far (p := ⟨gb334, 0, none⟩) (Kd.R_types HO_10.out BK334.out (by decide)) (fun _ hk => hk.2) (.int .i64 t331)) (fun _ hk => hk.2) (.int .i64 t332)) (fun _ hk => trivial)⟩; have n2_ : Aside0 (((w29.setCell ⟨gb334, 0, none⟩ (.int .i64 t331)).setCell ⟨gb334, 1, none⟩ (.int .i64 t332)).heap[gb334]? = some (.cells #[.int .i64 t331, .int .i64 t332] 46 (0, 0))) := ⟨by (with_reducible repeat (first | refine blk_drewN ?_ _ | refine blk_drew ?_ | refine blk_alloc ?_ _)); refine blk_put (cs := #[.int .i64 t331, .int .i64 0]) ?_ 1 _ rfl; (with_reducible repeat (first | refine blk_drewN ?_ _ | refine blk_drew ?_ | refine blk_alloc ?_ _)); refine blk_put (cs := #[.int .i64 0, .int .i64 0]) ?_ 0 _ rfl; (with_reducible repeat (first | refine blk_drewN ?_ _ | refine blk_drew ?_ | refine blk_alloc ?_ _)); exact BK334.out⟩; have n3_ : Aside0 (Below w.heap.size w ((w29.setCell ⟨gb334, 0, none⟩ (.int .i64 t331)).setCell ⟨gb334, 1, none⟩ (.int .i64 t332))) := ⟨by repeat (first | (with_reducible first | exact HB.out | apply below_alloc | apply pw_below_drewN | apply below_drew1 | refine below_set ?_ GE334.out) | exact HB.out)⟩; (try clear HO_5)
                   (try clear HO_10)
                   (try clear BK334)
                   (try clear HB)
                   generalize ((w29.setCell ⟨gb334, 0, none⟩ (.int .i64 t331)).setCell ⟨gb334, 1, none⟩ (.int .i64 t332)) = w31 at n0_ n1_ n2_ n3_ ⊢; have HO_5 := n0_; have HO_10 := n1_; have BK334 := n2_; have HB := n3_; clear n0_ n1_ n2_ n3_; have n0_ := Aside0.mk (Kd.S_drew HO_5.out); have n1_ := Aside0.mk (Kd.R_drew HO_10.out); have n2_ := Aside0.mk (blk_drew BK334.out); have n3_ := Aside0.mk (below_drew1 HB.out); clear HO_5; clear HO_10; clear BK334; clear HB; have HO_5 := n0_; have HO_10 := n1_; have BK334 := n2_; have HB := n3_; clear n0_ n1_ n2_ n3_; obtain ⟨Ao33, co33, eo33⟩ := Kd.S_slice HO_5.out; (first | subst eo33 | (injection eo33 with f1_ f2_ f3_; have f4_ := f1_.symm; have f5_ := f3_.symm; clear f1_ f2_ f3_; subst f4_; subst f5_))
                   have p335 : 0 ≤ ((ji22) : Int) := of_decide_eq_true (by first | (with_reducible assumption) | assumption); have q335 : (ji22) < (x5_1.length : Int) := of_decide_eq_true (by first | (with_reducible assumption) | assumption); obtain ⟨ad335, A335_2, c335_2, e335, hx335_0, hx335_1, hx335_2, hx335_3, hl335_2, hi335_2⟩ := at_T27 (Kd.S_reads' HO_5.out).2.2 (ji22) p335 q335; cases e335; obtain ⟨ce335, hce335, hMe335, hcc335⟩ := Kd.S_get HO_5.out z27 (ji22) p335 (by first | exact q335 | exact of_decide_eq_true (by first | (with_reducible assumption) | assumption) | (have e_ := (Kd.S_reads' HO_5.out).1; omega)); obtain ⟨ve335_2, rfl, ge335_2⟩ := k27_openM hMe335; have hv335_2 := hcc335 2 _ rfl; rw [add_field _ _ 2 (by omega)] at hv335_2; replace hv335_2 := Option.some.inj (hv335_2.symm.trans hx335_2); rw [hv335_2] at ge335_2; have HL335_2 := Aside0.mk (show Kd.R k46 46 _ _ _ _ ((rd_T27 x5_1 (ji22)).f2) from ge335_2); clear hv335_2 ge335_2; have HX335_2 := Aside0.mk hx335_2; clear hcc335 hce335; have HR335_2 := Aside0.mk hi335_2; have HC335_2 := Aside0.mk hl335_2; clear hi335_2 hl335_2; replace p335 := eq_true p335; replace q335 := eq_true q335; obtain ⟨go34, co34, eo34, gb34, gl34, cl34, HG34⟩ := Kd.S_form HO_5.out (by have h_ : ((ji22) : Int) < ((x5_1.length : Int) : Int) := of_decide_eq_true (by first | (with_reducible assumption) | assumption); have h2_ : 0 ≤ ((ji22) : Int) := (of_decide_eq_true (by first | (with_reducible assumption) | assumption)); omega); (first | cases eo34 | (injection eo34 with ea_ en_ ec_; (first | subst ea_ | (injection ea_ with ea_; subst ea_)); subst ec_; clear en_))
                   have GB34 := Aside0.mk gb34; have GG34 := Aside0.mk HG34; clear gb34 gl34 HG34; (first | simp only [add_plain] at hx335_0 | skip)
                   (first | simp only [add_plain] at hx335_1 | skip)
                   (first | simp only [add_plain] at hx335_2 | skip)
                   (first | simp only [add_plain] at hx335_3 | skip)
                   obtain ⟨oki34, ce34, hcl34, hM34, hcc34, _, _, hH34⟩ := Kd.S_elem HO_5.out z27 ((ji22) : Int) (of_decide_eq_true (by first | (with_reducible assumption) | assumption)) (by have h_ : ((ji22) : Int) < ((x5_1.length : Int) : Int) := of_decide_eq_true (by first | (with_reducible assumption) | assumption); first | exact h_ | (have e_ := (Kd.S_reads' HO_5.out).1; omega) | simpa using h_); obtain ⟨ve34_2, rfl, ge34_2⟩ := k27_openM hM34; have hv34 := hcc34 2 _ rfl; have hX34 := HX335_2.out; (try simp only [add_plain] at hX34)
                   (try simp only [Nat.add_zero] at hv34)
                   replace hv34 := Option.some.inj (hv34.symm.trans hX34); subst hv34; clear hX34 hcc34 hcl34; have UU34 := Aside0.mk (show Kd.R k46 46 _ w.heap.size oki34 (.slice A335_2 ((rd_T27 x5_1 (ji22)).f2).length c335_2) ((rd_T27 x5_1 (ji22)).f2) from ge34_2); have HH34 := Aside0.mk hH34; have HN34 := Aside0.mk (Kd.S_reads' HO_5.out).1; clear hH34 ge34_2; refine start_ (n := 17) (S := fun w' => w'.cell? ⟨gb334, 0, none⟩ = some (.int .i64 t331) ∧ w'.cell? ⟨gb334, 1, none⟩ = some (.int .i64 t332) ∧ w'.cell? ⟨go34, (((ji22)).toNat * 4), none⟩ = some (.string ((rd_T27 x5_1 (ji22)).f0)) ∧ w'.cell? ⟨go34, (((ji22)).toNat * 4) + 1, none⟩ = some (.int .i64 ((rd_T27 x5_1 (ji22)).f1)) ∧ w'.cell? ⟨go34, (((ji22)).toNat * 4) + 2, none⟩ = some (.slice A335_2 ((rd_T27 x5_1 (ji22)).f2).length c335_2) ∧ w'.cell? ⟨go34, (((ji22)).toNat * 4) + 3, none⟩ = some (.int .i64 ((rd_T27 x5_1 (ji22)).f3))) (ds := [16]) #[false, false, false, false, false, false, false, false, false, false, false, false, false, false, false, false, false] (by kernel_rfl) rfl rfl ⟨(blk_cell BK334.out 0).trans rfl, (blk_cell BK334.out 1).trans rfl, hx335_0, hx335_1, hx335_2, hx335_3⟩ (fun hHeld => ?_); refine with_tabW spileref09_Parse.tab24 spileref09_Parse.bits24 (fun HT_ HW_ => ?_)
                   generalize w31.drew = w32 at HO_5 HO_10 BK334 HB GG34 HH34 HL335_2 HR335_2 HX335_2 UU34 hx335_0 hx335_1 hx335_2 hx335_3 hHeld ⊢; refine pure_ (i := 0) (N := some 76) (v := ?_) (a' := ?_) #[true, false, false, false, false, false, false, false, false, false, false, false, false, false, false, false, false] rfl rfl (any_of HT_.out (by kernel_rfl)) (fun _ _ _ h => h) (Or.inl ⟨by rfl, ?_⟩) ?_ ?_; rotate_left
                   · intro w'; go_simp; with_reducible rfl
                   rotate_left
                   · simp only [Act.put, sIA, sC0, sCS, i64_w, i32_w]; rfl
                   refine pure_ (i := 1) (N := some 77) (v := ?_) (a' := ?_) #[true, true, false, false, false, false, false, false, false, false, false, false, false, false, false, false, false] rfl rfl (any_of HT_.out (by kernel_rfl)) (fun _ _ _ h => h) (Or.inl ⟨by rfl, ?_⟩) ?_ ?_; rotate_left
                   · intro w'; go_simp; with_reducible rfl
                   rotate_left
                   · simp only [Act.put, sIA, sC0, sCS, i64_w, i32_w]; rfl
                   refine pure_ (i := 2) (N := some 78) (v := ?_) (a' := ?_) #[true, true, true, false, false, false, false, false, false, false, false, false, false, false, false, false, false] rfl rfl (any_of HT_.out (by kernel_rfl)) (fun _ _ _ h => h) (Or.inl ⟨by rfl, ?_⟩) ?_ ?_; rotate_left
                   · intro w'; go_simp; with_reducible rfl
                   rotate_left
                   · simp only [Act.put, sIA, sC0, sCS, i64_w, i32_w]; rfl
                   refine pure_ (i := 3) (N := some 79) (v := ?_) (a' := ?_) #[true, true, true, true, false, false, false, false, false, false, false, false, false, false, false, false, false] rfl rfl (any_of HT_.out (by kernel_rfl)) (fun _ _ _ h => h) (Or.inl ⟨by rfl, ?_⟩) ?_ ?_; rotate_left
                   · intro w'; go_simp; with_reducible rfl
                   rotate_left
                   · simp only [Act.put, sIA, sC0, sCS, i64_w, i32_w]; rfl
                   refine pure_ (i := 4) (N := some 80) (v := ?_) (a' := ?_) #[true, true, true, true, true, false, false, false, false, false, false, false, false, false, false, false, false] rfl rfl (any_of HT_.out (by kernel_rfl)) (fun _ _ _ h => h) (Or.inl ⟨by rfl, ?_⟩) ?_ ?_; rotate_left
                   · intro w'; go_simp; with_reducible rfl
                   rotate_left
                   · simp only [Act.put, sIA, sC0, sCS, i64_w, i32_w]; rfl
                   refine pure_ (i := 5) (N := some 81) (v := ?_) (a' := ?_) #[true, true, true, true, true, true, false, false, false, false, false, false, false, false, false, false, false] rfl rfl (any_of HT_.out (by kernel_rfl)) (fun _ _ _ h => h) (Or.inl ⟨by rfl, ?_⟩) ?_ ?_; rotate_left
                   · intro w'; go_simp; with_reducible rfl
                   rotate_left
                   · simp only [Act.put, sIA, sC0, sCS, i64_w, i32_w]; rfl
                   refine pure_ (i := 6) (N := some 82) (v := ?_) (a' := ?_) #[true, true, true, true, true, true, true, false, false, false, false, false, false, false, false, false, false] rfl rfl (any_of HT_.out (by kernel_rfl)) (fun _ _ _ h => h) (Or.inl ⟨by rfl, ?_⟩) ?_ ?_; rotate_left
                   · intro w'; go_simp; with_reducible rfl
                   rotate_left
                   · simp only [Act.put, sIA, sC0, sCS, i64_w, i32_w]; rfl
                   refine pure_ (i := 7) (N := some 83) (v := ?_) (a' := ?_) #[true, true, true, true, true, true, true, true, false, false, false, false, false, false, false, false, false] rfl rfl (any_of HT_.out (by kernel_rfl)) (fun _ _ _ h => h) (Or.inl ⟨by rfl, ?_⟩) ?_ ?_; rotate_left
                   · intro w'; go_simp; with_reducible rfl
                   rotate_left
                   · simp only [Act.put, sIA, sC0, sCS, i64_w, i32_w]; rfl
                   refine pure_ (i := 8) (N := some 84) (v := ?_) (a' := ?_) #[true, true, true, true, true, true, true, true, true, false, false, false, false, false, false, false, false] rfl rfl (any_of HT_.out (by kernel_rfl)) (fun _ _ _ h => h) (Or.inl ⟨by rfl, ?_⟩) ?_ ?_; rotate_left
                   · intro w'; go_simp; with_reducible rfl
                   rotate_left
                   · simp only [Act.put, sIA, sC0, sCS, i64_w, i32_w]; rfl
                   refine pure_ (i := 9) (N := some 85) (v := ?_) (a' := ?_) #[true, true, true, true, true, true, true, true, true, true, false, false, false, false, false, false, false] rfl rfl (any_of HT_.out (by kernel_rfl)) (fun _ _ _ h => h) (Or.inl ⟨by rfl, ?_⟩) ?_ ?_; rotate_left
                   · intro w'; go_simp; with_reducible rfl
                   rotate_left
                   · simp only [Act.put, sIA, sC0, sCS, i64_w, i32_w]; rfl
                   refine take_ (i := 10) (N := some 86) (v := ?_) (a' := ?_) #[true, true, true, true, true, true, true, true, true, true, true, false, false, false, false, false, false] rfl rfl (take_ofW HT_.out HW_.out (by kernel_rfl)) (fun _ _ _ h => h) (Or.inl ⟨by rfl, ?_⟩) hHeld ?_ ?_; rotate_left
                   · rintro w' ⟨s0, s1, s2, s3, s4, s5⟩; go_simp; with_reducible rfl
                   rotate_left
                   · simp only [Act.put, sIA, sC0, sCS, i64_w, i32_w]; rfl
                   refine take_ (i := 11) (N := some 87) (v := ?_) (a' := ?_) #[true, true, true, true, true, true, true, true, true, true, true, true, false, false, false, false, false] rfl rfl (take_ofW HT_.out HW_.out (by kernel_rfl)) (fun _ _ _ h => h) (Or.inl ⟨by rfl, ?_⟩) hHeld ?_ ?_; rotate_left
                   · rintro w' ⟨s0, s1, s2, s3, s4, s5⟩; go_simp; with_reducible rfl
                   rotate_left
                   · simp only [Act.put, sIA, sC0, sCS, i64_w, i32_w]; rfl
                   refine one_ (i := 12) (N := some 88) #[true, true, true, true, true, true, true, true, true, true, true, true, true, false, false, false, false] rfl rfl (one_of HT_.out (by kernel_rfl)) (by decide) (fun K hK => ?_); refine value_ (w1 := ?_) (v := ?_) (by rfl) rfl ?_ ?_; rotate_left 2
                   ·
                    go_simp; constructor
                    · rfl
                    · rfl
                   refine hK.out _ _ ⟨(blk_cell (blk_alloc BK334.out _) 0).trans rfl, (blk_cell (blk_alloc BK334.out _) 1).trans rfl, (World.cell?_alloc_lt _ _ _ (World.block_lt_of_cell? _ _ (hHeld.2.2.1))).trans (hHeld.2.2.1), (World.cell?_alloc_lt _ _ _ (World.block_lt_of_cell? _ _ (hHeld.2.2.2.1))).trans (hHeld.2.2.2.1), (World.cell?_alloc_lt _ _ _ (World.block_lt_of_cell? _ _ (hHeld.2.2.2.2.1))).trans (hHeld.2.2.2.2.1), (World.cell?_alloc_lt _ _ _ (World.block_lt_of_cell? _ _ (hHeld.2.2.2.2.2))).trans (hHeld.2.2.2.2.2)⟩ (fun hHeld => ?_); clear hK K; refine norm_ (a' := ?_) ?_ ?_; rotate_left
                   ·
                    show Act.put _ (some 88) _ = _
                    simp only [Act.put, sIA, sC0, sCS, i64_w, i32_w]; rfl
                   refine one_ (i := 13) (N := some 89) #[true, true, true, true, true, true, true, true, true, true, true, true, true, true, false, false, false] rfl rfl (one_of HT_.out (by kernel_rfl)) (by decide) (fun K hK => ?_); refine Kd.R_append_step k46 (w0 := w) w.heap.size (by rfl) (.tmp 86) (.tmp 88) 25 46 (.agg #[(.int .i64 0), (.int .i64 0)]) 16 rfl Tryd.underlying25 info46 rfl (by decide) (by omega) (.slice A335_2 ((rd_T27 x5_1 (ji22)).f2).length c335_2) ((rd_T27 x5_1 (ji22)).f2) (⟨t331, t332⟩ : S46) [.int .i64 t331, .int .i64 t332] (fun k_ => oki34 k_ ∨ ((fun k_ => k_ ≠ gb334)) k_ ∧ w32.heap.size ≤ k_) (fun _ => False) rfl rfl ?aP (fun _ hk => hk.elim) ?aF ?aO ?aB ?aS ?aL ?_; (case aP => exact k46_mkM _ _ _ (⟨t331, t332⟩ : S46))
                   (case aB => exact (by repeat (first | (with_reducible first | exact HB.out | apply below_alloc | apply pw_below_drewN | apply below_drew1 | refine below_set ?_ GE334.out) | exact HB.out)))
                   (case aF => exact (fun k_ hk => .inr ⟨Kd.freshB (g := gb334) (o := .cells #[.int .i64 t331, .int .i64 t332] 46 (0, 0)) (by (with_reducible repeat (first | refine blk_drewN ?_ _ | refine blk_drew ?_ | refine blk_alloc ?_ _)); exact BK334.out) k_ hk, hk⟩))
                   (case aO => exact (by (with_reducible repeat (first | apply Kd.R_alloc | apply Kd.R_drewN | apply Kd.R_drew)); exact Kd.R_mono UU34.out (fun _ hk => .inl hk)))
                   (case aS => exact (below_size (by repeat (first | (with_reducible first | exact HB.out | apply below_alloc | apply pw_below_drewN | apply below_drew1 | refine below_set ?_ GE334.out) | exact HB.out))))
                   (case aL => have := LMc25.out; omega)
                   intro v337 w35 ho hb hg hat; (first | have HS2_ := cell_grown hg (hHeld.2.2.1) (by first | (rw [add_block]; exact (fun e_ => ((HL335_2.out.1 _ e_.symm).2) rfl)) | (show some (Addr.add _ _).block ≠ _; rw [add_block]; exact (fun e_ => ((HL335_2.out.1 _ e_.symm).2) rfl)) | exact (fun e_ => ((HL335_2.out.1 _ e_.symm).2) rfl)) | have HS2_ := cell_grown hg (cell_unalloc (hHeld.2.2.1) (by first | (rw [add_block]; exact Kd.S_lt HO_5.out _ rfl) | (show (Addr.add _ _).block < _; rw [add_block]; exact Kd.S_lt HO_5.out _ rfl) | exact Kd.S_lt HO_5.out _ rfl)) (by first | (rw [add_block]; exact (fun e_ => ((HL335_2.out.1 _ e_.symm).2) rfl)) | (show some (Addr.add _ _).block ≠ _; rw [add_block]; exact (fun e_ => ((HL335_2.out.1 _ e_.symm).2) rfl)) | exact (fun e_ => ((HL335_2.out.1 _ e_.symm).2) rfl)))
                   (first | have HS3_ := cell_grown hg (hHeld.2.2.2.1) (by first | (rw [add_block]; exact (fun e_ => ((HL335_2.out.1 _ e_.symm).2) rfl)) | (show some (Addr.add _ _).block ≠ _; rw [add_block]; exact (fun e_ => ((HL335_2.out.1 _ e_.symm).2) rfl)) | exact (fun e_ => ((HL335_2.out.1 _ e_.symm).2) rfl)) | have HS3_ := cell_grown hg (cell_unalloc (hHeld.2.2.2.1) (by first | (rw [add_block]; exact Kd.S_lt HO_5.out _ rfl) | (show (Addr.add _ _).block < _; rw [add_block]; exact Kd.S_lt HO_5.out _ rfl) | exact Kd.S_lt HO_5.out _ rfl)) (by first | (rw [add_block]; exact (fun e_ => ((HL335_2.out.1 _ e_.symm).2) rfl)) | (show some (Addr.add _ _).block ≠ _; rw [add_block]; exact (fun e_ => ((HL335_2.out.1 _ e_.symm).2) rfl)) | exact (fun e_ => ((HL335_2.out.1 _ e_.symm).2) rfl)))
                   (first | have HS4_ := cell_grown hg (hHeld.2.2.2.2.1) (by first | (rw [add_block]; exact (fun e_ => ((HL335_2.out.1 _ e_.symm).2) rfl)) | (show some (Addr.add _ _).block ≠ _; rw [add_block]; exact (fun e_ => ((HL335_2.out.1 _ e_.symm).2) rfl)) | exact (fun e_ => ((HL335_2.out.1 _ e_.symm).2) rfl)) | have HS4_ := cell_grown hg (cell_unalloc (hHeld.2.2.2.2.1) (by first | (rw [add_block]; exact Kd.S_lt HO_5.out _ rfl) | (show (Addr.add _ _).block < _; rw [add_block]; exact Kd.S_lt HO_5.out _ rfl) | exact Kd.S_lt HO_5.out _ rfl)) (by first | (rw [add_block]; exact (fun e_ => ((HL335_2.out.1 _ e_.symm).2) rfl)) | (show some (Addr.add _ _).block ≠ _; rw [add_block]; exact (fun e_ => ((HL335_2.out.1 _ e_.symm).2) rfl)) | exact (fun e_ => ((HL335_2.out.1 _ e_.symm).2) rfl)))
                   (first | have HS5_ := cell_grown hg (hHeld.2.2.2.2.2) (by first | (rw [add_block]; exact (fun e_ => ((HL335_2.out.1 _ e_.symm).2) rfl)) | (show some (Addr.add _ _).block ≠ _; rw [add_block]; exact (fun e_ => ((HL335_2.out.1 _ e_.symm).2) rfl)) | exact (fun e_ => ((HL335_2.out.1 _ e_.symm).2) rfl)) | have HS5_ := cell_grown hg (cell_unalloc (hHeld.2.2.2.2.2) (by first | (rw [add_block]; exact Kd.S_lt HO_5.out _ rfl) | (show (Addr.add _ _).block < _; rw [add_block]; exact Kd.S_lt HO_5.out _ rfl) | exact Kd.S_lt HO_5.out _ rfl)) (by first | (rw [add_block]; exact (fun e_ => ((HL335_2.out.1 _ e_.symm).2) rfl)) | (show some (Addr.add _ _).block ≠ _; rw [add_block]; exact (fun e_ => ((HL335_2.out.1 _ e_.symm).2) rfl)) | exact (fun e_ => ((HL335_2.out.1 _ e_.symm).2) rfl)))
                   rw [← Ny336.out] at ho; have n0_ := Aside0.mk (Kd.R_over' (v := (.slice A335_2 ((rd_T27 x5_1 (ji22)).f2).length c335_2)) (by (with_reducible repeat (first | apply Kd.R_alloc | apply Kd.R_drewN | apply Kd.R_drew)); exact HO_10.out) (Kd.R_typed HL335_2.out) (by decide) hg); have n1_ := Aside0.mk (blk_grown (g := gb334) (o := .cells #[.int .i64 t331, .int .i64 t332] 46 (0, 0)) (by (with_reducible repeat (first | refine blk_drewN ?_ _ | refine blk_drew ?_ | refine blk_alloc ?_ _)); exact BK334.out) hg (Kd.R_away HL335_2.out (fun _ hk => hk.1))); have n2_ := Aside0.mk (hb); have n3_ := Aside0.mk (Kd.H_grown (Kd.H_widen (by repeat (first | exact HH34.out | refine Kd.H_alloc ?_ _ | refine Kd.H_drewN ?_ _ | refine Kd.H_drew ?_))) hg (fun k_ e_ => .inl (UU34.out.1 k_ e_))); have n4_ := Aside0.mk (ho); clear HO_10; clear BK334; clear HB; clear HH34; clear HO_5; clear UU34; clear HL335_2; have HO_10 := n0_; have BK334 := n1_; have HB := n2_; have HH34 := n3_; have HO338 := n4_; clear n0_ n1_ n2_ n3_ n4_; clear ho hb hg hat; have p26 : 0 ≤ ((ji22) : Int) := of_decide_eq_true (by first | (with_reducible assumption) | assumption); have q26 : ((ji22) : Int) < ((x5_1.length : Int) : Int) := of_decide_eq_true (by first | (with_reducible assumption) | assumption); replace p26 := eq_true p26; replace q26 := eq_true q26; obtain ⟨Ao38, co38, eo38⟩ := Kd.R_slice HO338.out; (first | subst eo38 | (injection eo38 with f1_ f2_ f3_; have f4_ := f1_.symm; have f5_ := f3_.symm; clear f1_ f2_ f3_; subst f4_; subst f5_))
                   obtain ⟨_, _, hraw36, _, _, hcc36, _⟩ := Kd.H_raw HH34.out (of_decide_eq_true (by first | (with_reducible assumption) | assumption)) (by have h_ : ((ji22) : Int) < ((x5_1.length : Int) : Int) := of_decide_eq_true (by first | (with_reducible assumption) | assumption); first | exact h_ | (have e_ := (HN34.out); omega) | simpa using h_); obtain ⟨_, hfr36⟩ := Kd.H_at HH34.out (of_decide_eq_true (by first | (with_reducible assumption) | assumption)) (by have h_ : ((ji22) : Int) < ((x5_1.length : Int) : Int) := of_decide_eq_true (by first | (with_reducible assumption) | assumption); first | exact h_ | (have e_ := (HN34.out); omega) | simpa using h_); have hx36_0 := hcc36 2 _ rfl; have hf36_0 := hfr36 2; (try rw [show (k27).sz = 4 from rfl] at hx36_0)
                   (try rw [show (k27).sz = 4 from rfl] at hf36_0)
                   have HP36 := Kd.S_seg0 HH34.out (of_decide_eq_true (by first | (with_reducible assumption) | assumption)) (by have h_ : ((ji22) : Int) < ((x5_1.length : Int) : Int) := of_decide_eq_true (by first | (with_reducible assumption) | assumption); first | exact h_ | (have e_ := (HN34.out); omega) | simpa using h_) (seg := [.slice Ao38 y336.length co38]) (j := 2) (show 3 ≤ 4 from by decide) (x' := (⟨(rd_T27 x5_1 (ji22)).f0, (rd_T27 x5_1 (ji22)).f1, y336, (rd_T27 x5_1 (ji22)).f3⟩ : S27)) (k27_mkM _ _ _ (⟨(rd_T27 x5_1 (ji22)).f0, (rd_T27 x5_1 (ji22)).f1, y336, (rd_T27 x5_1 (ji22)).f3⟩ : S27) HO338.out) (fun _ hk => hk); clear hcc36 hfr36; have HNB334_go34 := Aside0.mk (show gb334 ≠ go34 from by have h_ := Kd.R_ne hraw36 BK334.out (by decide); intro e_; exact h_ (by rw [e_]; rfl)); have HS36 := HP36.1; rw [← Ny339.out] at HS36; have HQ36 := Aside0.mk HS36; obtain ⟨_, hgg36⟩ := Kd.R_typed hraw36 go34 rfl; have GG36_ := Aside0.mk hgg36; clear HP36 HS36 hgg36; refine hK.out _ _ ⟨(blk_cell BK334.out 0).trans rfl, (blk_cell BK334.out 1).trans rfl, HS2_, HS3_, HS4_, HS5_⟩ (fun hHeld => ?_); clear hK K; refine norm_ (a' := ?_) ?_ ?_; rotate_left
                   ·
                    show Act.put _ (some 89) _ = _
                    simp only [Act.put, sIA, sC0, sCS, i64_w, i32_w]; rfl
                   refine pure_ (i := 14) (N := some 90) (v := ?_) (a' := ?_) #[true, true, true, true, true, true, true, true, true, true, true, true, true, true, true, false, false] rfl rfl (any_of HT_.out (by kernel_rfl)) (fun _ _ _ h => h) (Or.inl ⟨by rfl, ?_⟩) ?_ ?_; rotate_left
                   · intro w'; go_simp; with_reducible rfl
                   rotate_left
                   · simp only [Act.put, sIA, sC0, sCS, i64_w, i32_w]; rfl
                   refine pure_ (i := 15) (N := some 91) (v := ?_) (a' := ?_) #[true, true, true, true, true, true, true, true, true, true, true, true, true, true, true, true, false] rfl rfl (any_of HT_.out (by kernel_rfl)) (fun _ _ _ h => h) (Or.inl ⟨by rfl, ?_⟩) ?_ ?_; rotate_left
                   · intro w'; go_simp; with_reducible rfl
                   rotate_left
                   · simp only [Act.put, sIA, sC0, sCS, i64_w, i32_w]; rfl
                   refine last_ (i := 16) (N := none) #[true, true, true, true, true, true, true, true, true, true, true, true, true, true, true, true, true] rfl rfl (one_of HT_.out (by kernel_rfl)) (by decide) (fun K hK => ?_); refine skip_ (w1 := ?_) (by rfl) rfl ?_ ?_; rotate_left
                   · go_simp; rfl
                   refine hK.out _ _ ?_; clear hK K; refine done_ (done_of HT_.out (by kernel_rfl)) ?_; try go_wp2
                   go_roundg kj12
                   case measure => have := HK1.out; have := HJ12.out; omega
                   case rel => exact ⟨(y339), (true), ((wrap64 (x7_1 + 1))), ((wrap64 (x9_1 + 1))), (wrap64 (x9_1 + 1)), (by first | rfl | (simp; done) | (simp [*]; done)), (by first | rfl | (simp; done) | (simp [*]; done)), (by first | rfl | (simp; done) | (simp [*]; done)), (by first | rfl | (simp; done) | (simp [*]; done)), H', ⟨by have := HK1.out; have := HJ12.out; omega⟩, ⟨by (with_reducible repeat (first | apply Kd.S_alloc | apply Kd.S_drewN | apply Kd.S_drew)); exact Kd.S_mono HQ36.out (fun _ hk => trivial)⟩, ⟨by repeat (first | (with_reducible first | exact HB.out | apply below_alloc | apply pw_below_drewN | apply below_drew1 | refine below_set ?_ GB34.out | refine below_set ?_ GE334.out) | exact HB.out)⟩⟩
                  · rw [if_neg c25] at H; exact absurd H (by simp)
                 · rw [if_neg c24] at H; exact absurd H (by simp)
                · rw [if_neg c23] at H; exact absurd H (by simp)
               ·
                replace c21 := Bool.eq_false_iff.mpr c21; subst c21; have H1 : (some (([] : List (S27)), (wrap64 (x7_1 + 1)), 3)) = some (r1, r2, r3) := by rw [if_neg (show ¬ (false = true) by decide)] at H; exact H
                clear H; have H := H1; clear H1; simp only [Option.some.injEq, Prod.mk.injEq] at H; obtain ⟨rfl, rfl, rfl⟩ := H; obtain ⟨Ao39, co39, eo39⟩ := Kd.R_slice HO_10.out; subst eo39; go_wp2_with (first | ((with_reducible refine gate_callee (f := 51) rfl ?_); refine goesL_ (some 70) rfl rfl Tryd.func51 (by kernel_rfl) rfl #[.slice Ao39 t315.length co39] rfl (by (try simp only [List.map_toArray, List.map_cons, List.map_nil]); first | done | rfl | (simp only [List.length_drop, List.length_take]; rfl)) ?_; (with_reducible refine (spileref09_point.calls kj12 _ _ t315 t331 t332 false _ ?side1 ?side2 A20.out).mono ?_); (case side1 => repeat (first | exact (Kd.R_reads' HO_10.out).2.2 | (with_reducible refine Kd.C_alloc ?_ _) | (with_reducible refine Kd.C_drewN ?_ _) | (with_reducible refine Kd.C_drew ?_))); (case side2 => exact (Kd.R_reads' HO_10.out).2.1); rintro e w40 ⟨rfl, hb⟩; refine ⟨_, rfl, ?_⟩; have n0_ := Aside0.mk (Kd.S_below (by (with_reducible repeat (first | apply Kd.S_alloc | apply Kd.S_drewN | apply Kd.S_drew)); exact HO_5.out) hb); have n1_ := Aside0.mk (Kd.R_below (by (with_reducible repeat (first | apply Kd.R_alloc | apply Kd.R_drewN | apply Kd.R_drew)); exact HO_10.out) hb); have n2_ := Aside0.mk (below_step (by repeat (first | (with_reducible first | exact HB.out | apply below_alloc | apply pw_below_drewN | apply below_drew1) | exact HB.out)) hb); clear HO_5; clear HO_10; clear HB; have HO_5 := n0_; have HO_10 := n1_; have HB := n2_; clear n0_ n1_ n2_; (try clear hb); (try clear hb2); (try clear hk); (try clear hi)) | ((with_reducible refine gate_dst (N := 14) rfl ?_); refine box_event ?hg (N := 14) ?hd (cs := #[.int .i64 0, .int .i64 0]) (t := 46) ?hr ?_; (case hd => rfl); (case hg => rfl); (case hr => first | (go_simp; done) | (go_simp; rfl)); intro gb334 hg w41 hbox hb; have n0_ := Aside0.mk (Kd.S_below (Kd.S_elderB (by (with_reducible repeat (first | apply Kd.S_alloc | apply Kd.S_drewN | apply Kd.S_drew)); exact HO_5.out) gb334 (Nat.le_of_eq hg.symm)) hb); have n1_ := Aside0.mk (Kd.R_below (by (with_reducible repeat (first | apply Kd.R_alloc | apply Kd.R_drewN | apply Kd.R_drew)); exact HO_10.out) hb); have n2_ := Aside0.mk (below_step (by repeat (first | (with_reducible first | exact HB.out | apply below_alloc | apply pw_below_drewN | apply below_drew1) | exact HB.out)) hb); have n3_ := Aside0.mk (hbox); have n4_ := Aside0.mk ((by rw [hg]; exact (below_size (by repeat (first | (with_reducible first | exact HB.out | apply below_alloc | apply pw_below_drewN | apply below_drew1) | exact HB.out))) : w.heap.size ≤ gb334)); have n5_ := Aside0.mk ((by rw [hg]; exact (below_size (by repeat (first | (with_reducible first | exact HB.out | apply below_alloc | apply pw_below_drewN | apply below_drew1) | exact HB.out))) : w.heap.size ≤ gb334)); clear HO_5; clear HO_10; clear HB; have HO_5 := n0_; have HO_10 := n1_; have HB := n2_; have BK334 := n3_; have GW334 := n4_; have GE334 := n5_; clear n0_ n1_ n2_ n3_ n4_ n5_; clear hb hbox hg; have hcz42_0 : w41.cell? ⟨gb334, 0, none⟩ = some (.int .i64 0) := (blk_cell BK334.out 0).trans rfl; have hcz42_1 : w41.cell? ⟨gb334, 1, none⟩ = some (.int .i64 0) := (blk_cell BK334.out 1).trans rfl; have hfz42_0 := blk_frozen BK334.out 0; have hfz42_1 := blk_frozen BK334.out 1))
                go_ret3
                exact ⟨_, by first | rfl | (simp [errW_none, errW_some] <;> rfl) | (simp [*, errW_none, errW_some] <;> rfl), by first | exact Kd.S_nil _ _ _ _ _ | exact Kd.N_nil _ _ _ _ _ | exact Kd.V_nil _ _ _ _ _ | exact Kd.Q_nil _ _ _ _ _ | exact Kd.R_nil _ _ _ _ _, by repeat (first | (with_reducible first | exact HB.out | apply below_alloc | apply pw_below_drewN | apply below_drew1 | refine below_set ?_ GE334.out) | exact HB.out)⟩
           ·
            replace c12 := Bool.eq_false_iff.mpr c12; subst c12; have H1 : ((spileref09_head.f k1 t315).bind fun bt319 => (if bt319.2.2.2.2 = true then (if x5_1.length < 2513169434916 then (spileref09_Parse.l0 k1 a0 (x5_1 ++ [(⟨bt319.1, bt319.2.1, bt319.2.2.1, bt319.2.2.2.1⟩ : S27)]) true (wrap64 (x7_1 + 1)) (wrap64 (x9_1 + 1)) (wrap64 (x9_1 + 1))) else (none)) else (some (([] : List (S27)), wrap64 (x7_1 + 1), 3)))) = some (r1, r2, r3) := by rw [if_neg (show ¬ (false = true) by decide)] at H; exact H
            clear H; have H := H1; clear H1; replace H := Option.bind_eq_some_iff.mp H; obtain ⟨⟨t319, t320, t321, t324, t325⟩, A430, H⟩ := H; replace H : (if t325 = true then (if x5_1.length < 2513169434916 then (spileref09_Parse.l0 k1 a0 (x5_1 ++ [(⟨t319, t320, t321, t324⟩ : S27)]) true (wrap64 (x7_1 + 1)) (wrap64 (x9_1 + 1)) (wrap64 (x9_1 + 1))) else (none)) else (some (([] : List (S27)), wrap64 (x7_1 + 1), 3))) = some (r1, r2, r3) := H; have A43 := Aside0.mk A430; clear A430; by_cases c44 : t325 = true
            ·
             subst c44; have H1 : (if x5_1.length < 2513169434916 then (spileref09_Parse.l0 k1 a0 (x5_1 ++ [(⟨t319, t320, t321, t324⟩ : S27)]) true (wrap64 (x7_1 + 1)) (wrap64 (x9_1 + 1)) (wrap64 (x9_1 + 1))) else (none)) = some (r1, r2, r3) := by rw [if_pos rfl] at H; exact H
             clear H; have H := H1; clear H1; by_cases c45 : x5_1.length < 2513169434916
             ·
              rw [if_pos c45] at H; have LMc45 := Aside0.mk c45; clear c45; obtain ⟨y327, hy327⟩ : ∃ y_ : List (S27), y_ = (x5_1 ++ [(⟨t319, t320, t321, t324⟩ : S27)]) := ⟨_, rfl⟩; replace H : (spileref09_Parse.l0 k1 a0 y327 true (wrap64 (x7_1 + 1)) (wrap64 (x9_1 + 1)) (wrap64 (x9_1 + 1))) = some (r1, r2, r3) := by first | (rw [hy327]; with_reducible exact H) | (have H2_ := (Option.bind_some _ _).symm.trans H; rw [hy327]; with_reducible exact H2_) | (have H2_ := (Option.bind_some _ _).symm.trans H; with_reducible exact H2_) | with_reducible exact H | (rw [hy327]; exact H) | exact H
              have Ny327 := Aside0.mk hy327; clear hy327; have H' := Aside0.mk H; clear H; have p5 : 0 ≤ (x9_1 : Int) := of_decide_eq_true (by first | (with_reducible assumption) | assumption); have q5 : x9_1 < (a0.size : Int) := of_decide_eq_true (by first | (with_reducible assumption) | assumption); have hx5 := bt_at a0 x9_1; replace p5 := eq_true p5; replace q5 := eq_true q5; go_wp2_with (first | ((with_reducible refine gate_callee (f := 49) rfl ?_); refine goesL_ (some 37) rfl rfl Tryd.func49 (by kernel_rfl) rfl #[.string (a0.extract (x8_1 : Int).toNat (x9_1 : Int).toNat)] rfl (by (try simp only [List.map_toArray, List.map_cons, List.map_nil]); first | done | rfl | (simp only [List.length_drop, List.length_take]; rfl)) ?_; (with_reducible refine (spileref09_Words.calls k1 (a0.extract (x8_1 : Int).toNat (x9_1 : Int).toNat) t315 true _ A10.out).mono ?_); rintro e w46 ⟨v317, rfl, ho0, hb⟩; refine ⟨_, rfl, ?_⟩; have n0_ := Aside0.mk (Kd.S_below (by (with_reducible repeat (first | apply Kd.S_alloc | apply Kd.S_drewN | apply Kd.S_drew)); exact HO_5.out) hb); have n1_ := Aside0.mk (Kd.R_lower ho0 (below_size (by repeat (first | (with_reducible first | exact HB.out | apply below_alloc | apply pw_below_drewN | apply below_drew1) | exact HB.out)))); have n2_ := Aside0.mk (below_step (by repeat (first | (with_reducible first | exact HB.out | apply below_alloc | apply pw_below_drewN | apply below_drew1) | exact HB.out)) hb); clear HO_5; clear HB; have HO_5 := n0_; have HO318 := n1_; have HB := n2_; clear n0_ n1_ n2_; (try clear hb); (try clear hb2); (try clear hk); (try clear hi); (try clear ho0); obtain ⟨Ao47, co47, eo47⟩ := Kd.R_slice HO318.out; subst eo47) | ((with_reducible refine gate_callee (f := 50) rfl ?_); refine goesL_ (some 49) rfl rfl Tryd.func50 (by kernel_rfl) rfl #[.slice Ao47 t315.length co47] rfl (by (try simp only [List.map_toArray, List.map_cons, List.map_nil]); first | done | rfl | (simp only [List.length_drop, List.length_take]; rfl)) ?_; (with_reducible refine (spileref09_head.calls k1 _ _ t315 t319 t320 t321 t324 true _ ?side1 ?side2 A43.out).mono ?_); (case side1 => repeat (first | exact (Kd.R_reads' HO318.out).2.2 | (with_reducible refine Kd.C_alloc ?_ _) | (with_reducible refine Kd.C_drewN ?_ _) | (with_reducible refine Kd.C_drew ?_))); (case side2 => exact (Kd.R_reads' HO318.out).2.1); rintro e w48 ⟨v322, rfl, ho0, hb⟩; refine ⟨_, rfl, ?_⟩; have n0_ := Aside0.mk (Kd.S_elder' (by (with_reducible repeat (first | apply Kd.S_alloc | apply Kd.S_drewN | apply Kd.S_drew)); exact HO_5.out) (Kd.R_base ho0) hb); have n1_ := Aside0.mk (Kd.R_below (by (with_reducible repeat (first | apply Kd.R_alloc | apply Kd.R_drewN | apply Kd.R_drew)); exact HO318.out) hb); have n2_ := Aside0.mk (Kd.R_lower ho0 (below_size (by repeat (first | (with_reducible first | exact HB.out | apply below_alloc | apply pw_below_drewN | apply below_drew1) | exact HB.out)))); have n3_ := Aside0.mk (below_step (by repeat (first | (with_reducible first | exact HB.out | apply below_alloc | apply pw_below_drewN | apply below_drew1) | exact HB.out)) hb); clear HO_5; clear HO318; clear HB; have HO_5 := n0_; have HO318 := n1_; have HO323 := n2_; have HB := n3_; clear n0_ n1_ n2_ n3_; (try clear hb); (try clear hb2); (try clear hk); (try clear hi); (try clear ho0)) | ((with_reducible refine gate_dst (N := 12) rfl ?_); refine box_event ?hg (N := 12) ?hd (cs := #[.string (⟨#[]⟩ : ByteArray), .int .i64 0, .slice none 0 0, .int .i64 0]) (t := 27) ?hr ?_; (case hd => rfl); (case hg => rfl); (case hr => first | (go_simp; done) | (go_simp; rfl)); intro gb326 hg w49 hbox hb; have n0_ := Aside0.mk (Kd.S_below (Kd.S_elderB (by (with_reducible repeat (first | apply Kd.S_alloc | apply Kd.S_drewN | apply Kd.S_drew)); exact HO_5.out) gb326 (Nat.le_of_eq hg.symm)) hb); have n1_ := Aside0.mk (Kd.R_below (by (with_reducible repeat (first | apply Kd.R_alloc | apply Kd.R_drewN | apply Kd.R_drew)); exact HO318.out) hb); have n2_ := Aside0.mk (Kd.R_below (by (with_reducible repeat (first | apply Kd.R_alloc | apply Kd.R_drewN | apply Kd.R_drew)); exact HO323.out) hb); have n3_ := Aside0.mk (below_step (by repeat (first | (with_reducible first | exact HB.out | apply below_alloc | apply pw_below_drewN | apply below_drew1) | exact HB.out)) hb); have n4_ := Aside0.mk (hbox); have n5_ := Aside0.mk ((by rw [hg]; exact (below_size (by repeat (first | (with_reducible first | exact HB.out | apply below_alloc | apply pw_below_drewN | apply below_drew1) | exact HB.out))) : w.heap.size ≤ gb326)); have n6_ := Aside0.mk ((by rw [hg]; exact (below_size (by repeat (first | (with_reducible first | exact HB.out | apply below_alloc | apply pw_below_drewN | apply below_drew1) | exact HB.out))) : w.heap.size ≤ gb326)); clear HO_5; clear HO318; clear HO323; clear HB; have HO_5 := n0_; have HO318 := n1_; have HO323 := n2_; have HB := n3_; have BK326 := n4_; have GW326 := n5_; have GE326 := n6_; clear n0_ n1_ n2_ n3_ n4_ n5_ n6_; clear hb hbox hg; have hcz50_0 : w49.cell? ⟨gb326, 0, none⟩ = some (.string (⟨#[]⟩ : ByteArray)) := (blk_cell BK326.out 0).trans rfl; have hcz50_1 : w49.cell? ⟨gb326, 1, none⟩ = some (.int .i64 0) := (blk_cell BK326.out 1).trans rfl; have hcz50_2 : w49.cell? ⟨gb326, 2, none⟩ = some (.slice none 0 0) := (blk_cell BK326.out 2).trans rfl; have hcz50_3 : w49.cell? ⟨gb326, 3, none⟩ = some (.int .i64 0) := (blk_cell BK326.out 3).trans rfl; have hfz50_0 := blk_frozen BK326.out 0; have hfz50_1 := blk_frozen BK326.out 1; have hfz50_2 := blk_frozen BK326.out 2; have hfz50_3 := blk_frozen BK326.out 3; obtain ⟨Ao51, co51, eo51⟩ := Kd.R_slice HO323.out; subst eo51) | ((with_reducible refine gate_store (t := 27) (p := 12) rfl ?_); refine store_event (t := 27) (p := 12) (v := ?vo_w52) (w1 := ((((w49.setCell ⟨gb326, 0, none⟩ (.string t319)).setCell ⟨gb326, 1, none⟩ (.int .i64 t320)).setCell ⟨gb326, 2, none⟩ (.slice Ao51 t321.length co51)).setCell ⟨gb326, 3, none⟩ (.int .i64 t324))) ?hg ?ho ?hn ?hr ?_; (case ho => rfl); (case hg => rfl); (case hn => rfl); (case hr => first | (go_simp; done) | (go_simp; rfl)); intro w52 hw; have n0_ : Aside0 (Kd.S k27 27 w52 w.heap.size (fun k_ => some k_ ≠ (.slice Ao51 t321.length co51 : Value).ownBlock ∧ k_ ≠ gb326) u5 x5_1) := ⟨(by rw [hw]; exact (by (with_reducible repeat (first | apply Kd.S_alloc | apply Kd.S_drewN | apply Kd.S_drew)); exact Kd.S_mono (Kd.S_far (p := ⟨gb326, 3, none⟩) (Kd.S_far (p := ⟨gb326, 2, none⟩) (Kd.S_far (p := ⟨gb326, 1, none⟩) (Kd.S_far (p := ⟨gb326, 0, none⟩) (Kd.S_mono HO_5.out (fun k_ hk => (⟨hk, hk.2⟩ : _ ∧ k_ ≠ gb326))) (fun _ hk => hk.2) (.string t319)) (fun _ hk => hk.2) (.int .i64 t320)) (fun _ hk => hk.2) (.slice Ao51 t321.length co51)) (fun _ hk => hk.2) (.int .i64 t324)) (fun _ hk => ⟨hk.1.1.2, hk.1.2⟩)))⟩; have n1_ : Aside0 (Kd.R Kd.string 9 w52 w.heap.size (fun _ => True) (.slice Ao47 t315.length co47) t315) := ⟨(by rw [hw]; exact (by (with_reducible repeat (first | apply Kd.R_alloc | apply Kd.R_drewN | apply Kd.R_drew)); exact Kd.R_mono (Kd.R_far (p := ⟨gb326, 3, none⟩) (Kd.R_far (p := ⟨gb326, 2, none⟩) (Kd.R_far (p := ⟨gb326, 1, none⟩) (Kd.R_far (p := ⟨gb326, 0, none⟩) (Kd.R_types HO318.out BK326.out (by decide)) (fun _ hk => hk.2) (.string t319)) (fun _ hk => hk.2) (.int .i64 t320)) (fun _ hk => hk.2) (.slice Ao51 t321.length co51)) (fun _ hk => hk.2) (.int .i64 t324)) (fun _ hk => trivial)))⟩; have n2_ : Aside0 (Kd.R k46 46 w52 w.heap.size (fun _ => True) (.slice Ao51 t321.length co51) t321) := ⟨(by rw [hw]; exact (by (with_reducible repeat (first | apply Kd.R_alloc | apply Kd.R_drewN | apply Kd.R_drew)); exact Kd.R_mono (Kd.R_far (p := ⟨gb326, 3, none⟩) (Kd.R_far (p := ⟨gb326, 2, none⟩) (Kd.R_far (p := ⟨gb326, 1, none⟩) (Kd.R_far (p := ⟨gb326, 0, none⟩) (Kd.R_types HO323.out BK326.out (by decide)) (fun _ hk => hk.2) (.string t319)) (fun _ hk => hk.2) (.int .i64 t320)) (fun _ hk => hk.2) (.slice Ao51 t321.length co51)) (fun _ hk => hk.2) (.int .i64 t324)) (fun _ hk => trivial)))⟩; have n3_ : Aside0 (w52.heap[gb326]? = some (.cells #[.string t319, .int .i64 t320, .slice Ao51 t321.length co51, .int .i64 t324] 27 (0, 0))) := ⟨(by rw [hw]; exact (by (with_reducible repeat (first | refine blk_drewN ?_ _ | refine blk_drew ?_ | refine blk_alloc ?_ _)); refine blk_put (cs := #[.string t319, .int .i64 t320, .slice Ao51 t321.length co51, .int .i64 0]) ?_ 3 _ rfl; (with_reducible repeat (first | refine blk_drewN ?_ _ | refine blk_drew ?_ | refine blk_alloc ?_ _)); refine blk_put (cs := #[.string t319, .int .i64 t320, .slice none 0 0, .int .i64 0]) ?_ 2 _ rfl; (with_reducible repeat (first | refine blk_drewN ?_ _ | refine blk_drew ?_ | refine blk_alloc ?_ _)); refine blk_put (cs := #[.string t319, .int .i64 0, .slice none 0 0, .int .i64 0]) ?_ 1 _ rfl; (with_reducible repeat (first | refine blk_drewN ?_ _ | refine blk_drew ?_ | refine blk_alloc ?_ _)); refine blk_put (cs := #[.string (⟨#[]⟩ : ByteArray), .int .i64 0, .slice none 0 0, .int .i64 0]) ?_ 0 _ rfl; (with_reducible repeat (first | refine blk_drewN ?_ _ | refine blk_drew ?_ | refine blk_alloc ?_ _)); exact BK326.out))⟩; have n4_ : Aside0 (Below w.heap.size w w52) := ⟨(by rw [hw]; exact (by repeat (first | (with_reducible first | exact HB.out | apply below_alloc | apply pw_below_drewN | apply below_drew1 | refine below_set ?_ GE326.out) | exact HB.out)))⟩; clear hw; clear HO_5; clear HO318; clear HO323; clear BK326; clear HB; have HO_5 := n0_; have HO318 := n1_; have HO323 := n2_; have BK326 := n3_; have HB := n4_; clear n0_ n1_ n2_ n3_ n4_; have hcz53_0 : w52.cell? ⟨gb326, 0, none⟩ = some (.string t319) := (blk_cell BK326.out 0).trans rfl; have hcz53_1 : w52.cell? ⟨gb326, 1, none⟩ = some (.int .i64 t320) := (blk_cell BK326.out 1).trans rfl; have hcz53_2 : w52.cell? ⟨gb326, 2, none⟩ = some (.slice Ao51 t321.length co51) := (blk_cell BK326.out 2).trans rfl; have hcz53_3 : w52.cell? ⟨gb326, 3, none⟩ = some (.int .i64 t324) := (blk_cell BK326.out 3).trans rfl; have hfz53_0 := blk_frozen BK326.out 0; have hfz53_1 := blk_frozen BK326.out 1; have hfz53_2 := blk_frozen BK326.out 2; have hfz53_3 := blk_frozen BK326.out 3) | ((with_reducible refine gate_builtin (b := .append) (xs := #[.tmp 55, .tmp 57]) rfl ?_); at_builtin; refine Kd.S_append k27 (w0 := w) w.heap.size rfl (.tmp 55) (.tmp 57) 22 27 (.agg #[(.string ⟨#[]⟩), (.int .i64 0), (.slice none 0 0), (.int .i64 0)]) 56 rfl Tryd.underlying22 info27 rfl (by decide) (by omega) u5 x5_1 (⟨t319, t320, t321, t324⟩ : S27) [.string t319, .int .i64 t320, .slice Ao51 t321.length co51, .int .i64 t324] (fun k_ => k_ ≠ gb326) (fun k_ => some k_ = (.slice Ao51 t321.length co51 : Value).ownBlock) rfl rfl ?aP (fun k_ hk_ => ((Kd.R_mono (ok' := fun k_ => ((fun k_ => k_ ≠ gb326)) k_ ∧ some k_ ≠ (u5 : Value).ownBlock) (Kd.R_types (Kd.R_apart' (HO323.out) (Kd.S_typed HO_5.out) (by decide)) BK326.out (by decide)) (fun k_ hk => ⟨hk.2, hk.1.2⟩))).1 k_ hk_.symm) ?aF ?aO ?aB ?aS ?aL ?_; (case aP => exact k27_mkM _ _ _ (⟨t319, t320, t321, t324⟩ : S27) (Kd.R_mono (Kd.R_tight rfl (Kd.R_mono (ok' := fun k_ => ((fun k_ => k_ ≠ gb326)) k_ ∧ some k_ ≠ (u5 : Value).ownBlock) (Kd.R_types (Kd.R_apart' (HO323.out) (Kd.S_typed HO_5.out) (by decide)) BK326.out (by decide)) (fun k_ hk => ⟨hk.2, hk.1.2⟩))) (fun _ h_ => h_))); (case aB => exact (by repeat (first | (with_reducible first | exact HB.out | apply below_alloc | apply pw_below_drewN | apply below_drew1 | refine below_set ?_ GE326.out) | exact HB.out))); (case aF => exact (fun k_ hk => Kd.freshB (g := gb326) (o := .cells #[.string t319, .int .i64 t320, .slice Ao51 t321.length co51, .int .i64 t324] 27 (0, 0)) (by (with_reducible repeat (first | refine blk_drewN ?_ _ | refine blk_drew ?_ | refine blk_alloc ?_ _)); exact BK326.out) k_ hk)); (case aO => exact (by (with_reducible repeat (first | apply Kd.S_alloc | apply Kd.S_drewN | apply Kd.S_drew)); exact Kd.S_mono HO_5.out (fun k_ hk => ⟨hk.2, fun e_ => hk.1 e_⟩))); (case aS => exact (below_size (by repeat (first | (with_reducible first | exact HB.out | apply below_alloc | apply pw_below_drewN | apply below_drew1 | refine below_set ?_ GE326.out) | exact HB.out)))); (case aL => have := LMc45.out; omega); intro v328 w54 ho hb hg hat; rw [← Ny327.out] at ho; have n0_ := Aside0.mk (Kd.R_over' (by (with_reducible repeat (first | apply Kd.R_alloc | apply Kd.R_drewN | apply Kd.R_drew)); exact HO318.out) (Kd.S_typed (by (with_reducible repeat (first | apply Kd.S_alloc | apply Kd.S_drewN | apply Kd.S_drew)); exact HO_5.out)) (by decide) hg); have n1_ := Aside0.mk (blk_grown (g := gb326) (o := .cells #[.string t319, .int .i64 t320, .slice Ao51 t321.length co51, .int .i64 t324] 27 (0, 0)) (by (with_reducible repeat (first | refine blk_drewN ?_ _ | refine blk_drew ?_ | refine blk_alloc ?_ _)); exact BK326.out) hg (Kd.S_away HO_5.out (fun _ hk => hk.2))); have n2_ := Aside0.mk (hb); have n3_ := Aside0.mk (ho); clear HO318; clear BK326; clear HB; clear HO_5; clear HO323; have HO318 := n0_; have BK326 := n1_; have HB := n2_; have HO329 := n3_; clear n0_ n1_ n2_ n3_; clear ho hb hg hat))
              go_roundg k1
              case measure => have := HK1.out; omega
              case rel => exact ⟨(y327), (true), (wrap64 (x7_1 + 1)), (wrap64 (x9_1 + 1)), (wrap64 (x9_1 + 1)), (by first | rfl | (simp; done) | (simp [*]; done)), (by first | rfl | (simp; done) | (simp [*]; done)), (by first | rfl | (simp; done) | (simp [*]; done)), (by first | rfl | (simp; done) | (simp [*]; done)), H', ⟨by have := HK1.out; omega⟩, ⟨by (with_reducible repeat (first | apply Kd.S_alloc | apply Kd.S_drewN | apply Kd.S_drew)); exact Kd.S_mono HO329.out (fun _ hk => trivial)⟩, ⟨by repeat (first | (with_reducible first | exact HB.out | apply below_alloc | apply pw_below_drewN | apply below_drew1 | refine below_set ?_ GE326.out) | exact HB.out)⟩⟩
             · rw [if_neg c45] at H; exact absurd H (by simp)
            ·
             replace c44 := Bool.eq_false_iff.mpr c44; subst c44; have H1 : (some (([] : List (S27)), wrap64 (x7_1 + 1), 3)) = some (r1, r2, r3) := by rw [if_neg (show ¬ (false = true) by decide)] at H; exact H
             clear H; have H := H1; clear H1; simp only [Option.some.injEq, Prod.mk.injEq] at H; obtain ⟨rfl, rfl, rfl⟩ := H; have p5 : 0 ≤ (x9_1 : Int) := of_decide_eq_true (by first | (with_reducible assumption) | assumption); have q5 : x9_1 < (a0.size : Int) := of_decide_eq_true (by first | (with_reducible assumption) | assumption); have hx5 := bt_at a0 x9_1; replace p5 := eq_true p5; replace q5 := eq_true q5; go_wp2_with (first | ((with_reducible refine gate_callee (f := 49) rfl ?_); refine goesL_ (some 37) rfl rfl Tryd.func49 (by kernel_rfl) rfl #[.string (a0.extract (x8_1 : Int).toNat (x9_1 : Int).toNat)] rfl (by (try simp only [List.map_toArray, List.map_cons, List.map_nil]); first | done | rfl | (simp only [List.length_drop, List.length_take]; rfl)) ?_; (with_reducible refine (spileref09_Words.calls k1 (a0.extract (x8_1 : Int).toNat (x9_1 : Int).toNat) t315 true _ A10.out).mono ?_); rintro e w55 ⟨v317, rfl, ho0, hb⟩; refine ⟨_, rfl, ?_⟩; have n0_ := Aside0.mk (Kd.S_below (by (with_reducible repeat (first | apply Kd.S_alloc | apply Kd.S_drewN | apply Kd.S_drew)); exact HO_5.out) hb); have n1_ := Aside0.mk (Kd.R_lower ho0 (below_size (by repeat (first | (with_reducible first | exact HB.out | apply below_alloc | apply pw_below_drewN | apply below_drew1) | exact HB.out)))); have n2_ := Aside0.mk (below_step (by repeat (first | (with_reducible first | exact HB.out | apply below_alloc | apply pw_below_drewN | apply below_drew1) | exact HB.out)) hb); clear HO_5; clear HB; have HO_5 := n0_; have HO318 := n1_; have HB := n2_; clear n0_ n1_ n2_; (try clear hb); (try clear hb2); (try clear hk); (try clear hi); (try clear ho0); obtain ⟨Ao56, co56, eo56⟩ := Kd.R_slice HO318.out; subst eo56) | ((with_reducible refine gate_callee (f := 50) rfl ?_); refine goesL_ (some 49) rfl rfl Tryd.func50 (by kernel_rfl) rfl #[.slice Ao56 t315.length co56] rfl (by (try simp only [List.map_toArray, List.map_cons, List.map_nil]); first | done | rfl | (simp only [List.length_drop, List.length_take]; rfl)) ?_; (with_reducible refine (spileref09_head.calls k1 _ _ t315 t319 t320 t321 t324 false _ ?side1 ?side2 A43.out).mono ?_); (case side1 => repeat (first | exact (Kd.R_reads' HO318.out).2.2 | (with_reducible refine Kd.C_alloc ?_ _) | (with_reducible refine Kd.C_drewN ?_ _) | (with_reducible refine Kd.C_drew ?_))); (case side2 => exact (Kd.R_reads' HO318.out).2.1); rintro e w57 ⟨v322, rfl, ho0, hb⟩; refine ⟨_, rfl, ?_⟩; have n0_ := Aside0.mk (Kd.S_elder' (by (with_reducible repeat (first | apply Kd.S_alloc | apply Kd.S_drewN | apply Kd.S_drew)); exact HO_5.out) (Kd.R_base ho0) hb); have n1_ := Aside0.mk (Kd.R_below (by (with_reducible repeat (first | apply Kd.R_alloc | apply Kd.R_drewN | apply Kd.R_drew)); exact HO318.out) hb); have n2_ := Aside0.mk (Kd.R_lower ho0 (below_size (by repeat (first | (with_reducible first | exact HB.out | apply below_alloc | apply pw_below_drewN | apply below_drew1) | exact HB.out)))); have n3_ := Aside0.mk (below_step (by repeat (first | (with_reducible first | exact HB.out | apply below_alloc | apply pw_below_drewN | apply below_drew1) | exact HB.out)) hb); clear HO_5; clear HO318; clear HB; have HO_5 := n0_; have HO318 := n1_; have HO323 := n2_; have HB := n3_; clear n0_ n1_ n2_ n3_; (try clear hb); (try clear hb2); (try clear hk); (try clear hi); (try clear ho0)) | ((with_reducible refine gate_dst (N := 12) rfl ?_); refine box_event ?hg (N := 12) ?hd (cs := #[.string (⟨#[]⟩ : ByteArray), .int .i64 0, .slice none 0 0, .int .i64 0]) (t := 27) ?hr ?_; (case hd => rfl); (case hg => rfl); (case hr => first | (go_simp; done) | (go_simp; rfl)); intro gb326 hg w58 hbox hb; have n0_ := Aside0.mk (Kd.S_below (Kd.S_elderB (by (with_reducible repeat (first | apply Kd.S_alloc | apply Kd.S_drewN | apply Kd.S_drew)); exact HO_5.out) gb326 (Nat.le_of_eq hg.symm)) hb); have n1_ := Aside0.mk (Kd.R_below (by (with_reducible repeat (first | apply Kd.R_alloc | apply Kd.R_drewN | apply Kd.R_drew)); exact HO318.out) hb); have n2_ := Aside0.mk (Kd.R_below (by (with_reducible repeat (first | apply Kd.R_alloc | apply Kd.R_drewN | apply Kd.R_drew)); exact HO323.out) hb); have n3_ := Aside0.mk (below_step (by repeat (first | (with_reducible first | exact HB.out | apply below_alloc | apply pw_below_drewN | apply below_drew1) | exact HB.out)) hb); have n4_ := Aside0.mk (hbox); have n5_ := Aside0.mk ((by rw [hg]; exact (below_size (by repeat (first | (with_reducible first | exact HB.out | apply below_alloc | apply pw_below_drewN | apply below_drew1) | exact HB.out))) : w.heap.size ≤ gb326)); have n6_ := Aside0.mk ((by rw [hg]; exact (below_size (by repeat (first | (with_reducible first | exact HB.out | apply below_alloc | apply pw_below_drewN | apply below_drew1) | exact HB.out))) : w.heap.size ≤ gb326)); clear HO_5; clear HO318; clear HO323; clear HB; have HO_5 := n0_; have HO318 := n1_; have HO323 := n2_; have HB := n3_; have BK326 := n4_; have GW326 := n5_; have GE326 := n6_; clear n0_ n1_ n2_ n3_ n4_ n5_ n6_; clear hb hbox hg; have hcz59_0 : w58.cell? ⟨gb326, 0, none⟩ = some (.string (⟨#[]⟩ : ByteArray)) := (blk_cell BK326.out 0).trans rfl; have hcz59_1 : w58.cell? ⟨gb326, 1, none⟩ = some (.int .i64 0) := (blk_cell BK326.out 1).trans rfl; have hcz59_2 : w58.cell? ⟨gb326, 2, none⟩ = some (.slice none 0 0) := (blk_cell BK326.out 2).trans rfl; have hcz59_3 : w58.cell? ⟨gb326, 3, none⟩ = some (.int .i64 0) := (blk_cell BK326.out 3).trans rfl; have hfz59_0 := blk_frozen BK326.out 0; have hfz59_1 := blk_frozen BK326.out 1; have hfz59_2 := blk_frozen BK326.out 2; have hfz59_3 := blk_frozen BK326.out 3; obtain ⟨Ao60, co60, eo60⟩ := Kd.R_slice HO323.out; subst eo60))
             go_ret3
             exact ⟨_, by first | rfl | (simp [errW_none, errW_some] <;> rfl) | (simp [*, errW_none, errW_some] <;> rfl), by first | exact Kd.S_nil _ _ _ _ _ | exact Kd.N_nil _ _ _ _ _ | exact Kd.V_nil _ _ _ _ _ | exact Kd.Q_nil _ _ _ _ _ | exact Kd.R_nil _ _ _ _ _, by repeat (first | (with_reducible first | exact HB.out | apply below_alloc | apply pw_below_drewN | apply below_drew1 | refine below_set ?_ GE326.out) | exact HB.out)⟩
          ·
           replace c11 := Bool.eq_false_iff.mpr c11; subst c11; have H1 : (some (([] : List (S27)), wrap64 (x7_1 + 1), 3)) = some (r1, r2, r3) := by rw [if_neg (show ¬ (false = true) by decide)] at H; exact H
           clear H; have H := H1; clear H1; simp only [Option.some.injEq, Prod.mk.injEq] at H; obtain ⟨rfl, rfl, rfl⟩ := H; have p5 : 0 ≤ (x9_1 : Int) := of_decide_eq_true (by first | (with_reducible assumption) | assumption); have q5 : x9_1 < (a0.size : Int) := of_decide_eq_true (by first | (with_reducible assumption) | assumption); have hx5 := bt_at a0 x9_1; replace p5 := eq_true p5; replace q5 := eq_true q5; go_wp2_with (first | ((with_reducible refine gate_callee (f := 49) rfl ?_); refine goesL_ (some 37) rfl rfl Tryd.func49 (by kernel_rfl) rfl #[.string (a0.extract (x8_1 : Int).toNat (x9_1 : Int).toNat)] rfl (by (try simp only [List.map_toArray, List.map_cons, List.map_nil]); first | done | rfl | (simp only [List.length_drop, List.length_take]; rfl)) ?_; (with_reducible refine (spileref09_Words.calls k1 (a0.extract (x8_1 : Int).toNat (x9_1 : Int).toNat) t315 false _ A10.out).mono ?_); rintro e w61 ⟨v317, rfl, ho0, hb⟩; refine ⟨_, rfl, ?_⟩; have n0_ := Aside0.mk (Kd.S_below (by (with_reducible repeat (first | apply Kd.S_alloc | apply Kd.S_drewN | apply Kd.S_drew)); exact HO_5.out) hb); have n1_ := Aside0.mk (Kd.R_lower ho0 (below_size (by repeat (first | (with_reducible first | exact HB.out | apply below_alloc | apply pw_below_drewN | apply below_drew1) | exact HB.out)))); have n2_ := Aside0.mk (below_step (by repeat (first | (with_reducible first | exact HB.out | apply below_alloc | apply pw_below_drewN | apply below_drew1) | exact HB.out)) hb); clear HO_5; clear HB; have HO_5 := n0_; have HO318 := n1_; have HB := n2_; clear n0_ n1_ n2_; (try clear hb); (try clear hb2); (try clear hk); (try clear hi); (try clear ho0)))
           go_ret3
           exact ⟨_, by first | rfl | (simp [errW_none, errW_some] <;> rfl) | (simp [*, errW_none, errW_some] <;> rfl), by first | exact Kd.S_nil _ _ _ _ _ | exact Kd.N_nil _ _ _ _ _ | exact Kd.V_nil _ _ _ _ _ | exact Kd.Q_nil _ _ _ _ _ | exact Kd.R_nil _ _ _ _ _, by repeat (first | (with_reducible first | exact HB.out | apply below_alloc | apply pw_below_drewN | apply below_drew1) | exact HB.out)⟩
         · rw [if_neg c9] at H; exact absurd H (by simp)
        · rw [if_neg c8] at H; exact absurd H (by simp)
       · rw [if_neg c7] at H; exact absurd H (by simp)
      ·
       rw [if_neg c6] at H; have c6b0 : ((bt a0 x9_1) == 10) = false := beq_eq_false_iff_ne.mpr c6; have c6b1 : ((bt a0 x9_1) != 10) = true := bne_iff_ne.mpr c6; have H' := Aside0.mk H; clear H; have p5 : 0 ≤ (x9_1 : Int) := of_decide_eq_true (by first | (with_reducible assumption) | assumption); have q5 : x9_1 < (a0.size : Int) := of_decide_eq_true (by first | (with_reducible assumption) | assumption); have hx5 := bt_at a0 x9_1; replace p5 := eq_true p5; replace q5 := eq_true q5; go_wp2; go_roundg k1
       case measure => have := HK1.out; omega
       case rel => exact ⟨(x5_1), (x6_1), (x7_1), (x8_1), (wrap64 (x9_1 + 1)), (by first | rfl | (simp; done) | (simp [*]; done)), (by first | rfl | (simp; done) | (simp [*]; done)), (by first | rfl | (simp; done) | (simp [*]; done)), (by first | rfl | (simp; done) | (simp [*]; done)), H', ⟨by have := HK1.out; omega⟩, ⟨by (with_reducible repeat (first | apply Kd.S_alloc | apply Kd.S_drewN | apply Kd.S_drew)); exact HO_5.out⟩, ⟨by repeat (first | (with_reducible first | exact HB.out | apply below_alloc | apply pw_below_drewN | apply below_drew1) | exact HB.out)⟩⟩
     · rw [if_neg c4] at H; exact absurd H (by simp)
    ·
     rw [if_neg c3] at H; have c3b0 : decide (x9_1 < (a0.size : Int)) = false := decide_eq_false c3; clear c3; have HC62 := Aside0.mk H; clear H; go_upto_region 25 with (fail)
     go_cut [98] (fun v98 wc => ∃ (kq : Nat) (x98_61 : Bool), v98 = .bool x98_61 ∧ Aside0 (spileref09_Parse.j2 kq x5_1 x7_1 x98_61 = some (r1, r2, r3)) ∧ Aside0 (kq ≤ k1) ∧ Aside0 (Kd.S k27 27 wc w.heap.size (fun _ => True) u5 x5_1) ∧ Aside0 (Below w.heap.size w wc))
     case first =>
      have H := HC62.out; clear HC62; by_cases c63 : x8_1 < (a0.size : Int)
      ·
       rw [if_pos c63] at H; have c63b0 : decide (x8_1 < (a0.size : Int)) = true := decide_eq_true c63; clear c63; (first | rw [c63b0] | (simp only [i64_w, i32_w]; rw [c63b0]) | skip)
       have H' := Aside0.mk H; clear H; go_wp2; go_meet
       case rel => exact ⟨_, (true), (by first | rfl | (simp; done) | (simp [*]; done)), H', ⟨by have := HK1.out; first | omega | exact Nat.le_refl _⟩, ⟨by (with_reducible repeat (first | apply Kd.S_alloc | apply Kd.S_drewN | apply Kd.S_drew)); exact HO_5.out⟩, ⟨by repeat (first | (with_reducible first | exact HB.out | apply below_alloc | apply pw_below_drewN | apply below_drew1) | exact HB.out)⟩⟩
      ·
       rw [if_neg c63] at H; have c63b0 : decide (x8_1 < (a0.size : Int)) = false := decide_eq_false c63; clear c63; (first | rw [c63b0] | (simp only [i64_w, i32_w]; rw [c63b0]) | skip)
       have H' := Aside0.mk H; clear H; go_wp2; go_meet
       case rel => exact ⟨_, (x6_1), (by first | rfl | (simp; done) | (simp [*]; done)), H', ⟨by have := HK1.out; first | omega | exact Nat.le_refl _⟩, ⟨by (with_reducible repeat (first | apply Kd.S_alloc | apply Kd.S_drewN | apply Kd.S_drew)); exact HO_5.out⟩, ⟨by repeat (first | (with_reducible first | exact HB.out | apply below_alloc | apply pw_below_drewN | apply below_drew1) | exact HB.out)⟩⟩
     case rest =>
      clear HC62; try clear c1
      try clear c2
      try clear c2b0
      try clear c2b1
      try clear p2
      try clear q2
      try clear c3
      try clear c3b0
      try clear p3
      try clear q3
      try clear hx3
      try clear qi3
      try clear hf3
      try clear c4
      try clear c4b0
      try clear c5
      try clear p5
      try clear q5
      try clear hx5
      try clear c6
      try clear c6b0
      try clear c6b1
      try clear p6
      try clear c7
      try clear c7b0
      try clear c7b1
      try clear c8
      try clear c8b0
      try clear c8b1
      try clear c9
      try clear c9b0
      try clear c9b1
      try clear c11
      try clear c12
      try clear c15
      try clear c15b0
      try clear c15b1
      try clear c16
      try clear c16b0
      try clear c16b1
      try clear c19
      try clear c21
      try clear c23
      try clear c23b0
      try clear c24
      try clear c24b0
      try clear c25
      try clear p26
      try clear q26
      try clear c33
      try clear p33
      try clear q33
      try clear hx33
      try clear qi33
      try clear c34
      try clear c36
      try clear hx36
      try clear hf36
      try clear c44
      try clear c45
      try clear c49
      try clear c50
      try clear c51
      try clear c63
      try clear c63b0
      try clear hcz30_0
      try clear hcz30_1
      try clear hcz42_0
      try clear hcz42_1
      try clear hcz50_0
      try clear hcz50_1
      try clear hcz50_2
      try clear hcz50_3
      try clear hcz53_0
      try clear hcz53_1
      try clear hcz53_2
      try clear hcz53_3
      try clear hcz59_0
      try clear hcz59_1
      try clear hcz59_2
      try clear hcz59_3
      try clear hfz30_0
      try clear hfz30_1
      try clear hfz42_0
      try clear hfz42_1
      try clear hfz50_0
      try clear hfz50_1
      try clear hfz50_2
      try clear hfz50_3
      try clear hfz53_0
      try clear hfz53_1
      try clear hfz53_2
      try clear hfz53_3
      try clear hfz59_0
      try clear hfz59_1
      try clear hfz59_2
      try clear hfz59_3
      try clear hx330_0
      try clear hx335_0
      try clear hx335_1
      try clear hx335_2
      try clear hx335_3
      try clear hx36_0
      try clear p2
      try clear p26
      try clear p3
      try clear p330
      try clear p335
      try clear p5
      try clear p6
      try clear q26
      try clear q3
      try clear q330
      try clear q335
      try clear q5
      obtain ⟨kq, x98_61, rfl, HA, HJ61, HO_5, HB⟩ := hcut
      cases kq with
      | zero => exact absurd HA.out (by simp [spileref09_Parse.j2])
      | succ kj61 =>
       have H := HA.out; clear HA; simp only [spileref09_Parse.j2] at H; by_cases c64 : x98_61 = true
       ·
        subst c64; have H1 : (some (([] : List (S27)), wrap64 (x7_1 + 1), 3)) = some (r1, r2, r3) := by rw [if_pos rfl] at H; exact H
        clear H; have H := H1; clear H1; simp only [Option.some.injEq, Prod.mk.injEq] at H; obtain ⟨rfl, rfl, rfl⟩ := H; go_wp2; go_ret3
        exact ⟨_, by first | rfl | (simp [errW_none, errW_some] <;> rfl) | (simp [*, errW_none, errW_some] <;> rfl), by first | exact Kd.S_nil _ _ _ _ _ | exact Kd.N_nil _ _ _ _ _ | exact Kd.V_nil _ _ _ _ _ | exact Kd.Q_nil _ _ _ _ _ | exact Kd.R_nil _ _ _ _ _, by repeat (first | (with_reducible first | exact HB.out | apply below_alloc | apply pw_below_drewN | apply below_drew1) | exact HB.out)⟩
       ·
        replace c64 := Bool.eq_false_iff.mpr c64; subst c64; have H1 : ((spileref09_List.f kj61 x5_1).bind fun t340 => (if t340 = 0 then (some (x5_1, 0, 0)) else (some (([] : List (S27)), 0, t340)))) = some (r1, r2, r3) := by rw [if_neg (show ¬ (false = true) by decide)] at H; exact H
        clear H; have H := H1; clear H1; replace H := Option.bind_eq_some_iff.mp H; obtain ⟨t340, A650, H⟩ := H; replace H : (if t340 = 0 then (some (x5_1, 0, 0)) else (some (([] : List (S27)), 0, t340))) = some (r1, r2, r3) := H; have A65 := Aside0.mk A650; clear A650; by_cases c66 : t340 = 0
        ·
         rw [if_pos c66] at H; have c66b0 : (t340 == 0) = true := beq_iff_eq.mpr c66; have c66b1 : (t340 != 0) = false := bne_eq_false_iff_eq.mpr c66; clear c66; simp only [Option.some.injEq, Prod.mk.injEq] at H; obtain ⟨rfl, rfl, rfl⟩ := H; obtain ⟨Ao67, co67, eo67⟩ := Kd.S_slice HO_5.out; subst eo67; go_wp2_with (first | ((with_reducible refine gate_callee (f := 17) rfl ?_); refine goesL_ (some 102) rfl rfl Tryd.func17 (by kernel_rfl) rfl #[.slice Ao67 x5_1.length co67] rfl (by (try simp only [List.map_toArray, List.map_cons, List.map_nil]); first | done | rfl | (simp only [List.length_drop, List.length_take]; rfl)) ?_; (with_reducible refine (spileref09_List.calls kj61 _ _ x5_1 t340 _ ?side1 ?side2 A65.out).mono ?_); (case side1 => repeat (first | exact (Kd.S_reads' HO_5.out).2.2 | (with_reducible refine Kd.C_alloc ?_ _) | (with_reducible refine Kd.C_drewN ?_ _) | (with_reducible refine Kd.C_drew ?_))); (case side2 => exact (Kd.S_reads' HO_5.out).2.1); rintro e w68 ⟨rfl, hb⟩; refine ⟨_, rfl, ?_⟩; have n0_ := Aside0.mk (Kd.S_below (by (with_reducible repeat (first | apply Kd.S_alloc | apply Kd.S_drewN | apply Kd.S_drew)); exact HO_5.out) hb); have n1_ := Aside0.mk (below_step (by repeat (first | (with_reducible first | exact HB.out | apply below_alloc | apply pw_below_drewN | apply below_drew1) | exact HB.out)) hb); clear HO_5; clear HB; have HO_5 := n0_; have HB := n1_; clear n0_ n1_; (try clear hb); (try clear hb2); (try clear hk); (try clear hi)))
         go_ret3
         exact ⟨_, by first | rfl | (simp [errW_none, errW_some] <;> rfl) | (simp [*, errW_none, errW_some] <;> rfl), by (with_reducible repeat (first | apply Kd.S_alloc | apply Kd.S_drewN | apply Kd.S_drew)); exact HO_5.out, by repeat (first | (with_reducible first | exact HB.out | apply below_alloc | apply pw_below_drewN | apply below_drew1) | exact HB.out)⟩
        ·
         rw [if_neg c66] at H; have c66b0 : (t340 == 0) = false := beq_eq_false_iff_ne.mpr c66; have c66b1 : (t340 != 0) = true := bne_iff_ne.mpr c66; simp only [Option.some.injEq, Prod.mk.injEq] at H; obtain ⟨rfl, rfl, rfl⟩ := H; obtain ⟨Ao69, co69, eo69⟩ := Kd.S_slice HO_5.out; subst eo69; go_wp2_with (first | ((with_reducible refine gate_callee (f := 17) rfl ?_); refine goesL_ (some 102) rfl rfl Tryd.func17 (by kernel_rfl) rfl #[.slice Ao69 x5_1.length co69] rfl (by (try simp only [List.map_toArray, List.map_cons, List.map_nil]); first | done | rfl | (simp only [List.length_drop, List.length_take]; rfl)) ?_; (with_reducible refine (spileref09_List.calls kj61 _ _ x5_1 t340 _ ?side1 ?side2 A65.out).mono ?_); (case side1 => repeat (first | exact (Kd.S_reads' HO_5.out).2.2 | (with_reducible refine Kd.C_alloc ?_ _) | (with_reducible refine Kd.C_drewN ?_ _) | (with_reducible refine Kd.C_drew ?_))); (case side2 => exact (Kd.S_reads' HO_5.out).2.1); rintro e w70 ⟨rfl, hb⟩; refine ⟨_, rfl, ?_⟩; have n0_ := Aside0.mk (Kd.S_below (by (with_reducible repeat (first | apply Kd.S_alloc | apply Kd.S_drewN | apply Kd.S_drew)); exact HO_5.out) hb); have n1_ := Aside0.mk (below_step (by repeat (first | (with_reducible first | exact HB.out | apply below_alloc | apply pw_below_drewN | apply below_drew1) | exact HB.out)) hb); clear HO_5; clear HB; have HO_5 := n0_; have HB := n1_; clear n0_ n1_; (try clear hb); (try clear hb2); (try clear hk); (try clear hi)))
         go_ret3
         exact ⟨_, by first | rfl | (simp [errW_none, errW_some] <;> rfl) | (simp [*, errW_none, errW_some] <;> rfl), by first | exact Kd.S_nil _ _ _ _ _ | exact Kd.N_nil _ _ _ _ _ | exact Kd.V_nil _ _ _ _ _ | exact Kd.Q_nil _ _ _ _ _ | exact Kd.R_nil _ _ _ _ _, by repeat (first | (with_reducible first | exact HB.out | apply below_alloc | apply pw_below_drewN | apply below_drew1) | exact HB.out)⟩
end Go.Proofs.YtnhmlneebnkjcaaDoor.Pr
namespace Go.Proofs.YtnhmlneebnkjcaaDoor.Pr
open Go.RowKit Go.Proofs.YtnhmlneebnkjcaaDoorW.PrintWords Go.Proofs.YtnhmlneebnkjcaaDoorW.PrintLast Go.Proofs.YtnhmlneebnkjcaaDoorW.PrintMore Go.Proofs.YtnhmlneebnkjcaaDoor.X
attribute [local go_sem] max2_int min2_int max_two min_two max_three min_three max_four min_four   -- for this text's walks alone
set_option linter.unusedVariables false
set_option linter.unusedSimpArgs false
def spilelaw09_CaskReads.f (k : Nat) (a0 : ByteArray) : Option (Bool) := (spilelaw09_awake.f).bind fun t341 => (if t341 = true then (if (a0.size : Int) > 2000 then (some true) else ((cask_Parse.f k a0).bind fun bt342 => ((spileref09_Parse.f k a0).bind fun bt347 => ((spileref09_Same.f k bt342.1 bt347.1).bind fun t352 => (if t352 = true then (if bt342.2.1 = bt347.2.1 then (some (bt342.2.2 == bt347.2.2)) else (none)) else (none)))))) else (none))
set_option maxHeartbeats 8000000 in
set_option maxRecDepth 100000 in
theorem spilelaw09_CaskReads.calls (k : Nat) (a0 : ByteArray) (r : Bool) (w : World) (hG : GI w) (hr_ : r = true) (h : spilelaw09_CaskReads.f k a0 = some r) :
  Calls Tryd.prog 5 #[.string a0] w fun e w' => e = .returned (.bool r) ∧ Below w.heap.size w w' := by
 have HG := Aside0.mk hG; clear hG; have HB := Aside0.mk (Below.refl w.heap.size w); have H : ((spilelaw09_awake.f).bind fun t341 => (if t341 = true then (if (a0.size : Int) > 2000 then (some true) else ((cask_Parse.f k a0).bind fun bt342 => ((spileref09_Parse.f k a0).bind fun bt347 => ((spileref09_Same.f k bt342.1 bt347.1).bind fun t352 => (if t352 = true then (if bt342.2.1 = bt347.2.1 then (some (bt342.2.2 == bt347.2.2)) else (none)) else (none)))))) else (none))) = some r := h; clear h; replace H := Option.bind_eq_some_iff.mp H; obtain ⟨t341, A20, H⟩ := H; replace H : (if t341 = true then (if (a0.size : Int) > 2000 then (some true) else ((cask_Parse.f k a0).bind fun bt342 => ((spileref09_Parse.f k a0).bind fun bt347 => ((spileref09_Same.f k bt342.1 bt347.1).bind fun t352 => (if t352 = true then (if bt342.2.1 = bt347.2.1 then (some (bt342.2.2 == bt347.2.2)) else (none)) else (none)))))) else (none)) = some r := H; have A2 := Aside0.mk A20; clear A20; by_cases c3 : t341 = true
 ·
  subst c3; have H1 : (if (a0.size : Int) > 2000 then (some true) else ((cask_Parse.f k a0).bind fun bt342 => ((spileref09_Parse.f k a0).bind fun bt347 => ((spileref09_Same.f k bt342.1 bt347.1).bind fun t352 => (if t352 = true then (if bt342.2.1 = bt347.2.1 then (some (bt342.2.2 == bt347.2.2)) else (none)) else (none)))))) = some r := by rw [if_pos rfl] at H; exact H
  clear H; have H := H1; clear H1; by_cases c4 : (a0.size : Int) > 2000
  ·
   rw [if_pos c4] at H; have c4b0 : decide (2000 < (a0.size : Int)) = true := decide_eq_true c4; have c4b1 : decide (2000 < a0.size) = true := decide_eq_true (by omega); clear c4; obtain rfl := Option.some.inj H; go_enter Tryd.func5, Tryd.ntmps5
   go_wp2_with (first | ((with_reducible refine gate_callee (f := 10) rfl ?_); refine goesL_ (some 9) rfl rfl Tryd.func10 (by kernel_rfl) rfl #[] rfl (by (try simp only [List.map_toArray, List.map_cons, List.map_nil]); first | done | rfl | (simp only [List.length_drop, List.length_take]; rfl)) ?_; (with_reducible refine (spilelaw09_awake.calls  true _ ?side1 A2.out).mono ?_); (case side1 => exact GI.below HG.out (by repeat (first | (with_reducible first | exact HB.out | apply below_alloc | apply pw_below_drewN | apply below_drew1) | exact HB.out))); rintro e w5 ⟨rfl, hb⟩; refine ⟨_, rfl, ?_⟩; have n0_ := Aside0.mk (below_step (by repeat (first | (with_reducible first | exact HB.out | apply below_alloc | apply pw_below_drewN | apply below_drew1) | exact HB.out)) hb); clear HB; have HB := n0_; clear n0_; (try clear hb); (try clear hb2); (try clear hk); (try clear hi)))
   go_ret
   exact ⟨by first | rfl | (simp [errW_none, errW_some] <;> rfl) | (simp [*, errW_none, errW_some] <;> rfl), by repeat (first | (with_reducible first | exact HB.out | apply below_alloc | apply pw_below_drewN | apply below_drew1) | exact HB.out)⟩
  ·
   rw [if_neg c4] at H; have c4b0 : decide (2000 < (a0.size : Int)) = false := decide_eq_false c4; have c4b1 : decide (2000 < a0.size) = false := decide_eq_false (by omega); clear c4; replace H := Option.bind_eq_some_iff.mp H; obtain ⟨⟨t342, t343, t344⟩, A60, H⟩ := H; replace H : ((spileref09_Parse.f k a0).bind fun bt347 => ((spileref09_Same.f k t342 bt347.1).bind fun t352 => (if t352 = true then (if t343 = bt347.2.1 then (some (t344 == bt347.2.2)) else (none)) else (none)))) = some r := H; have A6 := Aside0.mk A60; clear A60; replace H := Option.bind_eq_some_iff.mp H; obtain ⟨⟨t347, t348, t349⟩, A70, H⟩ := H; replace H : ((spileref09_Same.f k t342 t347).bind fun t352 => (if t352 = true then (if t343 = t348 then (some (t344 == t349)) else (none)) else (none))) = some r := H; have A7 := Aside0.mk A70; clear A70; replace H := Option.bind_eq_some_iff.mp H; obtain ⟨t352, A80, H⟩ := H; replace H : (if t352 = true then (if t343 = t348 then (some (t344 == t349)) else (none)) else (none)) = some r := H; have A8 := Aside0.mk A80; clear A80; by_cases c9 : t352 = true
   ·
    subst c9; have H1 : (if t343 = t348 then (some (t344 == t349)) else (none)) = some r := by rw [if_pos rfl] at H; exact H
    clear H; have H := H1; clear H1; by_cases c10 : t343 = t348
    ·
     rw [if_pos c10] at H; have c10b0 : (t343 == t348) = true := beq_iff_eq.mpr c10; have c10b1 : (t343 != t348) = false := bne_eq_false_iff_eq.mpr c10; clear c10; obtain rfl := Option.some.inj H; go_enter Tryd.func5, Tryd.ntmps5
     go_wp2_with (first | ((with_reducible refine gate_callee (f := 10) rfl ?_); refine goesL_ (some 9) rfl rfl Tryd.func10 (by kernel_rfl) rfl #[] rfl (by (try simp only [List.map_toArray, List.map_cons, List.map_nil]); first | done | rfl | (simp only [List.length_drop, List.length_take]; rfl)) ?_; (with_reducible refine (spilelaw09_awake.calls  true _ ?side1 A2.out).mono ?_); (case side1 => exact GI.below HG.out (by repeat (first | (with_reducible first | exact HB.out | apply below_alloc | apply pw_below_drewN | apply below_drew1) | exact HB.out))); rintro e w11 ⟨rfl, hb⟩; refine ⟨_, rfl, ?_⟩; have n0_ := Aside0.mk (below_step (by repeat (first | (with_reducible first | exact HB.out | apply below_alloc | apply pw_below_drewN | apply below_drew1) | exact HB.out)) hb); clear HB; have HB := n0_; clear n0_; (try clear hb); (try clear hb2); (try clear hk); (try clear hi)) | ((with_reducible refine gate_callee (f := 24) rfl ?_); refine goesL_ (some 16) rfl rfl Tryd.func24 (by kernel_rfl) rfl #[.string a0] rfl (by (try simp only [List.map_toArray, List.map_cons, List.map_nil]); first | done | rfl | (simp only [List.length_drop, List.length_take]; rfl)) ?_; (with_reducible refine (cask_Parse.calls k a0 t342 t343 t344 _ ?side1 A6.out).mono ?_); (case side1 => exact GI.below HG.out (by repeat (first | (with_reducible first | exact HB.out | apply below_alloc | apply pw_below_drewN | apply below_drew1) | exact HB.out))); rintro e w12 ⟨v345, rfl, ho0, hb⟩; refine ⟨_, rfl, ?_⟩; have n0_ := Aside0.mk (Kd.S_lower ho0 (below_size (by repeat (first | (with_reducible first | exact HB.out | apply below_alloc | apply pw_below_drewN | apply below_drew1) | exact HB.out)))); have n1_ := Aside0.mk (below_step (by repeat (first | (with_reducible first | exact HB.out | apply below_alloc | apply pw_below_drewN | apply below_drew1) | exact HB.out)) hb); clear HB; have HO346 := n0_; have HB := n1_; clear n0_ n1_; (try clear hb); (try clear hb2); (try clear hk); (try clear hi); (try clear ho0)) | ((with_reducible refine gate_callee (f := 25) rfl ?_); refine goesL_ (some 22) rfl rfl Tryd.func25 (by kernel_rfl) rfl #[.string a0] rfl (by (try simp only [List.map_toArray, List.map_cons, List.map_nil]); first | done | rfl | (simp only [List.length_drop, List.length_take]; rfl)) ?_; (with_reducible refine (spileref09_Parse.calls k a0 t347 t348 t349 _ A7.out).mono ?_); rintro e w13 ⟨v350, rfl, ho0, hb⟩; refine ⟨_, rfl, ?_⟩; have n0_ := Aside0.mk (Kd.S_elder' (by (with_reducible repeat (first | apply Kd.S_alloc | apply Kd.S_drewN | apply Kd.S_drew)); exact HO346.out) (Kd.S_base ho0) hb); have n1_ := Aside0.mk (Kd.S_lower (Kd.S_new' ho0 (Kd.S_lt (by (with_reducible repeat (first | apply Kd.S_alloc | apply Kd.S_drewN | apply Kd.S_drew)); exact HO346.out))) (below_size (by repeat (first | (with_reducible first | exact HB.out | apply below_alloc | apply pw_below_drewN | apply below_drew1) | exact HB.out)))); have n2_ := Aside0.mk (below_step (by repeat (first | (with_reducible first | exact HB.out | apply below_alloc | apply pw_below_drewN | apply below_drew1) | exact HB.out)) hb); clear HO346; clear HB; have HO346 := n0_; have HO351 := n1_; have HB := n2_; clear n0_ n1_ n2_; (try clear hb); (try clear hb2); (try clear hk); (try clear hi); (try clear ho0); obtain ⟨Ao14, co14, eo14⟩ := Kd.S_slice HO346.out; subst eo14; obtain ⟨Ao15, co15, eo15⟩ := Kd.S_slice HO351.out; subst eo15) | ((with_reducible refine gate_callee (f := 26) rfl ?_); refine goesL_ (some 28) rfl rfl Tryd.func26 (by kernel_rfl) rfl #[.slice Ao14 t342.length co14, .slice Ao15 t347.length co15] rfl (by (try simp only [List.map_toArray, List.map_cons, List.map_nil]); first | done | rfl | (simp only [List.length_drop, List.length_take]; rfl)) ?_; (with_reducible refine (spileref09_Same.calls k _ _ t342 _ _ t347 true _ ?side1 ?side2 ?side3 ?side4 A8.out).mono ?_); (case side1 => repeat (first | exact (Kd.S_reads' HO346.out).2.2 | (with_reducible refine Kd.C_alloc ?_ _) | (with_reducible refine Kd.C_drewN ?_ _) | (with_reducible refine Kd.C_drew ?_))); (case side2 => exact (Kd.S_reads' HO346.out).2.1); (case side3 => repeat (first | exact (Kd.S_reads' HO351.out).2.2 | (with_reducible refine Kd.C_alloc ?_ _) | (with_reducible refine Kd.C_drewN ?_ _) | (with_reducible refine Kd.C_drew ?_))); (case side4 => exact (Kd.S_reads' HO351.out).2.1); rintro e w16 ⟨rfl, hb⟩; refine ⟨_, rfl, ?_⟩; have n0_ := Aside0.mk (Kd.S_below (by (with_reducible repeat (first | apply Kd.S_alloc | apply Kd.S_drewN | apply Kd.S_drew)); exact HO346.out) hb); have n1_ := Aside0.mk (Kd.S_below (by (with_reducible repeat (first | apply Kd.S_alloc | apply Kd.S_drewN | apply Kd.S_drew)); exact HO351.out) hb); have n2_ := Aside0.mk (below_step (by repeat (first | (with_reducible first | exact HB.out | apply below_alloc | apply pw_below_drewN | apply below_drew1) | exact HB.out)) hb); clear HO346; clear HO351; clear HB; have HO346 := n0_; have HO351 := n1_; have HB := n2_; clear n0_ n1_ n2_; (try clear hb); (try clear hb2); (try clear hk); (try clear hi)))
     go_ret
     exact ⟨by first | rfl | (simp [errW_none, errW_some] <;> rfl) | (simp [*, errW_none, errW_some] <;> rfl), by repeat (first | (with_reducible first | exact HB.out | apply below_alloc | apply pw_below_drewN | apply below_drew1) | exact HB.out)⟩
    · rw [if_neg c10] at H; have c10b0 : (t343 == t348) = false := beq_eq_false_iff_ne.mpr c10; have c10b1 : (t343 != t348) = true := bne_iff_ne.mpr c10; subst hr_; exact absurd H (by simp)
   ·
    replace c9 := Bool.eq_false_iff.mpr c9; subst c9; have H1 : (none) = some r := by rw [if_neg (show ¬ (false = true) by decide)] at H; exact H
    clear H; have H := H1; clear H1; subst hr_; exact absurd H (by simp)
 ·
  replace c3 := Bool.eq_false_iff.mpr c3; subst c3; have H1 : (none) = some r := by rw [if_neg (show ¬ (false = true) by decide)] at H; exact H
  clear H; have H := H1; clear H1; subst hr_; exact absurd H (by simp)
end Go.Proofs.YtnhmlneebnkjcaaDoor.Pr
namespace Go.Proofs.YtnhmlneebnkjcaaDoor.Pure
open Go Go.RowKit Go.Proofs.YtnhmlneebnkjcaaDoor.Pr
def caskReadsPure : Prop := ∀ (a0 : ByteArray), a0.size ≤ maxLen → ∃ k, spilelaw09_CaskReads.f k a0 = some true
end Go.Proofs.YtnhmlneebnkjcaaDoor.Pure
namespace Go.Proofs.YtnhmlneebnkjcaaDoor.PL
open Go Go.RowKit Go.Proofs.YtnhmlneebnkjcaaDoorW.PrintWords Go.Proofs.YtnhmlneebnkjcaaDoorW.PrintLast Go.Proofs.YtnhmlneebnkjcaaDoorW.PrintMore
theorem evp {α : Type} {c : Prop} [Decidable c] {g h : Nat → Option α} {r : α} (hc : c) (k : Ev g r) : Ev (fun n => if c then g n else h n) r :=
  Ev.congr (fun n => if_pos hc) k
theorem evn {α : Type} {c : Prop} [Decidable c] {g h : Nat → Option α} {r : α} (hc : ¬ c) (k : Ev h r) : Ev (fun n => if c then g n else h n) r :=
  Ev.congr (fun n => if_neg hc) k
theorem evb {α β : Type} {g : Nat → Option α} {f : Nat → α → Option β} {a : α} {r : β} (h : Ev g a) (k : Ev (fun n => f n a) r) : Ev (fun n => (g n).bind (f n)) r := Ev.bind h k
theorem evr {α : Type} {a r : α} (h : a = r) : Ev (fun _ => some a) r := by subst h; exact Ev.now _
theorem evc {α : Type} {g : Nat → Option α} {r : α} {o : Option α} (hg : ∀ n, g n = o) (h : o = some r) : Ev g r := by
  subst h
  exact Ev.congr hg (Ev.now _)
theorem ev_unique {α : Type} {g : Nat → Option α} {a b : α} (h : Ev g a) (h2 : Ev g b) : a = b := by
  obtain ⟨K, h⟩ := h
  obtain ⟨K2, h2⟩ := h2
  have e1 := h (K + K2) (by omega)
  have e2 := h2 (K + K2) (by omega)
  rw [e1] at e2
  exact Option.some.inj e2
/-- A loop that counts upwards to n. -/
theorem count_up (a n : Int) (P : Int → Prop) (hend : P n) (hround : ∀ i, a ≤ i → i < n → P (i + 1) → P i) : ∀ i, a ≤ i → i ≤ n → P i := by
  intro i h0 h1
  obtain ⟨d, hd⟩ : ∃ d : Nat, n - i = d := ⟨(n - i).toNat, by omega⟩
  induction d generalizing i with
  | zero =>
    obtain rfl : i = n := by omega
    exact hend
  | succ d ih => exact hround i h0 (by omega) (ih (i + 1) (by omega) (by omega) (by omega))
theorem w64 {x : Int} (h0 : -9223372036854775808 ≤ x) (h1 : x ≤ 9223372036854775807) : wrap64 x = x := by
  unfold wrap64
  omega
theorem w64_succ {i n : Int} (h0 : 0 ≤ i) (h : i < n) (hn : n ≤ 9223372036854775807) : wrap64 (i + 1) = i + 1 := w64 (by omega) (by omega)
/-- A test that comes to true where P holds, and else to false. -/
def EvB (g : Nat → Option Bool) (P : Prop) : Prop := (P → Ev g true) ∧ (¬ P → Ev g false)
theorem EvB.iff {g : Nat → Option Bool} {P Q : Prop} (h : EvB g P) (e : P ↔ Q) : EvB g Q := ⟨fun q => h.1 (e.2 q), fun q => h.2 (fun p => q (e.1 p))⟩
theorem EvB.get {g : Nat → Option Bool} {P : Prop} (h : EvB g P) : ∃ b, Ev g b ∧ (b = true ↔ P) := by
  by_cases hp : P
  · exact ⟨true, h.1 hp, by simp [hp]⟩
  · exact ⟨false, h.2 hp, by simp [hp]⟩
theorem EvB.map {g : Nat → Option Bool} {f : Nat → Bool → Option Bool} {P Q : Prop} (h : EvB g P) (ht : P → EvB (fun n => f n true) Q) (hf : ¬ P → EvB (fun n => f n false) Q) : EvB (fun n => (g n).bind (f n)) Q := by
  by_cases hp : P
  · exact ⟨fun q => Ev.bind (h.1 hp) ((ht hp).1 q), fun q => Ev.bind (h.1 hp) ((ht hp).2 q)⟩
  · exact ⟨fun q => Ev.bind (h.2 hp) ((hf hp).1 q), fun q => Ev.bind (h.2 hp) ((hf hp).2 q)⟩
theorem evB_all (a n : Int) (Q : Int → Prop) (L : Int → Nat → Option Bool) (hend : Ev (L n) true) (hno : ∀ i, a ≤ i → i < n → ¬ Q i → Ev (L i) false)
    (hyes : ∀ i, a ≤ i → i < n → Q i → ∀ b, Ev (L (i + 1)) b → Ev (L i) b) : ∀ i, a ≤ i → i ≤ n → EvB (L i) (∀ j, i ≤ j → j < n → Q j) := by
  refine count_up a n _ ⟨fun _ => hend, fun h => absurd (fun j h1 h2 => absurd h2 (by omega)) h⟩ ?_
  intro i h0 h1 ih
  by_cases hq : Q i
  · refine ⟨fun h => hyes i h0 h1 hq _ (ih.1 fun j hj hn => h j (by omega) hn), fun h => hyes i h0 h1 hq _ (ih.2 fun h2 => h fun j hj hn => ?_)⟩
    by_cases e : j = i
    · subst e; exact hq
    · exact h2 j (by omega) hn
  · exact ⟨fun h => absurd (h i (by omega) h1) hq, fun _ => hno i h0 h1 hq⟩
theorem index_ev (n : Int) (Q : Int → Prop) (L : Int → Nat → Option Int) (hend : Ev (L n) (-1)) (hyes : ∀ i, 0 ≤ i → i < n → Q i → Ev (L i) i)
    (hno : ∀ i, 0 ≤ i → i < n → ¬ Q i → ∀ r, Ev (L (i + 1)) r → Ev (L i) r) : ∀ i, 0 ≤ i → i ≤ n →
    ∃ r, Ev (L i) r ∧ ((0 ≤ r ∧ i ≤ r ∧ r < n ∧ Q r ∧ ∀ j, i ≤ j → j < r → ¬ Q j) ∨ (r = -1 ∧ ∀ j, i ≤ j → j < n → ¬ Q j)) := by
  refine count_up 0 n _ ⟨-1, hend, .inr ⟨rfl, fun j h1 h2 => absurd h2 (by omega)⟩⟩ ?_
  intro i h0 h1 ih
  by_cases hq : Q i
  · exact ⟨i, hyes i h0 h1 hq, .inl ⟨h0, by omega, h1, hq, fun j h2 h3 => absurd h3 (by omega)⟩⟩
  · obtain ⟨r, hr, h⟩ := ih
    refine ⟨r, hno i h0 h1 hq _ hr, ?_⟩
    have ext : ∀ b, (∀ j, i + 1 ≤ j → j < b → ¬ Q j) → ∀ j, i ≤ j → j < b → ¬ Q j := fun b h2 j hj hb => by
      by_cases e : j = i
      · subst e; exact hq
      · exact h2 j (by omega) hb
    rcases h with ⟨a, b, c, d, e⟩ | ⟨a, b⟩
    · exact .inl ⟨a, by omega, c, d, ext r e⟩
    · exact .inr ⟨a, ext n b⟩
end Go.Proofs.YtnhmlneebnkjcaaDoor.PL
namespace Go.Proofs.YtnhmlneebnkjcaaDoor.PL
open Go Go.RowKit Go.Proofs.YtnhmlneebnkjcaaDoorW.PrintWords Go.Proofs.YtnhmlneebnkjcaaDoorW.PrintLast Go.Proofs.YtnhmlneebnkjcaaDoorW.PrintMore Go.Proofs.YtnhmlneebnkjcaaDoor.Pr Go.Proofs.YtnhmlneebnkjcaaDoor.TX Go.Proofs.YtnhmlneebnkjcaaDoor.X
def ba (l : List UInt8) : ByteArray := ⟨l.toArray⟩
theorem ba_data (s : ByteArray) : ba s.data.toList = s := by obtain ⟨⟨l⟩⟩ := s; rfl
theorem ba_list (l : List UInt8) : (ba l).data.toList = l := rfl
theorem ba_toList (l : List UInt8) : (ba l).toList = l := by rw [Lib.toList_data]; rfl
theorem ba_size (l : List UInt8) : (ba l).size = l.length := rfl
theorem size_data (s : ByteArray) : s.data.toList.length = s.size := Array.length_toList
theorem ba_ex (s : ByteArray) (a b : Nat) : s.extract a b = ba ((s.data.toList.take b).drop a) := by
  rw [← ba_data (s.extract a b), Lib.extract_data, List.drop_take]
theorem byte_at (s : ByteArray) {i : Int} (h0 : 0 ≤ i) (h1 : i < (s.size : Int)) : ∃ b : UInt8, s.data.toList.drop i.toNat = b :: s.data.toList.drop (i + 1).toNat ∧
    s.data.toList.take (i + 1).toNat = s.data.toList.take i.toNat ++ [b] ∧ bt s i = (b.toNat : Int) := by
  have hl : i.toNat < s.data.toList.length := by rw [size_data]; omega
  refine ⟨s.data.toList[i.toNat], ?_, ?_, ?_⟩
  · rw [show (i + 1).toNat = i.toNat + 1 from by omega, ← List.drop_eq_getElem_cons hl]
  · rw [show (i + 1).toNat = i.toNat + 1 from by omega, List.take_add_one, List.getElem?_eq_getElem hl]; rfl
  · rw [← bt_at s i (by omega)]
    obtain ⟨⟨l⟩⟩ := s
    rfl
theorem take_end (s : ByteArray) : s.data.toList.take ((s.size : Int)).toNat = s.data.toList := by
  rw [show ((s.size : Int)).toNat = s.size from by omega, ← size_data, List.take_length]
theorem drop_end (s : ByteArray) : s.data.toList.drop ((s.size : Int)).toNat = [] := by
  rw [show ((s.size : Int)).toNat = s.size from by omega, ← size_data, List.drop_length]
def wrd (c : UInt8) : List UInt8 → List UInt8 → List (List UInt8)
  | p, [] => [p]
  | p, b :: r => if b = c then p :: wrd c [] r else wrd c (p ++ [b]) r
theorem wrd_cons (c b : UInt8) (p r : List UInt8) : wrd c p (b :: r) = if b = c then p :: wrd c [] r else wrd c (p ++ [b]) r := rfl
theorem wrd_eq (c : UInt8) : ∀ s p : List UInt8, wrd c p s = match parts c s with
    | [] => [p]
    | q :: t => (p ++ q) :: t
  | [], p => by simp [wrd, parts]
  | b :: r, p => by
    rw [wrd_cons, parts_cons]
    by_cases h : b = c
    · rw [if_pos h, if_pos h, wrd_eq c r []]
      cases hp : parts c r with
      | nil => exact absurd hp (parts_ne c r)
      | cons q t => simp
    · rw [if_neg h, if_neg h, wrd_eq c r (p ++ [b])]
      cases hp : parts c r with
      | nil => exact absurd hp (parts_ne c r)
      | cons q t => simp
theorem wrd_parts (c : UInt8) (s : List UInt8) : wrd c [] s = parts c s := by
  rw [wrd_eq]
  cases hp : parts c s with
  | nil => exact absurd hp (parts_ne c s)
  | cons q t => simp
theorem toNat_eq (b : UInt8) (n : Nat) (hn : n < 256) : ((b.toNat : Int) = (n : Int)) ↔ b = UInt8.ofNat n := by
  constructor
  · intro h
    refine UInt8.toNat_inj.1 ?_
    rw [UInt8.toNat_ofNat']; omega
  · rintro rfl
    rw [UInt8.toNat_ofNat']; omega
theorem split_ev (s : ByteArray) (hs : s.size < 4294967281) : strings_Split.f s ⟨#[32]⟩ = some ((parts 32 s.data.toList).map ba) := by
  unfold strings_Split.f
  rw [if_pos ⟨hs, rfl⟩]
  refine congrArg some ?_
  have e := Lib.splitB_data ⟨#[32]⟩ 0 (Lib.countB s ⟨#[32]⟩) s
  have e2 : Lib.splitK [32] 0 (Lib.countB s ⟨#[32]⟩) s.data.toList = parts 32 s.data.toList := split_eq 32 s.data.toList
  have e3 : (Lib.splitB ⟨#[32]⟩ 0 (Lib.countB s ⟨#[32]⟩) s).map (·.data.toList) = parts 32 s.data.toList := e.trans e2
  rw [← e3, List.map_map]
  refine (List.map_congr_left (fun x _ => ba_data x) |>.trans (List.map_id _)).symm
def lin : List UInt8 → List UInt8 → List (List UInt8) × Bool
  | p, [] => if p = [] then ([], true) else ([p], false)
  | p, b :: r => if b = 10 then (p :: (lin [] r).1, (lin [] r).2) else lin (p ++ [b]) r
theorem lin_cons (p : List UInt8) (b : UInt8) (r : List UInt8) : lin p (b :: r) = if b = 10 then (p :: (lin [] r).1, (lin [] r).2) else lin (p ++ [b]) r := rfl
theorem lin_cut : ∀ (s p : List UInt8), lin p s = if (cut1 10 s).2.2 = true then ((p ++ (cut1 10 s).1) :: (lin [] (cut1 10 s).2.1).1, (lin [] (cut1 10 s).2.1).2) else if p ++ s = [] then ([], true) else ([p ++ s], false)
  | [], p => by simp [lin, cut1]
  | b :: r, p => by
    rw [lin_cons, cut1_cons]
    by_cases h : b = 10
    · rw [if_pos h, if_pos h]; simp
    · rw [if_neg h, if_neg h, lin_cut r (p ++ [b])]
      simp
theorem cut_ev (s : ByteArray) (hs : s.size < 4294967281) : strings_Cut.f s ⟨#[10]⟩ = some (ba (cut1 10 s.data.toList).1, ba (cut1 10 s.data.toList).2.1, (cut1 10 s.data.toList).2.2) := by
  unfold strings_Cut.f
  rw [if_pos hs]
  have e : Lib.cut s.data.toList (⟨#[10]⟩ : ByteArray).data.toList = cut1 10 s.data.toList := cut_eq 10 s.data.toList
  rw [e]
  rfl
def numR (most : Nat) (l : List UInt8) : Int × Bool := match numP most l with
  | some v => ((v : Int), true)
  | none => (0, false)
end Go.Proofs.YtnhmlneebnkjcaaDoor.PL
namespace Go.Proofs.YtnhmlneebnkjcaaDoor.PL
open Go Go.RowKit Go.Proofs.YtnhmlneebnkjcaaDoorW.PrintWords Go.Proofs.YtnhmlneebnkjcaaDoorW.PrintLast Go.Proofs.YtnhmlneebnkjcaaDoorW.PrintMore Go.Proofs.YtnhmlneebnkjcaaDoor.Pr Go.Proofs.YtnhmlneebnkjcaaDoor.X
def okB (b : Int) : Prop := (97 ≤ b ∧ b ≤ 122) ∨ (65 ≤ b ∧ b ≤ 90) ∨ (48 ≤ b ∧ b ≤ 57) ∨ b = 45 ∨ b = 46
instance (b : Int) : Decidable (okB b) := by unfold okB; infer_instance
def NameP (s : ByteArray) : Prop := 1 ≤ s.size ∧ s.size ≤ 64 ∧ ∀ i, 0 ≤ i → i < (s.size : Int) → okB (bt s i)
theorem named_step (k : Nat) (s : ByteArray) {i : Int} (h0 : 0 ≤ i) (h1 : i < (s.size : Int)) : cask_named.l0 (k + 1) s (s.size : Int) i = if okB (bt s i) then cask_named.l0 k s (s.size : Int) (wrap64 (i + 1)) else some false := by
  rw [cask_named.l0.eq_2, if_pos h1, if_pos h0, if_pos h1]
  by_cases c : okB (bt s i)
  · rw [if_pos c]
    unfold okB at c
    (repeat' split) <;> first | rfl | (exfalso; omega)
  · rw [if_neg c]
    unfold okB at c
    (repeat' split) <;> first | rfl | (exfalso; omega)
theorem isname_step (k : Nat) (s : ByteArray) {i : Int} (h0 : 0 ≤ i) (h1 : i < (s.size : Int)) : spileref09_IsName.l0 (k + 1) s i = if okB (bt s i) then spileref09_IsName.l0 k s (wrap64 (i + 1)) else some false := by
  rw [spileref09_IsName.l0.eq_2, if_pos h1, if_pos h0]
  by_cases c : okB (bt s i)
  · rw [if_pos c]
    unfold okB at c
    (repeat' split) <;> first | rfl | (exfalso; omega)
  · rw [if_neg c]
    unfold okB at c
    (repeat' split) <;> first | rfl | (exfalso; omega)
theorem name_both (s : ByteArray) (hs : (s.size : Int) ≤ 9223372036854775807) : ∃ b, Ev (fun k => cask_named.f k s) b ∧ Ev (fun k => spileref09_IsName.f k s) b ∧ (b = true ↔ NameP s) := by
  have L1 : ∀ i, 0 ≤ i → i ≤ (s.size : Int) → EvB (fun k => cask_named.l0 k s (s.size : Int) i) (∀ j, i ≤ j → j < (s.size : Int) → okB (bt s j)) := by
    refine evB_all 0 (s.size : Int) (fun j => okB (bt s j)) (fun i k => cask_named.l0 k s (s.size : Int) i) ?_ ?_ ?_
    · exact Ev.step (fun k => cask_named.l0.eq_2 ..) (evn (by omega) (Ev.now _))
    · intro i h0 h1 hq
      exact Ev.step (fun k => named_step k s h0 h1) (evn hq (Ev.now _))
    · intro i h0 h1 hq b hb
      rw [← w64_succ h0 h1 hs] at hb
      exact Ev.step (fun k => named_step k s h0 h1) (evp hq hb)
  have L2 : ∀ i, 0 ≤ i → i ≤ (s.size : Int) → ∃ b, Ev (fun k => spileref09_IsName.l0 k s i) b ∧ (b = true ↔ (1 ≤ s.size ∧ s.size ≤ 64 ∧ ∀ j, i ≤ j → j < (s.size : Int) → okB (bt s j))) := by
    refine count_up 0 (s.size : Int) _ ?_ ?_
    · by_cases c : (s.size : Int) ≥ 1
      · exact ⟨_, Ev.step (fun k => spileref09_IsName.l0.eq_2 ..) (evn (by omega) (evp c (Ev.now _))), by rw [decide_eq_true_eq]; exact ⟨fun h => ⟨by omega, by omega, fun j _ _ => by omega⟩, fun h => by omega⟩⟩
      · exact ⟨_, Ev.step (fun k => spileref09_IsName.l0.eq_2 ..) (evn (by omega) (evn c (Ev.now _))), by simp; omega⟩
    · intro i h0 h1 ih
      by_cases hq : okB (bt s i)
      · obtain ⟨b, hb, hi⟩ := ih
        rw [← w64_succ h0 h1 hs] at hb
        refine ⟨b, Ev.step (fun k => isname_step k s h0 h1) (evp hq hb), hi.trans ⟨fun h => ⟨h.1, h.2.1, fun j h2 h3 => ?_⟩, fun h => ⟨h.1, h.2.1, fun j h2 h3 => h.2.2 j (by omega) h3⟩⟩⟩
        by_cases e : j = i
        · rw [e]; exact hq
        · exact h.2.2 j (by omega) h3
      · exact ⟨false, Ev.step (fun k => isname_step k s h0 h1) (evn hq (Ev.now _)), by simp only [Bool.false_eq_true, false_iff]; exact fun h => hq (h.2.2 i (Int.le_refl _) h1)⟩
  obtain ⟨b2, hb2, hi2⟩ := L2 0 (by omega) (by omega)
  have N2 : b2 = true ↔ NameP s := hi2
  by_cases c1 : (s.size : Int) < 1
  · have hb : b2 = false := by
      rw [Bool.eq_false_iff]
      intro q
      have := (N2.1 q).1
      omega
    subst hb
    exact ⟨false, evp c1 (Ev.step (fun k => cask_named.j0.eq_2 ..) (evp rfl (Ev.now _))), hb2, N2⟩
  by_cases c2 : (s.size : Int) > 64
  · have hb : b2 = false := by
      rw [Bool.eq_false_iff]
      intro q
      have := (N2.1 q).2.1
      omega
    subst hb
    exact ⟨false, evn c1 (Ev.step (fun k => cask_named.j0.eq_2 ..) (evp (decide_eq_true c2) (Ev.now _))), hb2, N2⟩
  obtain ⟨b, hb, hi⟩ := (L1 0 (by omega) (by omega)).get
  have e : b = b2 := by
    have : b = true ↔ b2 = true := hi.trans ⟨fun h => N2.2 ⟨by omega, by omega, h⟩, fun h => (N2.1 h).2.2⟩
    cases b <;> cases b2 <;> simp_all
  subst e
  exact ⟨b, evn c1 (Ev.step (fun k => cask_named.j0.eq_2 ..) (evn (by simp; omega) hb)), hb2, N2⟩
def LenP (x : Int) : Prop := 0 ≤ x ∧ x ≤ 100000
instance (x : Int) : Decidable (LenP x) := by unfold LenP; infer_instance
theorem measure_f (x : Int) : profile_measure.f x = some (decide (LenP x)) := by
  unfold profile_measure.f LenP
  by_cases c : x ≥ 0
  · rw [if_pos c]
    exact congrArg some (decide_eq_decide.2 ⟨fun h => ⟨c, h⟩, fun h => h.2⟩)
  · rw [if_neg c]
    exact congrArg some (decide_eq_false (fun h => c h.1)).symm
theorem isLength_f (x : Int) : spileref08_isLength.f x = some (decide (LenP x)) := by
  unfold spileref08_isLength.f LenP
  by_cases c : x ≥ 0
  · rw [if_pos c]
    exact congrArg some (decide_eq_decide.2 ⟨fun h => ⟨c, h⟩, fun h => h.2⟩)
  · rw [if_neg c]
    exact congrArg some (decide_eq_false (fun h => c h.1)).symm
def PtP (p : S46) : Prop := LenP p.f0 ∧ LenP p.f1
theorem check1_f (p : S46) : ∃ b, profile_Check_1.f p.f0 p.f1 = some b ∧ (b = true ↔ ¬ PtP p) := by
  unfold profile_Check_1.f PtP
  rw [measure_f, measure_f]
  by_cases c : LenP p.f0
  · refine ⟨_, by rw [Option.bind_some, if_pos (decide_eq_true c)]; rfl, ?_⟩
    by_cases d : LenP p.f1 <;> simp [c, d]
  · exact ⟨true, by rw [Option.bind_some, if_neg (by simp [c])], by simp [c]⟩
def AllP (l : List S46) : Prop := ∀ j, 0 ≤ j → j < (l.length : Int) → PtP (rd_T46 l j)
def NonZ (l : List S46) : Prop := ∀ j, 0 ≤ j → j < (l.length : Int) → (rd_T46 l j).f1 ≠ 0
theorem contains56 (l : List S46) (hl : (l.length : Int) ≤ 9223372036854775807) : ∃ b, Ev (fun k => api_Point_55_at_56.f k l) b ∧ (b = true ↔ ¬ AllP l) := by
  obtain ⟨r, hr, h⟩ := index_ev (l.length : Int) (fun i => ¬ PtP (rd_T46 l i)) (fun i k => api_Point_70_at_56.l0 k l (l.length : Int) i)
    (Ev.step (fun k => api_Point_70_at_56.l0.eq_2 ..) (evn (by omega) (Ev.now _)))
    (fun i h0 h1 hq => by
      obtain ⟨b, e, hb⟩ := check1_f (rd_T46 l i)
      exact Ev.step (fun k => api_Point_70_at_56.l0.eq_2 ..) (evp h1 (evp h0 (evp h1 (evb (evc (fun _ => rfl) e) (evp (hb.2 hq) (Ev.now _)))))))
    (fun i h0 h1 hq r hr => by
      obtain ⟨b, e, hb⟩ := check1_f (rd_T46 l i)
      rw [← w64_succ h0 h1 hl] at hr
      exact Ev.step (fun k => api_Point_70_at_56.l0.eq_2 ..) (evp h1 (evp h0 (evp h1 (evb (evc (fun _ => rfl) e) (evn (fun q => hq (hb.1 q)) hr)))))) 0 (by omega) (by omega)
  refine ⟨decide (r ≥ 0), evb hr (Ev.now _), ?_⟩
  rw [decide_eq_true_eq]
  rcases h with ⟨a, _, c, d, _⟩ | ⟨a, b⟩
  · exact ⟨fun _ q => d (q r a c), fun _ => a⟩
  · exact ⟨fun q => by omega, fun q => absurd (fun j h0 h1 => Classical.byContradiction (fun z => b j h0 h1 z)) q⟩
theorem contains59 (l : List S46) (hl : (l.length : Int) ≤ 9223372036854775807) : ∃ b, Ev (fun k => api_Point_55_at_59.f k l) b ∧ (b = true ↔ ¬ NonZ l) := by
  obtain ⟨r, hr, h⟩ := index_ev (l.length : Int) (fun i => (rd_T46 l i).f1 = 0) (fun i k => api_Point_70_at_59.l0 k l (l.length : Int) i)
    (Ev.step (fun k => api_Point_70_at_59.l0.eq_2 ..) (evn (by omega) (Ev.now _)))
    (fun i h0 h1 hq => Ev.step (fun k => api_Point_70_at_59.l0.eq_2 ..) (evp h1 (evp h0 (evp h1 (evb (evc (fun _ => rfl) (show profile_Check_2.f (rd_T46 l i).f0 (rd_T46 l i).f1 = some ((rd_T46 l i).f1 == 0) from rfl)) (evp (beq_iff_eq.2 hq) (Ev.now _)))))))
    (fun i h0 h1 hq r hr => by
      rw [← w64_succ h0 h1 hl] at hr
      exact Ev.step (fun k => api_Point_70_at_59.l0.eq_2 ..) (evp h1 (evp h0 (evp h1 (evb (evc (fun _ => rfl) (show profile_Check_2.f (rd_T46 l i).f0 (rd_T46 l i).f1 = some ((rd_T46 l i).f1 == 0) from rfl)) (evn (by simpa using hq) hr)))))) 0 (by omega) (by omega)
  refine ⟨decide (r ≥ 0), evb hr (Ev.now _), ?_⟩
  rw [decide_eq_true_eq]
  rcases h with ⟨a, _, c, d, _⟩ | ⟨a, b⟩
  · exact ⟨fun _ q => q r a c d, fun _ => a⟩
  · exact ⟨fun q => by omega, fun q => absurd (fun j h0 h1 => b j h0 h1) q⟩
theorem nbs_drop {l : List S46} {i : Int} (h0 : 1 ≤ i) (h1 : i < (l.length : Int)) : (nbs l).drop (i - 1).toNat = (rd_T46 l (i - 1), rd_T46 l i) :: (nbs l).drop i.toNat := by
  have h : (i - 1).toNat < (nbs l).length := by rw [nbs_len]; omega
  rw [List.drop_eq_getElem_cons h, show (i - 1).toNat + 1 = i.toNat from by omega]
  congr 1
  have g : (nbs l)[(i - 1).toNat]? = some (rd_T46 l (i - 1), rd_T46 l i) := by
    unfold nbs
    rw [List.getElem?_zip_eq_some]
    constructor
    · unfold rd_T46
      rw [List.getD_eq_getElem?_getD, List.getElem?_eq_getElem (show (i - 1).toNat < l.length by omega)]
      rfl
    · unfold rd_T46
      show l.tail[(i - 1).toNat]? = some (l.getD i.toNat z46)
      rw [List.getElem?_tail, List.getD_eq_getElem?_getD, show (i - 1).toNat + 1 = i.toNat from by omega, List.getElem?_eq_getElem (show i.toNat < l.length by omega)]
      rfl
  exact Option.some.inj ((List.getElem?_eq_getElem h).symm.trans g)
theorem nbs_end (l : List S46) {i : Int} (h : (l.length : Int) ≤ i) : (nbs l).drop (i - 1).toNat = [] := List.drop_eq_nil_of_le (by rw [nbs_len]; omega)
theorem falls_or : ∀ t l, profile_Check.falls t l = 0 ∨ profile_Check.falls t l = 10
  | _, [] => .inl rfl
  | t, x :: r => by
    unfold profile_Check.falls
    split
    · exact .inr rfl
    · exact falls_or _ r
theorem ref_falls (l : List S46) (hl : (l.length : Int) ≤ 9223372036854775807) : ∀ i, 1 ≤ i → ∀ t, (i ≤ (l.length : Int) ∨ l.length = 0) → Ev (fun k => spileref08_Check.l3 k l t i) (profile_Check.falls t ((nbs l).drop (i - 1).toNat)) := by
  intro i h0 t hi
  by_cases c : i ≤ (l.length : Int)
  case neg =>
    rw [nbs_end l (by omega)]
    exact Ev.step (fun k => spileref08_Check.l3.eq_2 ..) (evn (by omega) (Ev.now _))
  refine count_up 1 (l.length : Int) (fun i => ∀ t, Ev (fun k => spileref08_Check.l3 k l t i) (profile_Check.falls t ((nbs l).drop (i - 1).toNat))) ?_ ?_ i h0 c t
  · intro t
    rw [nbs_end l (Int.le_refl _)]
    exact Ev.step (fun k => spileref08_Check.l3.eq_2 ..) (evn (by omega) (Ev.now _))
  · intro i h0 h1 ih t
    have w0 : wrap64 (i - 1) = i - 1 := w64 (by omega) (by omega)
    have w1 : wrap64 (i + 1) = i + 1 := w64 (by omega) (by omega)
    rw [nbs_drop h0 h1]
    unfold profile_Check.falls
    rw [show i + 1 - 1 = i from by omega] at ih
    refine Ev.step (fun k => spileref08_Check.l3.eq_2 ..) (evp h1 ?_)
    rw [w0, w1]
    cases t with
    | true =>
      refine evp rfl (evp (by omega) (evp (by omega) (evp (by omega) ?_)))
      by_cases q : (rd_T46 l i).f1 > (rd_T46 l (i - 1)).f1
      · rw [if_pos ⟨rfl, q⟩]
        exact evp q (Ev.now _)
      · rw [if_neg (fun z => q z.2)]
        exact evn q (by simpa using ih true)
    | false =>
      rw [if_neg (fun z => by cases z.1)]
      exact evn (by decide) (evp (by omega) (evp (by omega) (evp (by omega) (by simpa using ih (decide ((rd_T46 l i).f1 < (rd_T46 l (i - 1)).f1))))))
theorem ref_zero (l : List S46) (hl : (l.length : Int) ≤ 9223372036854775807) (r3 : Int) (h3 : Ev (fun k => spileref08_Check.l3 k l false 1) r3) : ∀ i, 0 ≤ i → i ≤ (l.length : Int) → ∃ e, Ev (fun k => spileref08_Check.l2 k l i) e ∧ ((∀ j, i ≤ j → j < (l.length : Int) → (rd_T46 l j).f1 ≠ 0) → e = r3) ∧ (¬ (∀ j, i ≤ j → j < (l.length : Int) → (rd_T46 l j).f1 ≠ 0) → e = 16) := by
  refine count_up 0 (l.length : Int) _ ?_ ?_
  · exact ⟨r3, Ev.step (fun k => spileref08_Check.l2.eq_2 ..) (evn (by omega) h3), fun _ => rfl, fun h => absurd (fun j a b => by omega) h⟩
  · intro i h0 h1 ih
    by_cases c : (rd_T46 l i).f1 = 0
    · exact ⟨16, Ev.step (fun k => spileref08_Check.l2.eq_2 ..) (evp h1 (evp h0 (evp c (Ev.now _)))), fun h => absurd c (h i (Int.le_refl _) h1), fun _ => rfl⟩
    · obtain ⟨e, he, a, b⟩ := ih
      rw [← w64_succ h0 h1 hl] at he
      refine ⟨e, Ev.step (fun k => spileref08_Check.l2.eq_2 ..) (evp h1 (evp h0 (evn c he))), fun h => a (fun j x y => h j (by omega) y), fun h => b (fun z => h (fun j x y => ?_))⟩
      by_cases q : j = i
      · rw [q]; exact c
      · exact z j (by omega) y
theorem ref_steps (l : List S46) (hl : (l.length : Int) ≤ 9223372036854775807) (r2 : Int) (h2 : Ev (fun k => spileref08_Check.l2 k l 0) r2) : ∀ i, 1 ≤ i → i ≤ (l.length : Int) → Ev (fun k => spileref08_Check.l1 k l i) (if profile_Check.steps ((nbs l).drop (i - 1).toNat) = 0 then r2 else 5) := by
  refine count_up 1 (l.length : Int) _ ?_ ?_
  · rw [nbs_end l (Int.le_refl _)]
    exact Ev.step (fun k => spileref08_Check.l1.eq_2 ..) (evn (by omega) h2)
  · intro i h0 h1 ih
    have w0 : wrap64 (i - 1) = i - 1 := w64 (by omega) (by omega)
    have w1 : wrap64 (i + 1) = i + 1 := w64 (by omega) (by omega)
    rw [show i + 1 - 1 = i from by omega] at ih
    rw [nbs_drop h0 h1]
    unfold profile_Check.steps
    refine Ev.step (fun k => spileref08_Check.l1.eq_2 ..) (evp h1 ?_)
    rw [w0, w1]
    refine evn (by omega) (evp (by omega) (evp (by omega) (evp (by omega) (evp (by omega) ?_))))
    by_cases q : (rd_T46 l (i - 1)).f0 ≥ (rd_T46 l i).f0
    · rw [if_pos q, if_neg (by decide)]
      exact evp q (Ev.now _)
    · rw [if_neg q]
      exact evn q ih
theorem ref_all (l : List S46) (hl : (l.length : Int) ≤ 9223372036854775807) (r1 : Int) (h1 : Ev (fun k => spileref08_Check.l1 k l 0) r1) : ∀ i, 0 ≤ i → i ≤ (l.length : Int) → ∃ e, Ev (fun k => spileref08_Check.l0 k l i) e ∧ ((∀ j, i ≤ j → j < (l.length : Int) → PtP (rd_T46 l j)) → e = r1) ∧ (¬ (∀ j, i ≤ j → j < (l.length : Int) → PtP (rd_T46 l j)) → e = 2) := by
  refine count_up 0 (l.length : Int) _ ?_ ?_
  · exact ⟨r1, Ev.step (fun k => spileref08_Check.l0.eq_2 ..) (evn (by omega) h1), fun _ => rfl, fun h => absurd (fun j a b => by omega) h⟩
  · intro i h0 h1 ih
    by_cases c : LenP (rd_T46 l i).f0
    · by_cases d : LenP (rd_T46 l i).f1
      · obtain ⟨e, he, a, b⟩ := ih
        rw [← w64_succ h0 h1 hl] at he
        refine ⟨e, Ev.step (fun k => spileref08_Check.l0.eq_2 ..) (evp h1 (evp h0 (evb (evc (fun _ => rfl) (isLength_f _)) (evp (decide_eq_true c) (evb (evc (fun _ => rfl) (isLength_f _)) (evp (decide_eq_true d) he)))))), fun h => a (fun j x y => h j (by omega) y), fun h => b (fun z => h (fun j x y => ?_))⟩
        by_cases q : j = i
        · rw [q]; exact ⟨c, d⟩
        · exact z j (by omega) y
      · exact ⟨2, Ev.step (fun k => spileref08_Check.l0.eq_2 ..) (evp h1 (evp h0 (evb (evc (fun _ => rfl) (isLength_f _)) (evp (decide_eq_true c) (evb (evc (fun _ => rfl) (isLength_f _)) (evn (by simp [d]) (Ev.now _))))))), fun h => absurd (h i (Int.le_refl _) h1).2 d, fun _ => rfl⟩
    · exact ⟨2, Ev.step (fun k => spileref08_Check.l0.eq_2 ..) (evp h1 (evp h0 (evb (evc (fun _ => rfl) (isLength_f _)) (evn (by simp [c]) (Ev.now _))))), fun h => absurd (h i (Int.le_refl _) h1).1 c, fun _ => rfl⟩
def OKP (l : List S46) : Prop := 2 ≤ (l.length : Int) ∧ (l.length : Int) ≤ 32 ∧ AllP l ∧ (rd_T46 l 0).f0 = 0 ∧ profile_Check.steps (nbs l) = 0 ∧ NonZ l ∧ profile_Check.falls false (nbs l) = 0
theorem prof_both (l : List S46) (hl : (l.length : Int) ≤ 9223372036854775807) : ∃ e, Ev (fun k => profile_Check.f k l) e ∧ Ev (fun k => spileref08_Check.f k l) e ∧ (e = 0 ↔ OKP l) ∧ e ≠ 3 := by
  by_cases c1 : (l.length : Int) < 2
  · exact ⟨9, evp c1 (Ev.now _), evp c1 (Ev.now _), ⟨fun h => absurd h (by decide), fun h => by have := h.1; omega⟩, by decide⟩
  by_cases c2 : (l.length : Int) > 32
  · exact ⟨8, evn c1 (evp c2 (Ev.now _)), evn c1 (evp c2 (Ev.now _)), ⟨fun h => absurd h (by decide), fun h => by have := h.2.1; omega⟩, by decide⟩
  obtain ⟨b1, hb1, hi1⟩ := contains56 l hl
  obtain ⟨b2, hb2, hi2⟩ := contains59 l hl
  have h3 := ref_falls l hl 1 (by omega) false (.inl (by omega))
  rw [show ((1 : Int) - 1).toNat = 0 from rfl, List.drop_zero] at h3
  obtain ⟨r2, h2, a2, z2⟩ := ref_zero l hl _ h3 0 (by omega) (by omega)
  have h1 := ref_steps l hl r2 h2 1 (by omega) (by omega)
  rw [show ((1 : Int) - 1).toNat = 0 from rfl, List.drop_zero] at h1
  have h10 : Ev (fun k => spileref08_Check.l1 k l 0) (if (rd_T46 l 0).f0 = 0 then (if profile_Check.steps (nbs l) = 0 then r2 else 5) else 5) := by
    refine Ev.step (fun k => spileref08_Check.l1.eq_2 ..) (evp (by omega) (evp rfl (evp (by omega) ?_)))
    by_cases q : (rd_T46 l 0).f0 = 0
    · rw [if_pos q]
      exact evp q (evn (by omega) (by rw [show wrap64 ((0 : Int) + 1) = 1 from w64 (by omega) (by omega)]; exact h1))
    · rw [if_neg q]
      exact evn q (Ev.now _)
  obtain ⟨e, he, ea, ez⟩ := ref_all l hl _ h10 0 (by omega) (by omega)
  have hE2 : Ev (fun k => spileref08_Check.f k l) e := evn c1 (evn c2 he)
  by_cases ha : AllP l
  case neg =>
    obtain rfl := ez ha
    exact ⟨2, evn c1 (evn c2 (evb hb1 (evp (hi1.2 ha) (Ev.now _)))), hE2, ⟨fun h => absurd h (by decide), fun h => absurd h.2.2.1 ha⟩, by decide⟩
  have hb1f : ¬ b1 = true := fun q => hi1.1 q ha
  have he1 := ea ha
  by_cases h0 : (rd_T46 l 0).f0 = 0
  case neg =>
    rw [if_neg h0] at he1
    subst he1
    exact ⟨5, evn c1 (evn c2 (evb hb1 (evn hb1f (evn h0 (Ev.now _))))), hE2, ⟨fun h => absurd h (by decide), fun h => absurd h.2.2.2.1 h0⟩, by decide⟩
  rw [if_pos h0] at he1
  by_cases hs : profile_Check.steps (nbs l) = 0
  case neg =>
    rw [if_neg hs] at he1
    subst he1
    exact ⟨5, evn c1 (evn c2 (evb hb1 (evn hb1f (evp h0 (evn hs (Ev.now _)))))), hE2, ⟨fun h => absurd h (by decide), fun h => absurd h.2.2.2.2.1 hs⟩, by decide⟩
  rw [if_pos hs] at he1
  by_cases hz : NonZ l
  case neg =>
    have := z2 hz
    subst he1
    subst this
    exact ⟨16, evn c1 (evn c2 (evb hb1 (evn hb1f (evp h0 (evp hs (evb hb2 (evp (hi2.2 hz) (Ev.now _)))))))), hE2, ⟨fun h => absurd h (by decide), fun h => absurd h.2.2.2.2.2.1 hz⟩, by decide⟩
  have := a2 hz
  subst he1
  subst this
  refine ⟨_, evn c1 (evn c2 (evb hb1 (evn hb1f (evp h0 (evp hs (evb hb2 (evn (fun q => hi2.1 q hz) (Ev.now _)))))))), hE2, ⟨fun h => ⟨by omega, by omega, ha, h0, hs, hz, h⟩, fun h => h.2.2.2.2.2.2⟩, ?_⟩
  rcases falls_or false (nbs l) with q | q <;> rw [q] <;> decide
def OKC (x : S27) : Prop := NameP x.f0 ∧ (x.f1 = 1 ∨ x.f1 = 2) ∧ 0 ≤ x.f3 ∧ x.f3 ≤ 1073741824 ∧ OKP x.f2
/-- Of sizes that a machine can have. -/
def Sm (x : S27) : Prop := x.f0.size < 4294967296 ∧ x.f2.length < 4294967296
theorem check_both (x : S27) (hx : Sm x) : ∃ e, Ev (fun k => cask_Check.f k x.f0 x.f1 x.f2 x.f3) e ∧ Ev (fun k => spileref09_Check.f k x.f0 x.f1 x.f2 x.f3) e ∧ (e = 0 ↔ OKC x) ∧ e ≠ 3 := by
  obtain ⟨b, n1, n2, n3⟩ := name_both x.f0 (by have := hx.1; omega)
  obtain ⟨e, p1, p2, p3, p4⟩ := prof_both x.f2 (by have := hx.2; omega)
  cases b with
  | false =>
    exact ⟨4, evb n1 (evn (by decide) (Ev.now _)), evb n2 (evn (by decide) (Ev.now _)), ⟨fun h => absurd h (by decide), fun h => absurd (n3.2 h.1) (by decide)⟩, by decide⟩
  | true =>
    have hn := n3.1 rfl
    have fin : (x.f1 = 1 ∨ x.f1 = 2) → ∃ e, Ev (fun k => cask_Check.j0 k false x.f0 x.f1 x.f2 x.f3) e ∧ Ev (fun k => if x.f3 < 0 then some 2 else if x.f3 > 1073741824 then some 2 else (spileref08_Check.f k x.f2).bind fun t => some t) e ∧ (e = 0 ↔ OKC x) ∧ e ≠ 3 := by
      intro hpos
      by_cases d1 : x.f3 < 0
      · exact ⟨2, Ev.step (fun k => cask_Check.j0.eq_2 ..) (evn (by decide) (evp d1 (Ev.now _))), evp d1 (Ev.now _), ⟨fun h => absurd h (by decide), fun h => by have := h.2.2.1; omega⟩, by decide⟩
      by_cases d2 : x.f3 > 1073741824
      · exact ⟨2, Ev.step (fun k => cask_Check.j0.eq_2 ..) (evn (by decide) (evn d1 (evp d2 (Ev.now _)))), evn d1 (evp d2 (Ev.now _)), ⟨fun h => absurd h (by decide), fun h => by have := h.2.2.2.1; omega⟩, by decide⟩
      exact ⟨e, Ev.step (fun k => cask_Check.j0.eq_2 ..) (evn (by decide) (evn d1 (evn d2 (evb p1 (Ev.now _))))), evn d1 (evn d2 (evb p2 (Ev.now _))), p3.trans ⟨fun h => ⟨hn, hpos, by omega, by omega, h⟩, fun h => h.2.2.2.2⟩, p4⟩
    by_cases c1 : x.f1 = 1
    · obtain ⟨e, a, b, c, d⟩ := fin (.inl c1)
      exact ⟨e, evb n1 (evp rfl (evp c1 a)), evb n2 (evp rfl (evp c1 b)), c, d⟩
    · by_cases c2 : x.f1 = 2
      · obtain ⟨e, a, b, c, d⟩ := fin (.inr c2)
        exact ⟨e, evb n1 (evp rfl (evn c1 (by rw [show (x.f1 != 2) = false from by simp [c2]]; exact a))), evb n2 (evp rfl (evn c1 (evp c2 b))), c, d⟩
      · refine ⟨2, evb n1 (evp rfl (evn c1 (Ev.step (fun k => cask_Check.j0.eq_2 ..) (evp (by simp [c2]) (Ev.now _))))), evb n2 (evp rfl (evn c1 (evn c2 (Ev.now _)))), ⟨fun h => absurd h (by decide), fun h => ?_⟩, by decide⟩
        rcases h.2.1 with q | q
        · exact absurd q c1
        · exact absurd q c2
def SmL (l : List S27) : Prop := l.length < 4294967296 ∧ ∀ x, x ∈ l → Sm x
theorem rd27_mem {l : List S27} {i : Int} (h0 : 0 ≤ i) (h : i < (l.length : Int)) : rd_T27 l i ∈ l := by
  unfold rd_T27
  rw [List.getD_eq_getElem?_getD, List.getElem?_eq_getElem (by omega)]
  exact List.getElem_mem _
theorem drop27 {l : List S27} {i : Int} (h0 : 0 ≤ i) (h1 : i < (l.length : Int)) : l.drop i.toNat = rd_T27 l i :: l.drop (i + 1).toNat := by
  have hl : i.toNat < l.length := by omega
  have g : rd_T27 l i = l[i.toNat] := by
    unfold rd_T27
    simp [List.getD_eq_getElem?_getD, List.getElem?_eq_getElem hl]
  rw [g, show (i + 1).toNat = i.toNat + 1 from by omega, ← List.drop_eq_getElem_cons hl]
def nm (x : S27) : List UInt8 := x.f0.data.toList
/-- No name from i on stands ahead of itself. -/
def NoDup (l : List S27) (i : Int) : Prop := ∀ j, i ≤ j → j < (l.length : Int) → ∀ m, 0 ≤ m → m < j → nm (rd_T27 l j) ≠ nm (rd_T27 l m)
theorem tw_ev (l : List S27) (hl : SmL l) : ∀ i, 0 ≤ i → i ≤ (l.length : Int) → ∀ s, (∀ x, x ∈ s ↔ ∃ m, 0 ≤ m ∧ m < i ∧ nm (rd_T27 l m) = x) →
    ∃ e, cask_List.tw s (l.drop i.toNat) = some e ∧ (NoDup l i → e = 0) ∧ (¬ NoDup l i → e = 6) := by
  refine count_up 0 (l.length : Int) _ ?_ ?_
  · intro s hs
    rw [List.drop_eq_nil_of_le (by omega)]
    exact ⟨0, rfl, fun _ => rfl, fun h => absurd (fun j a b => by omega) h⟩
  · intro i h0 h1 ih s hs
    rw [drop27 h0 h1]
    unfold cask_List.tw
    rw [if_pos (hl.2 _ (rd27_mem h0 h1)).1]
    by_cases c : (rd_T27 l i).f0.data.toList ∈ s
    · refine ⟨6, by rw [if_pos c], fun h => ?_, fun _ => rfl⟩
      obtain ⟨m, m0, m1, m2⟩ := (hs _).1 c
      exact absurd m2.symm (h i (Int.le_refl _) h1 m m0 m1)
    · obtain ⟨e, e1, e2, e3⟩ := ih ((rd_T27 l i).f0.data.toList :: s) (fun x => by
        rw [List.mem_cons, hs]
        constructor
        · rintro (q | ⟨m, m0, m1, m2⟩)
          · exact ⟨i, h0, by omega, q.symm⟩
          · exact ⟨m, m0, by omega, m2⟩
        · rintro ⟨m, m0, m1, m2⟩
          by_cases q : m = i
          · subst q; exact .inl m2.symm
          · exact .inr ⟨m, m0, by omega, m2⟩)
      refine ⟨e, by rw [if_neg c]; exact e1, fun h => e2 (fun j a b => h j (by omega) b), fun h => e3 (fun z => h (fun j a b m m0 m1 => ?_))⟩
      by_cases q : j = i
      · subst q
        exact fun z2 => c ((hs _).2 ⟨m, m0, m1, z2.symm⟩)
      · exact z j (by omega) b m m0 m1
theorem toL (s : ByteArray) : s.toList = s.data.toList := Lib.toList_data s
theorem ref_dup (l : List S27) (hl : SmL l) : ∀ i, 0 ≤ i → i ≤ (l.length : Int) → ∃ e, Ev (fun k => spileref09_List.l1 k l i) e ∧ (NoDup l i → e = 0) ∧ (¬ NoDup l i → e = 6) := by
  have hz := hl.1
  refine count_up 0 (l.length : Int) _ ?_ ?_
  · exact ⟨0, Ev.step (fun k => spileref09_List.l1.eq_2 ..) (evn (by omega) (Ev.now _)), fun _ => rfl, fun h => absurd (fun j a b => by omega) h⟩
  · intro i h0 h1 ⟨e, e1, e2, e3⟩
    rw [← w64_succ h0 h1 (by omega)] at e1
    have key : ∀ m, 0 ≤ m → m ≤ i → ∃ e', Ev (fun k => spileref09_List.l2 k l i m) e' ∧ ((∀ q, m ≤ q → q < i → nm (rd_T27 l i) ≠ nm (rd_T27 l q)) → e' = e) ∧ (¬ (∀ q, m ≤ q → q < i → nm (rd_T27 l i) ≠ nm (rd_T27 l q)) → e' = 6) := by
      refine count_up 0 i _ ?_ ?_
      · exact ⟨e, Ev.step (fun k => spileref09_List.l2.eq_2 ..) (evn (by omega) e1), fun _ => rfl, fun h => absurd (fun q a b => by omega) h⟩
      · intro m m0 m1 ⟨f, f1, f2, f3⟩
        by_cases c : ((rd_T27 l i).f0).toList = ((rd_T27 l m).f0).toList
        · exact ⟨6, Ev.step (fun k => spileref09_List.l2.eq_2 ..) (evp m1 (evp h0 (evp h1 (evp m0 (evp (by omega) (evp c (Ev.now _))))))), fun h => absurd (by rw [toL, toL] at c; exact c) (h m (Int.le_refl _) m1), fun _ => rfl⟩
        · rw [← w64_succ m0 m1 (by omega)] at f1
          refine ⟨f, Ev.step (fun k => spileref09_List.l2.eq_2 ..) (evp m1 (evp h0 (evp h1 (evp m0 (evp (by omega) (evn c f1)))))), fun h => f2 (fun q a b => h q (by omega) b), fun h => f3 (fun z => h (fun q a b => ?_))⟩
          by_cases qe : q = m
          · subst qe
            exact fun z2 => c (by rw [toL, toL]; exact z2)
          · exact z q (by omega) b
    obtain ⟨f, f1, f2, f3⟩ := key 0 (by omega) h0
    refine ⟨f, Ev.step (fun k => spileref09_List.l1.eq_2 ..) (evp h1 f1), fun h => ?_, fun h => ?_⟩
    · rw [f2 (fun q a b => h i (Int.le_refl _) h1 q a b)]
      exact e2 (fun j a b => h j (by omega) b)
    · by_cases z : ∀ q, 0 ≤ q → q < i → nm (rd_T27 l i) ≠ nm (rd_T27 l q)
      · rw [f2 z]
        refine e3 (fun y => h (fun j a b m m0 m1 => ?_))
        by_cases q : j = i
        · subst q; exact z m m0 m1
        · exact y j (by omega) b m m0 m1
      · exact f3 z
def OKL (l : List S27) : Prop := (l.length : Int) ≤ 32 ∧ (∀ x, x ∈ l → OKC x) ∧ NoDup l 0
theorem ck_both (l : List S27) (hl : SmL l) (r1 : Int) (h1 : Ev (fun k => spileref09_List.l1 k l 0) r1) : ∀ i, 0 ≤ i → i ≤ (l.length : Int) → ∃ e f, Ev (fun k => cask_List.ck k (l.drop i.toNat)) e ∧ Ev (fun k => spileref09_List.l0 k l i) f ∧ e ≠ 3 ∧
    ((∀ x, x ∈ l.drop i.toNat → OKC x) → e = 0 ∧ f = r1) ∧ (¬ (∀ x, x ∈ l.drop i.toNat → OKC x) → e ≠ 0 ∧ f = e) := by
  have hz := hl.1
  refine count_up 0 (l.length : Int) _ ?_ ?_
  · rw [List.drop_eq_nil_of_le (by omega)]
    exact ⟨0, r1, evr rfl, Ev.step (fun k => spileref09_List.l0.eq_2 ..) (evn (by omega) h1), by decide, fun _ => ⟨rfl, rfl⟩, fun h => absurd (fun x hx => by cases hx) h⟩
  · intro i h0 h1 ⟨e, f, e1, f1, e3, a, b⟩
    obtain ⟨c, c1, c2, c3, c4⟩ := check_both (rd_T27 l i) (hl.2 _ (rd27_mem h0 h1))
    rw [← w64_succ h0 h1 (by omega)] at f1
    rw [drop27 h0 h1]
    by_cases z : c = 0
    · have hok := c3.1 z
      refine ⟨e, f, evb c1 (evp z e1), Ev.step (fun k => spileref09_List.l0.eq_2 ..) (evp h1 (evp h0 (evb c2 (evp z f1)))), e3, fun h => a (fun x hx => h x (List.mem_cons_of_mem _ hx)), fun h => b (fun y => h (fun x hx => ?_))⟩
      rcases List.mem_cons.1 hx with q | q
      · rw [q]; exact hok
      · exact y x q
    · exact ⟨c, c, evb c1 (evn z (Ev.now _)), Ev.step (fun k => spileref09_List.l0.eq_2 ..) (evp h1 (evp h0 (evb c2 (evn z (Ev.now _))))), c4, fun h => absurd (c3.2 (h _ (List.mem_cons_self ..))) z, fun _ => ⟨z, rfl⟩⟩
theorem list_both (l : List S27) (hl : SmL l) : ∃ e, Ev (fun k => cask_List.f k l) e ∧ Ev (fun k => spileref09_List.f k l) e ∧ (e = 0 ↔ OKL l) ∧ e ≠ 3 := by
  by_cases c : (l.length : Int) > 32
  · exact ⟨8, evp c (Ev.now _), evp c (Ev.now _), ⟨fun h => absurd h (by decide), fun h => by have := h.1; omega⟩, by decide⟩
  obtain ⟨t, t1, t2, t3⟩ := tw_ev l hl 0 (by omega) (by omega) [] (fun x => ⟨fun h => (by cases h), fun ⟨m, a, b, _⟩ => (by omega)⟩)
  obtain ⟨d, d1, d2, d3⟩ := ref_dup l hl 0 (by omega) (by omega)
  obtain ⟨e, f, e1, f1, e3, a, b⟩ := ck_both l hl d d1 0 (by omega) (by omega)
  rw [show (0 : Int).toNat = 0 from rfl, List.drop_zero] at t1 e1 a b
  have htd : t = d ∧ (t = 0 ↔ NoDup l 0) ∧ t ≠ 3 := by
    by_cases q : NoDup l 0
    · rw [t2 q, d2 q]; exact ⟨rfl, ⟨fun _ => q, fun _ => rfl⟩, by decide⟩
    · rw [t3 q, d3 q]; exact ⟨rfl, ⟨fun h => absurd h (by decide), fun h => absurd h q⟩, by decide⟩
  by_cases ok : ∀ x, x ∈ l → OKC x
  · obtain ⟨rfl, rfl⟩ := a ok
    refine ⟨t, evn c (evb e1 (evp rfl (evc (fun _ => rfl) t1))), evn c (by rw [htd.1]; exact f1), htd.2.1.trans ⟨fun h => ⟨by omega, ok, h⟩, fun h => h.2.2⟩, htd.2.2⟩
  · obtain ⟨z, rfl⟩ := b ok
    exact ⟨f, evn c (evb e1 (evn z (Ev.now _))), evn c f1, ⟨fun h => absurd h z, fun h => absurd h.2.1 ok⟩, e3⟩
end Go.Proofs.YtnhmlneebnkjcaaDoor.PL
namespace Go.Proofs.YtnhmlneebnkjcaaDoor.PL
open Go Go.RowKit Go.Proofs.YtnhmlneebnkjcaaDoorW.PrintWords Go.Proofs.YtnhmlneebnkjcaaDoorW.PrintLast Go.Proofs.YtnhmlneebnkjcaaDoorW.PrintMore Go.Proofs.YtnhmlneebnkjcaaDoor.Pr Go.Proofs.YtnhmlneebnkjcaaDoor.X
def FewP (l : List S27) : Prop := (l.length : Int) ≤ 33 ∧ ∀ x, x ∈ l → x.f2.length ≤ 33 ∧ x.f0.size ≤ 70
theorem FewP.sm {l : List S27} (h : FewP l) : SmL l := ⟨by have := h.1; omega, fun x hx => ⟨by have := (h.2 x hx).2; omega, by have := (h.2 x hx).1; omega⟩⟩
theorem toList_inj {a b : ByteArray} (h : a.toList = b.toList) : a = b := by
  rw [toL, toL] at h
  rw [← ba_data a, h, ba_data]
theorem ext46 {a b : List S46} (h : a.length = b.length) (e : ∀ i, 0 ≤ i → i < (a.length : Int) → rd_T46 a i = rd_T46 b i) : a = b := by
  refine List.ext_getElem h fun i h1 h2 => ?_
  have := e (i : Int) (by omega) (by omega)
  unfold rd_T46 at this
  rw [Int.toNat_natCast, List.getD_eq_getElem?_getD, List.getD_eq_getElem?_getD, List.getElem?_eq_getElem h1, List.getElem?_eq_getElem h2] at this
  exact this
theorem ext27 {a b : List S27} (h : a.length = b.length) (e : ∀ i, 0 ≤ i → i < (a.length : Int) → rd_T27 a i = rd_T27 b i) : a = b := by
  refine List.ext_getElem h fun i h1 h2 => ?_
  have := e (i : Int) (by omega) (by omega)
  unfold rd_T27 at this
  rw [Int.toNat_natCast, List.getD_eq_getElem?_getD, List.getD_eq_getElem?_getD, List.getElem?_eq_getElem h1, List.getElem?_eq_getElem h2] at this
  exact this
theorem same46_ev (a b : List S46) (ha : (a.length : Int) ≤ 9223372036854775807) : EvB (fun k => spileref08_Same.f k a b) (a = b) := by
  by_cases c : (a.length : Int) = (b.length : Int)
  case neg => exact ⟨fun h => absurd (by rw [h]) c, fun _ => evn c (Ev.now _)⟩
  have L := evB_all 0 (a.length : Int) (fun j => rd_T46 a j = rd_T46 b j) (fun i k => spileref08_Same.l0 k a b i)
    (Ev.step (fun k => spileref08_Same.l0.eq_2 ..) (evn (by omega) (Ev.now _)))
    (fun i h0 h1 hq => Ev.step (fun k => spileref08_Same.l0.eq_2 ..) (evp h1 (evp h0 (evp (by omega) (evp (by
      by_cases q : (rd_T46 a i).f0 = (rd_T46 b i).f0
      · have : ¬ (rd_T46 a i).f1 = (rd_T46 b i).f1 := fun z => hq (by cases e : rd_T46 a i; cases e2 : rd_T46 b i; rw [e, e2] at q z; simp_all)
        simp [q, this]
      · simp [q]) (Ev.now _))))))
    (fun i h0 h1 hq r hr => by
      rw [← w64_succ h0 h1 ha] at hr
      exact Ev.step (fun k => spileref08_Same.l0.eq_2 ..) (evp h1 (evp h0 (evp (by omega) (evn (by rw [hq]; simp) hr))))) 0 (by omega) (by omega)
  have L' : EvB (fun k => spileref08_Same.f k a b) (∀ j, 0 ≤ j → j < (a.length : Int) → rd_T46 a j = rd_T46 b j) := ⟨fun h => evp c (L.1 h), fun h => evp c (L.2 h)⟩
  exact L'.iff ⟨fun h => ext46 (by omega) h, fun h => by rw [h]; exact fun _ _ _ => rfl⟩
theorem same27_ev (x y : S27) (hx : (x.f2.length : Int) ≤ 9223372036854775807) : EvB (fun k => spileref09_SameCask.f k x.f0 x.f1 x.f2 x.f3 y.f0 y.f1 y.f2 y.f3) (x = y) := by
  obtain ⟨x0, x1, x2, x3⟩ := x
  obtain ⟨y0, y1, y2, y3⟩ := y
  have h2 := same46_ev x2 y2 hx
  refine ⟨fun h => ?_, fun h => ?_⟩
  · cases h
    exact evp rfl (evp rfl (evp rfl (evb (h2.1 rfl) (Ev.now _))))
  · by_cases c0 : x0.toList = y0.toList
    · by_cases c1 : x1 = y1
      · by_cases c3 : x3 = y3
        · exact evp c0 (evp c1 (evp c3 (evb (h2.2 (fun c2 => h (by rw [toList_inj c0, c1, c2, c3]))) (Ev.now _))))
        · exact evp c0 (evp c1 (evn c3 (Ev.now _)))
      · exact evp c0 (evn c1 (Ev.now _))
    · exact evn c0 (Ev.now _)
theorem same_ev (a b : List S27) (ha : SmL a) : EvB (fun k => spileref09_Same.f k a b) (a = b) := by
  have hz := ha.1
  by_cases c : (a.length : Int) = (b.length : Int)
  case neg => exact ⟨fun h => absurd (by rw [h]) c, fun _ => evn c (Ev.now _)⟩
  have hx : ∀ i, 0 ≤ i → i < (a.length : Int) → (((rd_T27 a i).f2.length : Nat) : Int) ≤ 9223372036854775807 := fun i h0 h1 => by have := (ha.2 _ (rd27_mem h0 h1)).2; omega
  have L := evB_all 0 (a.length : Int) (fun j => rd_T27 a j = rd_T27 b j) (fun i k => spileref09_Same.l0 k a b i)
    (Ev.step (fun k => spileref09_Same.l0.eq_2 ..) (evn (by omega) (Ev.now _)))
    (fun i h0 h1 hq => Ev.step (fun k => spileref09_Same.l0.eq_2 ..) (evp h1 (evp h0 (evp (by omega) (evb ((same27_ev _ _ (hx i h0 h1)).2 hq) (evn (by decide) (Ev.now _)))))))
    (fun i h0 h1 hq r hr => by
      rw [← w64_succ h0 h1 (by omega)] at hr
      exact Ev.step (fun k => spileref09_Same.l0.eq_2 ..) (evp h1 (evp h0 (evp (by omega) (evb ((same27_ev _ _ (hx i h0 h1)).1 hq) (evp rfl hr)))))) 0 (by omega) (by omega)
  have L' : EvB (fun k => spileref09_Same.f k a b) (∀ j, 0 ≤ j → j < (a.length : Int) → rd_T27 a j = rd_T27 b j) := ⟨fun h => evp c (L.1 h), fun h => evp c (L.2 h)⟩
  exact L'.iff ⟨fun h => ext27 (by omega) h, fun h => by rw [h]; exact fun _ _ _ => rfl⟩
def IsMax (v : Int) (l : List S46) : Prop := (∃ j, 0 ≤ j ∧ j < (l.length : Int) ∧ (rd_T46 l j).f1 = v) ∧ ∀ j, 0 ≤ j → j < (l.length : Int) → (rd_T46 l j).f1 ≤ v
theorem IsMax.uniq {u v : Int} {l : List S46} (h : IsMax u l) (h2 : IsMax v l) : u = v := by
  obtain ⟨⟨i, i0, i1, i2⟩, a⟩ := h
  obtain ⟨⟨j, j0, j1, j2⟩, b⟩ := h2
  have := a j j0 j1
  have := b i i0 i1
  omega
end Go.Proofs.YtnhmlneebnkjcaaDoor.PL
namespace Go.Proofs.YtnhmlneebnkjcaaDoor.PL
open Go Go.RowKit Go.Proofs.YtnhmlneebnkjcaaDoorW.PrintWords Go.Proofs.YtnhmlneebnkjcaaDoorW.PrintLast Go.Proofs.YtnhmlneebnkjcaaDoorW.PrintMore Go.Proofs.YtnhmlneebnkjcaaDoor.Pr Go.Proofs.YtnhmlneebnkjcaaDoor.TX Go.Proofs.YtnhmlneebnkjcaaDoor.X
theorem lin_len : ∀ (t p : List UInt8), (lin p t).1.length ≤ t.length + 1
  | [], p => by unfold lin; split <;> simp
  | b :: r, p => by
    rw [lin_cons]
    by_cases c : b = 10
    · rw [if_pos c]; have := lin_len r []; simp; omega
    · rw [if_neg c]; have := lin_len r (p ++ [b]); simp; omega
theorem lin_nil {s : List UInt8} {e : Bool} (h : lin [] s = ([], e)) : s = [] ∧ e = true := by
  rw [lin_cut] at h
  by_cases c : (cut1 10 s).2.2 = true
  · rw [if_pos c] at h; simp at h
  · rw [if_neg c] at h
    by_cases c2 : ([] : List UInt8) ++ s = []
    · rw [if_pos c2] at h
      exact ⟨by simpa using c2, (congrArg Prod.snd h).symm⟩
    · rw [if_neg c2] at h; simp at h
theorem lin_next {s l : List UInt8} {r : List (List UInt8)} {e : Bool} (h : lin [] s = (l :: r, e)) :
    (cut1 10 s).1 = l ∧ (((cut1 10 s).2.2 = true ∧ lin [] (cut1 10 s).2.1 = (r, e)) ∨ ((cut1 10 s).2.2 = false ∧ (cut1 10 s).2.1 = [] ∧ r = [] ∧ e = false)) ∧ s ≠ [] ∧ l.length ≤ s.length := by
  have hne : s ≠ [] := fun e2 => by rw [e2] at h; simp [lin] at h
  rw [lin_cut] at h
  by_cases c : (cut1 10 s).2.2 = true
  · rw [if_pos c] at h
    simp only [List.nil_append, Prod.mk.injEq, List.cons.injEq] at h
    refine ⟨h.1.1, .inl ⟨c, Prod.ext h.1.2 h.2⟩, hne, ?_⟩
    have := congrArg List.length (cut1_sum 10 s c)
    rw [List.length_append, h.1.1] at this
    omega
  · rw [if_neg c, if_neg (by simpa using hne)] at h
    simp only [List.nil_append, Prod.mk.injEq, List.cons.injEq] at h
    have := cut1_no 10 s (Bool.eq_false_iff.2 c)
    exact ⟨by rw [this.1]; exact h.1.1, .inr ⟨Bool.eq_false_iff.2 c, this.2, h.1.2.symm, h.2.symm⟩, hne, by rw [h.1.1]; exact Nat.le_refl _⟩
section
variable {α : Type}
/-- Line by line: the first line that has no such thing, or no line feed, stops it. -/
def run (lineL : List UInt8 → Option α) (e : Bool) : List (List UInt8) → List α → List α × Option Nat
  | [], out => (out, none)
  | l :: r, out => match lineL l with
    | none => ([], some out.length)
    | some x => if r = [] ∧ e = false then ([], some out.length) else run lineL e r (out ++ [x])
end
end Go.Proofs.YtnhmlneebnkjcaaDoor.PL
namespace Go.Proofs.YtnhmlneebnkjcaaDoor.PL
open Go Go.RowKit Go.Proofs.YtnhmlneebnkjcaaDoorW.PrintWords Go.Proofs.YtnhmlneebnkjcaaDoorW.PrintLast Go.Proofs.YtnhmlneebnkjcaaDoorW.PrintMore Go.Proofs.YtnhmlneebnkjcaaDoor.Pr Go.Proofs.YtnhmlneebnkjcaaDoor.TX Go.Proofs.YtnhmlneebnkjcaaDoor.X
theorem num_loop (s : ByteArray) (hs : (s.size : Int) ≤ 18) : ∀ i, 0 ≤ i → i ≤ (s.size : Int) → ∀ n : Nat, n + 1 ≤ 10 ^ i.toNat →
    Ev (fun k => cask_number.l0 k s (n : Int) (s.size : Int) i) (if (s.data.toList.drop i.toNat).all isDig = true then (((valFrom n (s.data.toList.drop i.toNat) : Nat) : Int), true) else (0, false)) := by
  refine count_up 0 (s.size : Int) _ ?_ ?_
  · intro n hn
    rw [drop_end]
    exact Ev.step (fun k => cask_number.l0.eq_2 ..) (evn (by omega) (evr (by rw [if_pos (show ([] : List UInt8).all isDig = true from rfl)]; rfl)))
  · intro i h0 h1 ih n hn
    obtain ⟨b, e1, _, e3⟩ := byte_at s h0 h1
    have hw : wrap64 (i + 1) = i + 1 := w64 (by omega) (by omega)
    refine Ev.step (fun k => cask_number.l0.eq_2 ..) (evp h1 (evp h0 (evp h1 ?_)))
    rw [e3, e1, hw]
    have hp : 10 ^ i.toNat ≤ 10 ^ 17 := Nat.pow_le_pow_right (by decide) (by omega)
    by_cases c1 : (b.toNat : Int) < 48
    · have hd : ¬ isDig b = true := fun h => by have := (isDig_iff b).1 h; omega
      rw [if_neg (by simp [hd])]
      exact evp c1 (Ev.now _)
    · by_cases c2 : (b.toNat : Int) > 57
      · have hd : ¬ isDig b = true := fun h => by have := (isDig_iff b).1 h; omega
        rw [if_neg (by simp [hd])]
        exact evn c1 (evp c2 (Ev.now _))
      · have hd : isDig b = true := (isDig_iff b).2 (by omega)
        have e : wrap64 ((wrap64 (10 * (n : Int))) + (((b.toNat : Int) - 48) % 256)) = ((10 * n + (b.toNat - 48) : Nat) : Int) := by
          rw [w64 (x := 10 * (n : Int)) (by omega) (by omega), w64 (by omega) (by omega)]; omega
        rw [e]
        have q := ih (10 * n + (b.toNat - 48)) (by
          rw [show (i + 1).toNat = i.toNat + 1 from by omega, Nat.pow_succ]; omega)
        have ea : ((b :: s.data.toList.drop (i + 1).toNat).all isDig = true) = ((s.data.toList.drop (i + 1).toNat).all isDig = true) := by
          rw [List.all_cons, hd, Bool.true_and]
        simp only [ea]
        exact evn c1 (evn c2 q)
theorem num_ev (s : ByteArray) : Ev (fun k => cask_number.f k s) (numR 10 s.data.toList) := by
  have hsz := size_data s
  have bad : ¬ (Canon s.data.toList ∧ s.data.toList.length ≤ 10) → numR 10 s.data.toList = (0, false) := fun h => by
    unfold numR numP; rw [if_neg h]
  by_cases c1 : (s.size : Int) < 1
  · rw [bad (fun h => by have := h.1.1; omega)]
    exact evp c1 (Ev.step (fun k => cask_number.j0.eq_2 ..) (evp rfl (Ev.now _)))
  by_cases c2 : (s.size : Int) > 10
  · rw [bad (fun h => by have := h.2; omega)]
    exact evn c1 (evp c2 (Ev.step (fun k => cask_number.j0.eq_2 ..) (evp rfl (Ev.now _))))
  have go : ¬ (1 < s.data.toList.length ∧ s.data.toList.head? = some 48) → Ev (fun k => cask_number.j0 k s false) (numR 10 s.data.toList) := by
    intro hh
    have q := num_loop s (by omega) 0 (by omega) (by omega) 0 (by decide)
    rw [show (0 : Int).toNat = 0 from rfl, List.drop_zero] at q
    refine Ev.step (fun k => cask_number.j0.eq_2 ..) (evn (by simp) ?_)
    by_cases hd : s.data.toList.all isDig = true
    · have hc : Canon s.data.toList ∧ s.data.toList.length ≤ 10 := ⟨⟨by omega, hh, hd⟩, by omega⟩
      rw [if_pos hd] at q
      have e : numR 10 s.data.toList = (((valFrom 0 s.data.toList : Nat) : Int), true) := by unfold numR numP; rw [if_pos hc]
      rw [e]
      exact q
    · rw [if_neg hd] at q
      rw [bad (fun h => hd h.1.2.2)]
      exact q
  by_cases c3 : (s.size : Int) > 1
  · obtain ⟨b, e1, _, e3⟩ := byte_at s (i := 0) (by omega) (by omega)
    rw [show (0 : Int).toNat = 0 from rfl, List.drop_zero] at e1
    refine evn c1 (evn c2 (evp c3 (evp (by omega) ?_)))
    rw [e3]
    by_cases c4 : b = 48
    · have e4 : ((b.toNat : Int) == 48) = true := by rw [beq_iff_eq]; exact (toNat_eq b 48 (by decide)).2 c4
      rw [e4, bad (fun h => h.1.2.1 ⟨by omega, by rw [e1]; simp [c4]⟩)]
      exact Ev.step (fun k => cask_number.j0.eq_2 ..) (evp rfl (Ev.now _))
    · have e4 : ((b.toNat : Int) == 48) = false := by rw [beq_eq_false_iff_ne]; exact fun h => c4 ((toNat_eq b 48 (by decide)).1 h)
      rw [e4]
      exact go (fun h => c4 (by have := h.2; rw [e1] at this; simpa using this))
  · exact evn c1 (evn c2 (evn c3 (go (fun h => by omega))))
theorem rnum_loop (s : ByteArray) (hs : (s.size : Int) ≤ 10) (r : Nat → Int × Bool) (hend : ∀ n : Nat, Ev (fun k => spileref09_Number.l0 k s (n : Int) (s.size : Int)) (r n)) : ∀ i, 0 ≤ i → i ≤ (s.size : Int) → ∀ n : Nat, n + 1 ≤ 10 ^ i.toNat →
    Ev (fun k => spileref09_Number.l0 k s (n : Int) i) (if (s.data.toList.drop i.toNat).all isDig = true then r (valFrom n (s.data.toList.drop i.toNat)) else (0, false)) := by
  refine count_up 0 (s.size : Int) _ ?_ ?_
  · intro n hn
    rw [drop_end, if_pos (show ([] : List UInt8).all isDig = true from rfl)]
    exact hend n
  · intro i h0 h1 ih n hn
    obtain ⟨b, e1, _, e3⟩ := byte_at s h0 h1
    have hw : wrap64 (i + 1) = i + 1 := w64 (by omega) (by omega)
    refine Ev.step (fun k => spileref09_Number.l0.eq_2 ..) (evp h1 (evp h0 ?_))
    rw [e3, e1]
    have hp : 10 ^ i.toNat ≤ 10 ^ 9 := Nat.pow_le_pow_right (by decide) (by omega)
    by_cases c1 : (b.toNat : Int) < 48
    · have hd : ¬ isDig b = true := fun h => by have := (isDig_iff b).1 h; omega
      rw [if_neg (by simp [hd])]
      exact evp c1 (Ev.step (fun k => spileref09_Number.j1.eq_2 ..) (evp rfl (Ev.now _)))
    · by_cases c2 : (b.toNat : Int) > 57
      · have hd : ¬ isDig b = true := fun h => by have := (isDig_iff b).1 h; omega
        rw [if_neg (by simp [hd])]
        exact evn c1 (Ev.step (fun k => spileref09_Number.j1.eq_2 ..) (evp (decide_eq_true c2) (Ev.now _)))
      · have hd : isDig b = true := (isDig_iff b).2 (by omega)
        have e : wrap64 ((wrap64 (10 * (n : Int))) + (((b.toNat : Int) - 48) % 256)) = ((10 * n + (b.toNat - 48) : Nat) : Int) := by
          rw [w64 (x := 10 * (n : Int)) (by omega) (by omega), w64 (by omega) (by omega)]; omega
        have q := ih (10 * n + (b.toNat - 48)) (by
          rw [show (i + 1).toNat = i.toNat + 1 from by omega, Nat.pow_succ]; omega)
        have ea : ((b :: s.data.toList.drop (i + 1).toNat).all isDig = true) = ((s.data.toList.drop (i + 1).toNat).all isDig = true) := by
          rw [List.all_cons, hd, Bool.true_and]
        simp only [ea]
        refine evn c1 (Ev.step (fun k => spileref09_Number.j1.eq_2 ..) (evn (by simpa using c2) (evp (by omega) (evp h0 (evp h1 ?_)))))
        rw [e3, hw, e]
        exact q
theorem rnum_long (s : ByteArray) (hs : (s.size : Int) ≤ 9223372036854775807) (hend : ∀ n : Int, Ev (fun k => spileref09_Number.l0 k s n (s.size : Int)) (n, false)) : ∀ i, 0 ≤ i → i ≤ (s.size : Int) → ∀ n : Int, ∃ v, Ev (fun k => spileref09_Number.l0 k s n i) (v, false) := by
  refine count_up 0 (s.size : Int) _ ?_ ?_
  · exact fun n => ⟨n, hend n⟩
  · intro i h0 h1 ih n
    by_cases c1 : bt s i < 48
    · exact ⟨0, Ev.step (fun k => spileref09_Number.l0.eq_2 ..) (evp h1 (evp h0 (evp c1 (Ev.step (fun k => spileref09_Number.j1.eq_2 ..) (evp rfl (Ev.now _))))))⟩
    · by_cases c2 : bt s i > 57
      · exact ⟨0, Ev.step (fun k => spileref09_Number.l0.eq_2 ..) (evp h1 (evp h0 (evn c1 (Ev.step (fun k => spileref09_Number.j1.eq_2 ..) (evp (decide_eq_true c2) (Ev.now _))))))⟩
      · by_cases c3 : i < 10
        · obtain ⟨v, hv⟩ := ih (wrap64 ((wrap64 (10 * n)) + (((bt s i) - 48) % 256)))
          rw [← w64_succ h0 h1 hs] at hv
          exact ⟨v, Ev.step (fun k => spileref09_Number.l0.eq_2 ..) (evp h1 (evp h0 (evn c1 (Ev.step (fun k => spileref09_Number.j1.eq_2 ..) (evn (by simpa using c2) (evp c3 (evp h0 (evp h1 hv))))))))⟩
        · obtain ⟨v, hv⟩ := ih n
          rw [← w64_succ h0 h1 hs] at hv
          exact ⟨v, Ev.step (fun k => spileref09_Number.l0.eq_2 ..) (evp h1 (evp h0 (evn c1 (Ev.step (fun k => spileref09_Number.j1.eq_2 ..) (evn (by simpa using c2) (evn c3 hv))))))⟩
theorem rnum_ev (s : ByteArray) (hs : (s.size : Int) ≤ 9223372036854775807) : ∃ v, Ev (fun k => spileref09_Number.f k s) (v, (numP 10 s.data.toList).isSome) ∧ ∀ u, numP 10 s.data.toList = some u → v = (u : Int) := by
  have hsz := size_data s
  have bad : ¬ (Canon s.data.toList ∧ s.data.toList.length ≤ 10) → numP 10 s.data.toList = none := fun h => by
    unfold numP; rw [if_neg h]
  by_cases c1 : (s.size : Int) ≥ 1
  case neg =>
    obtain ⟨v, hv⟩ := rnum_long s hs (fun n => Ev.step (fun k => spileref09_Number.l0.eq_2 ..) (evn (by omega) (evn c1 (Ev.now _)))) 0 (by omega) (by omega) 0
    have e := bad (fun h => by have := h.1.1; omega)
    rw [e]
    exact ⟨v, hv, fun u h => by cases h⟩
  by_cases c2 : (s.size : Int) ≤ 10
  case neg =>
    obtain ⟨v, hv⟩ := rnum_long s hs (fun n => Ev.step (fun k => spileref09_Number.l0.eq_2 ..) (evn (by omega) (evp c1 (evn c2 (Ev.now _))))) 0 (by omega) (by omega) 0
    have e := bad (fun h => by have := h.2; omega)
    rw [e]
    exact ⟨v, hv, fun u h => by cases h⟩
  obtain ⟨b, e1, _, e3⟩ := byte_at s (i := 0) (by omega) (by omega)
  rw [show (0 : Int).toNat = 0 from rfl, List.drop_zero] at e1
  have hend : ∀ n : Nat, Ev (fun k => spileref09_Number.l0 k s (n : Int) (s.size : Int)) ((n : Int), decide ((s.size : Int) = 1 ∨ b ≠ 48)) := by
    intro n
    refine Ev.step (fun k => spileref09_Number.l0.eq_2 ..) (evn (by omega) (evp c1 (evp c2 ?_)))
    by_cases c3 : (s.size : Int) = 1
    · rw [decide_eq_true (.inl c3)]
      exact evp c3 (Ev.now _)
    · refine evn c3 (evp (by omega) (evr ?_))
      rw [e3]
      refine congrArg (Prod.mk (n : Int)) ?_
      by_cases c4 : b = 48
      · rw [decide_eq_false (by rintro (z | z); exact c3 z; exact z c4), c4]; rfl
      · rw [decide_eq_true (.inr c4)]
        rw [bne_iff_ne]
        exact fun h => c4 ((toNat_eq b 48 (by decide)).1 h)
  have q := rnum_loop s c2 _ hend 0 (by omega) (by omega) 0 (by decide)
  rw [show (0 : Int).toNat = 0 from rfl, List.drop_zero] at q
  by_cases hd : s.data.toList.all isDig = true
  · rw [if_pos hd] at q
    by_cases hh : (s.size : Int) = 1 ∨ b ≠ 48
    · have hc : Canon s.data.toList ∧ s.data.toList.length ≤ 10 := ⟨⟨by omega, fun z => by
        rcases hh with h | h
        · have := z.1; omega
        · have := z.2; rw [e1] at this; exact h (by simpa using this), hd⟩, by omega⟩
      rw [decide_eq_true hh] at q
      have e : numP 10 s.data.toList = some (valFrom 0 s.data.toList) := by unfold numP; rw [if_pos hc]
      rw [e]
      exact ⟨_, q, fun u h => by cases h; rfl⟩
    · rw [decide_eq_false hh] at q
      have e := bad (fun h => hh (by
        by_cases c3 : (s.size : Int) = 1
        · exact .inl c3
        · exact .inr (fun z => h.1.2.1 ⟨by omega, by rw [e1, z]; rfl⟩)))
      rw [e]
      exact ⟨_, q, fun u h => by cases h⟩
  · rw [if_neg hd] at q
    have e := bad (fun h => hd h.1.2.2)
    rw [e]
    exact ⟨_, q, fun u h => by cases h⟩
theorem words9_ev (s : ByteArray) (hs : (s.size : Int) ≤ 4611686018427) : Ev (fun k => spileref09_Words.f k s) (if ([] : List UInt8) ∈ parts 32 s.data.toList then ([], false) else ((parts 32 s.data.toList).map ba, true)) := by
  have key : ∀ i, 0 ≤ i → i ≤ (s.size : Int) → ∀ (out : List ByteArray) (fr : Int), 0 ≤ fr → fr ≤ i → (out.length : Int) ≤ i →
      Ev (fun k => spileref09_Words.l0 k s out fr i) (if ([] : List UInt8) ∈ wrd 32 ((s.data.toList.take i.toNat).drop fr.toNat) (s.data.toList.drop i.toNat) then ([], false) else (out ++ (wrd 32 ((s.data.toList.take i.toNat).drop fr.toNat) (s.data.toList.drop i.toNat)).map ba, true)) := by
    refine count_up 0 (s.size : Int) _ ?_ ?_
    · intro out fr h0 h1 h2
      rw [drop_end, take_end]
      refine Ev.step (fun k => spileref09_Words.l0.eq_2 ..) (evp (by omega) (evp rfl (Ev.step (fun k => spileref09_Words.j1.eq_2 ..) (evp rfl ?_))))
      by_cases c : (s.size : Int) = fr
      · have he : s.data.toList.drop fr.toNat = [] := List.drop_eq_nil_of_le (by rw [size_data]; omega)
        rw [he]
        exact evp c (Ev.now _)
      · have hne : ¬ s.data.toList.drop fr.toNat = [] := fun e => by
          have := congrArg List.length e
          rw [List.length_drop, size_data] at this
          simp at this; omega
        have hm : ¬ ([] : List UInt8) ∈ wrd 32 (s.data.toList.drop fr.toNat) [] := fun h => by
          simp only [wrd, List.mem_singleton] at h
          exact hne h.symm
        rw [if_neg hm]
        refine evn c (evp h0 (evp h1 (evp (by omega) (evp (by omega) (Ev.step (fun k => spileref09_Words.l0.eq_2 ..) (evn ?_ (evr ?_)))))))
        · rw [w64 (by omega) (by omega)]; omega
        · rw [ba_ex, take_end]; rfl
    · intro i h0 h1 ih out fr g0 g1 g2
      obtain ⟨b, e1, e2, e3⟩ := byte_at s h0 h1
      have hw : wrap64 (i + 1) = i + 1 := w64 (by omega) (by omega)
      have hlen : fr.toNat ≤ (s.data.toList.take i.toNat).length := by rw [List.length_take, size_data]; omega
      refine Ev.step (fun k => spileref09_Words.l0.eq_2 ..) (evp (by omega) (evn (by omega) (evp h0 (evp h1 ?_))))
      rw [e1, wrd_cons, e3]
      by_cases c : b = 32
      · rw [if_pos c, show ((b.toNat : Int) == 32) = true from beq_iff_eq.2 ((toNat_eq b 32 (by decide)).2 c)]
        refine Ev.step (fun k => spileref09_Words.j1.eq_2 ..) (evp rfl ?_)
        rw [hw]
        by_cases d : i = fr
        · have he : (s.data.toList.take i.toNat).drop fr.toNat = [] := List.drop_eq_nil_of_le (by rw [List.length_take]; omega)
          rw [he, if_pos (List.mem_cons_self ..)]
          exact evp d (Ev.now _)
        · have hne : ¬ ([] : List UInt8) = (s.data.toList.take i.toNat).drop fr.toNat := fun e => by
            have := congrArg List.length e
            rw [List.length_drop, List.length_take, size_data] at this
            simp at this; omega
          have q := ih (out ++ [s.extract fr.toNat i.toNat]) (i + 1) (by omega) (by omega) (by rw [List.length_append]; simp; omega)
          have z : (s.data.toList.take (i + 1).toNat).drop (i + 1).toNat = [] := List.drop_eq_nil_of_le (by rw [List.length_take]; omega)
          rw [z, List.append_assoc] at q
          have em : (([] : List UInt8) ∈ (s.data.toList.take i.toNat).drop fr.toNat :: wrd 32 [] (s.data.toList.drop (i + 1).toNat)) = (([] : List UInt8) ∈ wrd 32 [] (s.data.toList.drop (i + 1).toNat)) :=
            propext ⟨fun h => (List.mem_cons.1 h).resolve_left hne, fun h => List.mem_cons_of_mem _ h⟩
          simp only [em]
          refine evn d (evp g0 (evp g1 (evp (by omega) (evp (by omega) ?_))))
          rw [ba_ex] at q ⊢
          exact q
      · have q := ih out fr g0 (by omega) (by omega)
        rw [e2, List.drop_append_of_le_length hlen] at q
        rw [if_neg c, show ((b.toNat : Int) == 32) = false from beq_eq_false_iff_ne.2 (fun h => c ((toNat_eq b 32 (by decide)).1 h))]
        refine Ev.step (fun k => spileref09_Words.j1.eq_2 ..) (evn (by decide) ?_)
        rw [hw]
        exact q
  have := key 0 (by omega) (by omega) [] 0 (by omega) (by omega) (by simp)
  rw [show (0 : Int).toNat = 0 from rfl, List.take_zero, List.drop_zero, List.drop_zero, wrd_parts, List.nil_append] at this
  exact this
def cCask : List UInt8 := [99, 97, 115, 107]
def cDecl : List UInt8 := [100, 101, 99, 108, 97, 114, 101, 100]
def cAt : List UInt8 := [97, 116]
def cRad : List UInt8 := [114, 97, 100, 105, 117, 115]
def cEnd : List UInt8 := [101, 110, 100]
def cLying : List UInt8 := [108, 121, 105, 110, 103]
def cStand : List UInt8 := [115, 116, 97, 110, 100, 105, 110, 103]
def posL (p : List UInt8) : Option Int := if p = cLying then some 1 else if p = cStand then some 2 else none
def outL : List (List UInt8) → Option S27
  | [a, b, c, d, e] => if a = cCask ∧ b ≠ [] ∧ d = cDecl then (match posL c with
    | none => none
    | some p => match numP 10 e with
      | none => none
      | some v => some ⟨ba b, p, [], (v : Int)⟩) else none
  | _ => none
def inL : List (List UInt8) → Option S46
  | [a, b, c, d] => if a = cAt ∧ c = cRad then (match numP 10 b with
    | none => none
    | some x => match numP 10 d with
      | none => none
      | some r => some ⟨(x : Int), (r : Int)⟩) else none
  | _ => none
theorem outL5 (a b c d e : List UInt8) : outL [a, b, c, d, e] = if a = cCask ∧ b ≠ [] ∧ d = cDecl then (match posL c with
    | none => none
    | some p => match numP 10 e with
      | none => none
      | some v => some ⟨ba b, p, [], (v : Int)⟩) else none := rfl
theorem inL4 (a b c d : List UInt8) : inL [a, b, c, d] = if a = cAt ∧ c = cRad then (match numP 10 b with
    | none => none
    | some x => match numP 10 d with
      | none => none
      | some r => some ⟨(x : Int), (r : Int)⟩) else none := rfl
theorem numP_nil : numP 10 [] = none := by decide
theorem posL_nil : posL [] = none := by decide
theorem outL_nil {ws : List (List UInt8)} (h : [] ∈ ws) : outL ws = none := by
  unfold outL
  split
  · rename_i a b c d e
    split
    · rename_i hc
      obtain ⟨rfl, hb, rfl⟩ := hc
      simp only [List.mem_cons, List.not_mem_nil, or_false] at h
      rcases h with h | h | h | h | h
      · cases h
      · exact absurd h.symm hb
      · rw [← h, posL_nil]
      · cases h
      · rw [← h, numP_nil]
        cases posL c <;> rfl
    · rfl
  · rfl
theorem inL_nil {ws : List (List UInt8)} (h : [] ∈ ws) : inL ws = none := by
  unfold inL
  split
  · rename_i a b c d
    split
    · rename_i hc
      obtain ⟨rfl, rfl⟩ := hc
      simp only [List.mem_cons, List.not_mem_nil, or_false] at h
      rcases h with h | h | h | h
      · cases h
      · rw [← h, numP_nil]
      · cases h
      · rw [← h, numP_nil]
        cases numP 10 b <;> rfl
    · rfl
  · rfl
theorem outL_len {ws : List (List UInt8)} (h : ws.length ≠ 5) : outL ws = none := by
  unfold outL
  split
  · exact absurd rfl h
  · rfl
theorem inL_len {ws : List (List UInt8)} (h : ws.length ≠ 4) : inL ws = none := by
  unfold inL
  split
  · exact absurd rfl h
  · rfl
theorem five {ws : List (List UInt8)} (h : ws.length = 5) : ∃ a b c d e, ws = [a, b, c, d, e] := by
  match ws, h with
  | [a, b, c, d, e], _ => exact ⟨a, b, c, d, e, rfl⟩
theorem four {ws : List (List UInt8)} (h : ws.length = 4) : ∃ a b c d, ws = [a, b, c, d] := by
  match ws, h with
  | [a, b, c, d], _ => exact ⟨a, b, c, d, rfl⟩
theorem pos_ba (p : List UInt8) : cask_outside.pos (ba p) = posL p := by
  show lastAt none cask_words.tbl p = posL p
  unfold cask_words.tbl posL
  simp only [lastAt]
  by_cases c1 : p = cLying
  · subst c1; rfl
  · have n1 : ¬ ([108, 121, 105, 110, 103] : List UInt8) = p := fun h => c1 h.symm
    rw [if_neg n1, if_neg c1]
    by_cases c2 : p = cStand
    · subst c2; rfl
    · have n2 : ¬ ([115, 116, 97, 110, 100, 105, 110, 103] : List UInt8) = p := fun h => c2 h.symm
      rw [if_neg n2, if_neg c2]
theorem outside_ev (ws : List (List UInt8)) (hw : ∀ w, w ∈ ws → w.length ≤ 100000) : Ev (fun k => cask_outside.f k (ws.map ba)) (outL ws) := by
  by_cases h5 : ws.length = 5
  case neg =>
    rw [outL_len h5]
    exact evn (fun h => h5 (by simpa using h.1)) (Ev.now _)
  obtain ⟨a, b, c, d, e, rfl⟩ := five h5
  unfold cask_outside.f
  have r0 : rdOf ByteArray.empty ([a, b, c, d, e].map ba) 0 = ba a := rfl
  have r1 : rdOf ByteArray.empty ([a, b, c, d, e].map ba) 1 = ba b := rfl
  have r2 : rdOf ByteArray.empty ([a, b, c, d, e].map ba) 2 = ba c := rfl
  have r3 : rdOf ByteArray.empty ([a, b, c, d, e].map ba) 3 = ba d := rfl
  have r4 : rdOf ByteArray.empty ([a, b, c, d, e].map ba) 4 = ba e := rfl
  rw [r0, r1, r2, r3, r4, ba_toList, ba_toList, ba_toList, pos_ba]
  rw [outL5]
  by_cases hc : a = cCask ∧ b ≠ [] ∧ d = cDecl
  case neg =>
    rw [if_neg hc]
    exact evn (fun h => hc ⟨h.2.1, h.2.2.1, h.2.2.2⟩) (Ev.now _)
  rw [if_pos hc]
  have hn := num_ev (ba e)
  rw [ba_list] at hn
  refine evp ⟨rfl, hc⟩ (evp (by rw [ba_size]; exact hw c (by simp)) (evb hn (evr ?_)))
  cases posL c with
  | none => rfl
  | some p =>
    unfold numR
    cases numP 10 e with
    | none => rfl
    | some v => rfl
theorem inside_ev (ws : List (List UInt8)) : Ev (fun k => cask_inside.f k (ws.map ba)) (inL ws) := by
  by_cases h4 : ws.length = 4
  case neg =>
    rw [inL_len h4]
    exact evn (fun h => h4 (by simpa using h.1)) (Ev.now _)
  obtain ⟨a, b, c, d, rfl⟩ := four h4
  unfold cask_inside.f
  have r0 : rdOf ByteArray.empty ([a, b, c, d].map ba) 0 = ba a := rfl
  have r1 : rdOf ByteArray.empty ([a, b, c, d].map ba) 1 = ba b := rfl
  have r2 : rdOf ByteArray.empty ([a, b, c, d].map ba) 2 = ba c := rfl
  have r3 : rdOf ByteArray.empty ([a, b, c, d].map ba) 3 = ba d := rfl
  rw [r0, r1, r2, r3, ba_toList, ba_toList]
  rw [inL4]
  by_cases hc : a = cAt ∧ c = cRad
  case neg =>
    rw [if_neg hc]
    exact evn (fun h => hc ⟨h.2.1, h.2.2⟩) (Ev.now _)
  rw [if_pos hc]
  have hb := num_ev (ba b)
  have hd := num_ev (ba d)
  rw [ba_list] at hb hd
  refine evp ⟨rfl, hc⟩ (evb hb (evb hd (evr ?_)))
  unfold numR
  cases numP 10 b with
  | none => cases numP 10 d <;> rfl
  | some x =>
    cases numP 10 d with
    | none => rfl
    | some r => rfl
def headR (r : ByteArray × Int × List S46 × Int × Bool) : Option S27 → Prop
  | some q => r = (q.f0, q.f1, q.f2, q.f3, true)
  | none => r.2.2.2.2 = false
theorem head_ev (ws : List (List UInt8)) (hn : [] ∉ ws) (hw : ∀ w, w ∈ ws → w.length ≤ 100000) : ∃ r, Ev (fun k => spileref09_head.f k (ws.map ba)) r ∧ headR r (outL ws) := by
  have jt : Ev (fun k => spileref09_head.j0 k (ws.map ba) true) ((⟨#[]⟩ : ByteArray), 0, [], 0, false) := Ev.step (fun k => spileref09_head.j0.eq_2 ..) (evp rfl (Ev.now _))
  by_cases h5 : ws.length = 5
  case neg =>
    rw [outL_len h5]
    exact ⟨_, evn (fun h => h5 (by rw [List.length_map] at h; omega)) jt, rfl⟩
  obtain ⟨a, b, c, d, e, rfl⟩ := five h5
  have r0 : rdOf ByteArray.empty ([a, b, c, d, e].map ba) 0 = ba a := rfl
  have r1 : rdOf ByteArray.empty ([a, b, c, d, e].map ba) 1 = ba b := rfl
  have r2 : rdOf ByteArray.empty ([a, b, c, d, e].map ba) 2 = ba c := rfl
  have r3 : rdOf ByteArray.empty ([a, b, c, d, e].map ba) 3 = ba d := rfl
  have r4 : rdOf ByteArray.empty ([a, b, c, d, e].map ba) 4 = ba e := rfl
  have hl : (([a, b, c, d, e].map ba).length : Int) = 5 := by simp
  have hb : b ≠ [] := fun h => hn (by simp [h])
  rw [outL5]
  by_cases ca : a = cCask
  case neg =>
    rw [if_neg (fun h => ca h.1)]
    exact ⟨((⟨#[]⟩ : ByteArray), 0, [], 0, false), evp hl (evp (by omega) (by rw [r0, ba_toList]; exact evn ca jt)), rfl⟩
  have tail : ∀ p, posL c = some p → ∃ r, Ev (fun k => if 3 < (([a, b, c, d, e].map ba).length : Int) then spileref09_head.j0 k ([a, b, c, d, e].map ba) ((rdOf ByteArray.empty ([a, b, c, d, e].map ba) 3).toList != ([100, 101, 99, 108, 97, 114, 101, 100] : List UInt8)) else none) r ∧
      headR r (if a = cCask ∧ b ≠ [] ∧ d = cDecl then (match posL c with
    | none => none
    | some p => match numP 10 e with
      | none => none
      | some v => some ⟨ba b, p, [], (v : Int)⟩) else none) := by
    intro p hp
    rw [r3, ba_toList, hp]
    by_cases cd : d = cDecl
    case neg =>
      rw [if_neg (fun h => cd h.2.2), show (d != ([100, 101, 99, 108, 97, 114, 101, 100] : List UInt8)) = true from bne_iff_ne.2 cd]
      exact ⟨_, evp (by omega) jt, rfl⟩
    rw [if_pos ⟨ca, hb, cd⟩, show (d != ([100, 101, 99, 108, 97, 114, 101, 100] : List UInt8)) = false from by rw [cd]; rfl]
    obtain ⟨v, hv, hu⟩ := rnum_ev (ba e) (by rw [ba_size]; have := hw e (by simp); omega)
    rw [ba_list] at hv hu
    have hj : ∃ q, (q = 1 ∨ q = 2) ∧ posL c = some q ∧ Ev (fun k => spileref09_head.j0 k ([a, b, c, d, e].map ba) false) (ba b, q, [], v, (numP 10 e).isSome) := by
      unfold posL at hp ⊢
      by_cases c1 : c = cLying
      · rw [if_pos c1]
        refine ⟨1, .inl rfl, rfl, Ev.step (fun k => spileref09_head.j0.eq_2 ..) (evn (by decide) (evp (by omega) ?_))⟩
        rw [r4, r1, r2, ba_toList]
        exact evb hv (evp (by omega) (evp (by omega) (evp c1 (Ev.now _))))
      · rw [if_neg c1] at hp ⊢
        by_cases c2 : c = cStand
        · rw [if_pos c2]
          refine ⟨2, .inr rfl, rfl, Ev.step (fun k => spileref09_head.j0.eq_2 ..) (evn (by decide) (evp (by omega) ?_))⟩
          rw [r4, r1, r2, ba_toList]
          exact evb hv (evp (by omega) (evp (by omega) (evn c1 (Ev.now _))))
        · rw [if_neg c2] at hp; cases hp
    obtain ⟨q, _, hq, hj⟩ := hj
    rw [hp] at hq
    cases hq
    refine ⟨_, evp (by omega) hj, ?_⟩
    cases he : numP 10 e with
    | none => rfl
    | some u => rw [hu u he]; rfl
  by_cases c1 : c = cLying
  · obtain ⟨r, h1, h2⟩ := tail 1 (by unfold posL; rw [if_pos c1])
    refine ⟨r, evp hl (evp (by omega) ?_), h2⟩
    rw [r0, r2, ba_toList, ba_toList]
    exact evp ca (evp (by omega) (evp c1 h1))
  · by_cases c2 : c = cStand
    · obtain ⟨r, h1, h2⟩ := tail 2 (by unfold posL; rw [if_neg c1, if_pos c2])
      refine ⟨r, evp hl (evp (by omega) ?_), h2⟩
      rw [r0, r2, ba_toList, ba_toList]
      exact evp ca (evp (by omega) (evn c1 (evp c2 h1)))
    · have hp : posL c = none := by unfold posL; rw [if_neg c1, if_neg c2]
      rw [hp]
      refine ⟨_, evp hl (evp (by omega) (by rw [r0, r2, ba_toList, ba_toList]; exact evp ca (evp (by omega) (evn c1 (evn c2 jt))))), ?_⟩
      split <;> rfl
def pointR (r : Int × Int × Bool) : Option S46 → Prop
  | some q => r = (q.f0, q.f1, true)
  | none => r.2.2 = false
theorem point_ev (ws : List (List UInt8)) (hw : ∀ w, w ∈ ws → w.length ≤ 100000) : ∃ r, Ev (fun k => spileref09_point.f k (ws.map ba)) r ∧ pointR r (inL ws) := by
  have jt : Ev (fun k => spileref09_point.j0 k (ws.map ba) true) ((0 : Int), (0 : Int), false) := Ev.step (fun k => spileref09_point.j0.eq_2 ..) (evp rfl (Ev.now _))
  by_cases h4 : ws.length = 4
  case neg =>
    rw [inL_len h4]
    exact ⟨_, evn (fun h => h4 (by rw [List.length_map] at h; omega)) jt, rfl⟩
  obtain ⟨a, b, c, d, rfl⟩ := four h4
  have r0 : rdOf ByteArray.empty ([a, b, c, d].map ba) 0 = ba a := rfl
  have r1 : rdOf ByteArray.empty ([a, b, c, d].map ba) 1 = ba b := rfl
  have r2 : rdOf ByteArray.empty ([a, b, c, d].map ba) 2 = ba c := rfl
  have r3 : rdOf ByteArray.empty ([a, b, c, d].map ba) 3 = ba d := rfl
  have hl : (([a, b, c, d].map ba).length : Int) = 4 := by simp
  rw [inL4]
  by_cases ca : a = cAt
  case neg =>
    rw [if_neg (fun h => ca h.1)]
    exact ⟨(0, 0, false), evp hl (evp (by omega) (by rw [r0, ba_toList]; exact evn ca jt)), rfl⟩
  by_cases cc : c = cRad
  case neg =>
    rw [if_neg (fun h => cc h.2)]
    refine ⟨(0, 0, false), evp hl (evp (by omega) ?_), rfl⟩
    · rw [r0, r2, ba_toList, ba_toList, show (c != ([114, 97, 100, 105, 117, 115] : List UInt8)) = true from bne_iff_ne.2 cc]
      exact evp ca (evp (by omega) jt)
  rw [if_pos ⟨ca, cc⟩]
  obtain ⟨v, hv, hu⟩ := rnum_ev (ba b) (by rw [ba_size]; have := hw b (by simp); omega)
  obtain ⟨v2, hv2, hu2⟩ := rnum_ev (ba d) (by rw [ba_size]; have := hw d (by simp); omega)
  rw [ba_list] at hv hu hv2 hu2
  have pre : ∀ r, Ev (fun _ : Nat => if (numP 10 b).isSome = true then some (v, v2, (numP 10 d).isSome) else some (v, v2, false)) r → Ev (fun k => spileref09_point.f k ([a, b, c, d].map ba)) r := by
    intro r hr
    refine evp hl (evp (by omega) ?_)
    rw [r0, r2, ba_toList, ba_toList, show (c != ([114, 97, 100, 105, 117, 115] : List UInt8)) = false from by rw [cc]; rfl]
    refine evp ca (evp (by omega) (Ev.step (fun k => spileref09_point.j0.eq_2 ..) (evn (by decide) (evp (by omega) ?_))))
    rw [r1, r3]
    exact evb hv (evp (by omega) (evb hv2 hr))
  cases hb : numP 10 b with
  | none =>
    rw [hb] at pre
    exact ⟨_, pre _ (evn (by decide) (Ev.now _)), rfl⟩
  | some x =>
    rw [hb] at pre
    refine ⟨_, pre _ (evp rfl (Ev.now _)), ?_⟩
    rw [hu x hb]
    cases hd : numP 10 d with
    | none => rfl
    | some y => rw [hu2 y hd]; rfl
end Go.Proofs.YtnhmlneebnkjcaaDoor.PL
