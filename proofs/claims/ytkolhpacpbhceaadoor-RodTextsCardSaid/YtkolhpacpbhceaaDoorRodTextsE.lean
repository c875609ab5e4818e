/-
The law RodTexts returns true for every input that can be read as data, and leaves its arguments as they were: the row, and the card that ties the listed variables to the program's text.
No condition of its own beyond those that the given row prints.
-/
import Derived.HandedShaped
import Derived.Handed
import Derived.Test.YtkolhpacpbhceaaDoorCards
import Derived.Test.YtkolhpacpbhceaaDoorTie
import Derived.ProofKit
import Derived.OpenShut
import Derived.ShutString
import Derived.ChangeOld
import Derived.SizedLaws
import Derived.LaidMore
import Derived.Lay
import Derived.MakeChecks
import Derived.SevenTiedAt
import Derived.LaidSub
import Derived.LaidOnce
import Derived.Stop.Joined
import Derived.Stop.LaidErr
import Derived.Test.YtkolhpacpbhceaaDoorRodTextsD
set_option linter.unusedVariables false
set_option linter.unusedSimpArgs false
namespace Go.Proofs.YtkolhpacpbhceaaDoor.Pr
open Go.RowKit Go.Proofs.YtkolhpacpbhceaaDoorW.PrintWords Go.Proofs.YtkolhpacpbhceaaDoorW.PrintLast Go.Proofs.YtkolhpacpbhceaaDoorW.PrintMore Go.Proofs.YtkolhpacpbhceaaDoor.X
attribute [local go_sem] max2_int min2_int max_two min_two max_three min_three max_four min_four   -- for this text's walks alone
set_option linter.unusedVariables false
set_option linter.unusedSimpArgs false
attribute [local go_sem high] eqA34
def spileref14_Print.l0 : Nat → List (S39) → ByteArray → Int → Option (ByteArray × Int)
 | 0, _, _, _ => none
 | k + 1, x0, x5, x6 => if x6 < (x0.length : Int) then (if 0 ≤ x6 then ((strconv_Itoa.f ((rd_T39 x0 x6).f0)).bind fun t300 => (if t300.size + 1 ≤ 9223372036854775807 then ((strconv_Itoa.f ((rd_T39 x0 x6).f1)).bind fun t302 => (if (t300 ++ (⟨#[32]⟩ : ByteArray)).size + t302.size ≤ 9223372036854775807 then (if ((t300 ++ (⟨#[32]⟩ : ByteArray)) ++ t302).size + 1 ≤ 9223372036854775807 then (if x5.size + (((t300 ++ (⟨#[32]⟩ : ByteArray)) ++ t302) ++ (⟨#[10]⟩ : ByteArray)).size ≤ 9223372036854775807 then (spileref14_Print.l0 k x0 (x5 ++ (((t300 ++ (⟨#[32]⟩ : ByteArray)) ++ t302) ++ (⟨#[10]⟩ : ByteArray))) (wrap64 (x6 + 1))) else (none)) else (none)) else (none))) else (none))) else (none)) else (some (x5, 0))
def spileref14_Print.f (k : Nat) (l0 : List (S39)) : Option (ByteArray × Int) := (spileref14_Check.f k l0).bind fun t298 => (if t298 = 0 then (spileref14_Print.l0 k l0 (⟨#[]⟩ : ByteArray) 0) else (some ((⟨#[]⟩ : ByteArray), t298)))
def spileref14_Print.T8 : Bool × List (List Nat × List Nat) := (true, [([], []), ([], []), ([], []), ([1, 2], [1, 2]), ([3], [3]), ([4], [4]), ([5], [5]), ([6], [6]), ([], []), ([], []), ([8, 9], [8, 9]), ([10], [10]), ([11], [11]), ([12, 6], [12]), ([7, 13], [7, 13]), ([14], [14]), ([0, 15], [0, 15]), ([16, 13, 0, 1, 2, 3, 4, 5, 6, 7, 8, 9, 10, 11, 12, 13, 14, 15, 16], [0, 16])])
def spileref14_Print.B8 : List Nat := [0, 0, 0, 6, 14, 30, 62, 126, 0, 0, 768, 1792, 3840, 8062, 16382, 32766, 65535, 131071]
theorem spileref14_Print.tab8 : rtab .any (opsOf Tryd.f24 8) = spileref14_Print.T8 := by kernel_rfl
theorem spileref14_Print.bits8 : waitsOk spileref14_Print.T8.2 spileref14_Print.B8 = true := by kernel_rfl
set_option maxHeartbeats 8000000 in
set_option maxRecDepth 100000 in
theorem spileref14_Print.calls (k : Nat) (A0 : Option Addr) (c0 : Nat) (l0 : List (S39)) (r1 : ByteArray) (r2 : Int) (w : World) (hr0 : Kd.C k39 w A0 l0.length l0) (hc0 : l0.length ≤ c0) (hG : GI w) (h : spileref14_Print.f k l0 = some (r1, r2)) :
  Calls Tryd.prog 24 #[.slice A0 l0.length c0] w fun e w' => e = .returned (.tuple #[.string r1, .int .i64 r2]) ∧ Below w.heap.size w w' := by
 have HR0 := Aside0.mk hr0
 have HC0 := Aside0.mk hc0
 clear hr0 hc0
 have HG := Aside0.mk hG
 clear hG
 have HB := Aside0.mk (Below.refl w.heap.size w)
 have H : ((spileref14_Check.f k l0).bind fun t298 => (if t298 = 0 then (spileref14_Print.l0 k l0 (⟨#[]⟩ : ByteArray) 0) else (some ((⟨#[]⟩ : ByteArray), t298)))) = some (r1, r2) := h
 clear h
 replace H := Option.bind_eq_some_iff.mp H
 obtain ⟨t298, A20, H⟩ := H
 replace H : (if t298 = 0 then (spileref14_Print.l0 k l0 (⟨#[]⟩ : ByteArray) 0) else (some ((⟨#[]⟩ : ByteArray), t298))) = some (r1, r2) := H
 have A2 := Aside0.mk A20
 clear A20
 by_cases c3 : t298 = 0
 ·
  rw [if_pos c3] at H
  have c3b0 : (t298 == 0) = true := beq_iff_eq.mpr c3
  have c3b1 : (t298 != 0) = false := bne_eq_false_iff_eq.mpr c3
  clear c3
  have H' := Aside0.mk H
  clear H
  go_enter Tryd.func24, Tryd.ntmps24
  go_wp2_with (first | ((with_reducible refine gate_callee (f := 22) rfl ?_); refine goesL_ (some 8) rfl rfl Tryd.func22 (by kernel_rfl) rfl #[.slice A0 l0.length c0] rfl (by (try simp only [List.map_toArray, List.map_cons, List.map_nil]); first | done | rfl | (simp only [List.length_drop, List.length_take]; rfl)) ?_; (with_reducible refine (spileref14_Check.calls k _ _ l0 t298 _ ?side1 ?side2 A2.out).mono ?_); (case side1 => repeat (first | exact HR0.out | (with_reducible refine Kd.C_alloc ?_ _) | (with_reducible refine Kd.C_drewN ?_ _) | (with_reducible refine Kd.C_drew ?_))); (case side2 => exact HC0.out); rintro e w' ⟨rfl, ⟨nd, rfl⟩⟩; refine ⟨_, rfl, ?_⟩))
  go_loopg [5, 6] k (fun kq v5 v6 w' => ∃ (x5_1 : ByteArray) (x6_1 : Int), v5 = .string x5_1 ∧ v6 = .int .i64 x6_1 ∧ Aside0 (spileref14_Print.l0 kq l0 x5_1 x6_1 = some (r1, r2)) ∧ Aside0 (kq ≤ k) ∧ Aside0 (Below w.heap.size w w'))
  case atStart => exact ⟨((⟨#[]⟩ : ByteArray)), (0), (by first | rfl | (simp; done) | (simp [*]; done)), (by first | rfl | (simp; done) | (simp [*]; done)), H', ⟨Nat.le_refl _⟩, ⟨by repeat (first | (with_reducible first | exact HB.out | apply below_alloc | apply pw_below_drewN | apply below_drew1) | exact HB.out)⟩⟩
  case round =>
   clear H'
   try clear c2
   try clear p2
   try clear c3
   try clear c3b0
   try clear c3b1
   obtain ⟨x5_1, x6_1, rfl, rfl, HA, HK1, HB⟩ := hrel
   cases gk with
   | zero => exact absurd HA.out (by simp [spileref14_Print.l0])
   | succ k1 =>
    have H := HA.out
    clear HA
    simp only [spileref14_Print.l0] at H
    by_cases c4 : x6_1 < (l0.length : Int)
    ·
     rw [if_pos c4] at H
     have c4b0 : decide (x6_1 < (l0.length : Int)) = true := decide_eq_true c4
     clear c4
     by_cases c5 : 0 ≤ x6_1
     ·
      rw [if_pos c5] at H
      have c5b0 : decide (0 ≤ x6_1) = true := decide_eq_true c5
      clear c5
      replace H := Option.bind_eq_some_iff.mp H
      obtain ⟨t300, A60, H⟩ := H
      replace H : (if t300.size + 1 ≤ 9223372036854775807 then ((strconv_Itoa.f ((rd_T39 l0 x6_1).f1)).bind fun t302 => (if (t300 ++ (⟨#[32]⟩ : ByteArray)).size + t302.size ≤ 9223372036854775807 then (if ((t300 ++ (⟨#[32]⟩ : ByteArray)) ++ t302).size + 1 ≤ 9223372036854775807 then (if x5_1.size + (((t300 ++ (⟨#[32]⟩ : ByteArray)) ++ t302) ++ (⟨#[10]⟩ : ByteArray)).size ≤ 9223372036854775807 then (spileref14_Print.l0 k1 l0 (x5_1 ++ (((t300 ++ (⟨#[32]⟩ : ByteArray)) ++ t302) ++ (⟨#[10]⟩ : ByteArray))) (wrap64 (x6_1 + 1))) else (none)) else (none)) else (none))) else (none)) = some (r1, r2) := H
      have A6 := Aside0.mk A60
      clear A60
      by_cases c7 : t300.size + 1 ≤ 9223372036854775807
      ·
       rw [if_pos c7] at H
       have c7b0 := eq_true c7
       have c7b1 : decide (t300.size + 1 ≤ 9223372036854775807) = true := decide_eq_true c7
       try have c7b2 : (9223372036854775807 < t300.size + 1) = False := eq_false (Nat.not_lt.2 c7)
       replace H := Option.bind_eq_some_iff.mp H
       obtain ⟨t302, A80, H⟩ := H
       replace H : (if (t300 ++ (⟨#[32]⟩ : ByteArray)).size + t302.size ≤ 9223372036854775807 then (if ((t300 ++ (⟨#[32]⟩ : ByteArray)) ++ t302).size + 1 ≤ 9223372036854775807 then (if x5_1.size + (((t300 ++ (⟨#[32]⟩ : ByteArray)) ++ t302) ++ (⟨#[10]⟩ : ByteArray)).size ≤ 9223372036854775807 then (spileref14_Print.l0 k1 l0 (x5_1 ++ (((t300 ++ (⟨#[32]⟩ : ByteArray)) ++ t302) ++ (⟨#[10]⟩ : ByteArray))) (wrap64 (x6_1 + 1))) else (none)) else (none)) else (none)) = some (r1, r2) := H
       have A8 := Aside0.mk A80
       clear A80
       by_cases c9 : (t300 ++ (⟨#[32]⟩ : ByteArray)).size + t302.size ≤ 9223372036854775807
       ·
        rw [if_pos c9] at H
        have c9b0 := eq_true c9
        have c9b1 : decide ((t300 ++ (⟨#[32]⟩ : ByteArray)).size + t302.size ≤ 9223372036854775807) = true := decide_eq_true c9
        try have c9b2 : (9223372036854775807 < (t300 ++ (⟨#[32]⟩ : ByteArray)).size + t302.size) = False := eq_false (Nat.not_lt.2 c9)
        try have c9b3 : (9223372036854775807 < t300.size + 1 + t302.size) = False := eq_false (Nat.not_lt.2 (by have h_ := c9; simp only [ByteArray.size_append] at h_; exact h_))
        by_cases c10 : ((t300 ++ (⟨#[32]⟩ : ByteArray)) ++ t302).size + 1 ≤ 9223372036854775807
        ·
         rw [if_pos c10] at H
         have c10b0 := eq_true c10
         have c10b1 : decide (((t300 ++ (⟨#[32]⟩ : ByteArray)) ++ t302).size + 1 ≤ 9223372036854775807) = true := decide_eq_true c10
         try have c10b2 : (9223372036854775807 < ((t300 ++ (⟨#[32]⟩ : ByteArray)) ++ t302).size + 1) = False := eq_false (Nat.not_lt.2 c10)
         try have c10b3 : (9223372036854775807 < t300.size + 1 + t302.size + 1) = False := eq_false (Nat.not_lt.2 (by have h_ := c10; simp only [ByteArray.size_append] at h_; exact h_))
         by_cases c11 : x5_1.size + (((t300 ++ (⟨#[32]⟩ : ByteArray)) ++ t302) ++ (⟨#[10]⟩ : ByteArray)).size ≤ 9223372036854775807
         ·
          rw [if_pos c11] at H
          have c11b0 := eq_true c11
          have c11b1 : decide (x5_1.size + (((t300 ++ (⟨#[32]⟩ : ByteArray)) ++ t302) ++ (⟨#[10]⟩ : ByteArray)).size ≤ 9223372036854775807) = true := decide_eq_true c11
          try have c11b2 : (9223372036854775807 < x5_1.size + (((t300 ++ (⟨#[32]⟩ : ByteArray)) ++ t302) ++ (⟨#[10]⟩ : ByteArray)).size) = False := eq_false (Nat.not_lt.2 c11)
          try have c11b3 : (9223372036854775807 < x5_1.size + (t300.size + 1 + t302.size + 1)) = False := eq_false (Nat.not_lt.2 (by have h_ := c11; simp only [ByteArray.size_append] at h_; exact h_))
          have H' := Aside0.mk H
          clear H
          try go_wp2
          have n0_ := Aside0.mk (below_drew1 HB.out)
          clear HB
          have HB := n0_
          clear n0_
          have p299 : 0 ≤ (x6_1 : Int) := of_decide_eq_true (by first | (with_reducible assumption) | assumption)
          have q299 : x6_1 < (l0.length : Int) := of_decide_eq_true (by first | (with_reducible assumption) | assumption)
          obtain ⟨ad299, e299, hx299_0, hx299_1⟩ := at_T39 HR0.out x6_1 p299 q299
          have hw299_1 := hx299_1
          have hw299_0 := hx299_0
          cases e299
          replace hx299_0 := (HB.out.cell (World.block_lt_of_cell? w _ hx299_0)).trans hx299_0
          replace hx299_1 := (HB.out.cell (World.block_lt_of_cell? w _ hx299_1)).trans hx299_1
          replace p299 := eq_true p299
          replace q299 := eq_true q299
          have p301 : 0 ≤ (x6_1 : Int) := of_decide_eq_true (by first | (with_reducible assumption) | assumption)
          have q301 : x6_1 < (l0.length : Int) := of_decide_eq_true (by first | (with_reducible assumption) | assumption)
          obtain ⟨ad301, e301, hx301_0, hx301_1⟩ := at_T39 HR0.out x6_1 p301 q301
          have hw301_1 := hx301_1
          have hw301_0 := hx301_0
          obtain rfl : ad299 = ad301 := (by injection e301)
          replace hx301_0 := (HB.out.cell (World.block_lt_of_cell? w _ hx301_0)).trans hx301_0
          replace hx301_1 := (HB.out.cell (World.block_lt_of_cell? w _ hx301_1)).trans hx301_1
          replace p301 := eq_true p301
          replace q301 := eq_true q301
          refine start_ (n := 18) (S := fun w' => w'.cell? (ad299.add ((x6_1).toNat * 2)) = some (.int .i64 ((rd_T39 l0 x6_1).f0)) ∧ w'.cell? ⟨(ad299.add ((x6_1).toNat * 2)).block, (ad299.add ((x6_1).toNat * 2)).off + 1, none⟩ = some (.int .i64 ((rd_T39 l0 x6_1).f1)) ∧ w'.cell? (ad299.add ((x6_1).toNat * 2)) = some (.int .i64 ((rd_T39 l0 x6_1).f0)) ∧ w'.cell? ⟨(ad299.add ((x6_1).toNat * 2)).block, (ad299.add ((x6_1).toNat * 2)).off + 1, none⟩ = some (.int .i64 ((rd_T39 l0 x6_1).f1))) (ds := []) #[false, false, false, false, false, false, false, false, false, false, false, false, false, false, false, false, false, false] (by kernel_rfl) rfl rfl ⟨((HB.out.cell (World.block_lt_of_cell? w _ hw299_0)).trans hw299_0), ((HB.out.cell (World.block_lt_of_cell? w _ hw299_1)).trans hw299_1), ((HB.out.cell (World.block_lt_of_cell? w _ hw301_0)).trans hw301_0), ((HB.out.cell (World.block_lt_of_cell? w _ hw301_1)).trans hw301_1)⟩ (fun hHeld => ?_); refine with_tabW spileref14_Print.tab8 spileref14_Print.bits8 (fun HT_ HW_ => ?_)
          generalize wr.drew = w12 at HB hx299_0 hx299_1 hx301_0 hx301_1 hHeld ⊢
          refine pure_ (i := 0) (N := some 18) (v := ?_) (a' := ?_) #[true, false, false, false, false, false, false, false, false, false, false, false, false, false, false, false, false, false] rfl rfl (any_of HT_.out (by kernel_rfl)) (fun _ _ _ h => h) (Or.inl ⟨by rfl, ?_⟩) ?_ ?_
          rotate_left
          ·
           intro w'
           go_simp
           with_reducible rfl
          rotate_left
          ·
           simp only [Act.put, List.setIfInBounds_toArray, List.set_cons_zero, List.set_cons_succ, i64_w, i32_w]
           rfl
          refine pure_ (i := 1) (N := some 19) (v := ?_) (a' := ?_) #[true, true, false, false, false, false, false, false, false, false, false, false, false, false, false, false, false, false] rfl rfl (any_of HT_.out (by kernel_rfl)) (fun _ _ _ h => h) (Or.inl ⟨by rfl, ?_⟩) ?_ ?_
          rotate_left
          ·
           intro w'
           go_simp
           with_reducible rfl
          rotate_left
          ·
           simp only [Act.put, List.setIfInBounds_toArray, List.set_cons_zero, List.set_cons_succ, i64_w, i32_w]
           rfl
          refine pure_ (i := 2) (N := some 20) (v := ?_) (a' := ?_) #[true, true, true, false, false, false, false, false, false, false, false, false, false, false, false, false, false, false] rfl rfl (any_of HT_.out (by kernel_rfl)) (fun _ _ _ h => h) (Or.inl ⟨by rfl, ?_⟩) ?_ ?_
          rotate_left
          ·
           intro w'
           go_simp
           with_reducible rfl
          rotate_left
          ·
           simp only [Act.put, List.setIfInBounds_toArray, List.set_cons_zero, List.set_cons_succ, i64_w, i32_w]
           rfl
          refine pure_ (i := 3) (N := some 21) (v := ?_) (a' := ?_) #[true, true, true, true, false, false, false, false, false, false, false, false, false, false, false, false, false, false] rfl rfl (any_of HT_.out (by kernel_rfl)) (fun _ _ _ h => h) (Or.inl ⟨by rfl, ?_⟩) ?_ ?_
          rotate_left
          ·
           intro w'
           go_simp
           with_reducible rfl
          rotate_left
          ·
           simp only [Act.put, List.setIfInBounds_toArray, List.set_cons_zero, List.set_cons_succ, i64_w, i32_w]
           rfl
          refine pure_ (i := 4) (N := some 22) (v := ?_) (a' := ?_) #[true, true, true, true, true, false, false, false, false, false, false, false, false, false, false, false, false, false] rfl rfl (any_of HT_.out (by kernel_rfl)) (fun _ _ _ h => h) (Or.inl ⟨by rfl, ?_⟩) ?_ ?_
          rotate_left
          ·
           intro w'
           go_simp
           with_reducible rfl
          rotate_left
          ·
           simp only [Act.put, List.setIfInBounds_toArray, List.set_cons_zero, List.set_cons_succ, i64_w, i32_w]
           rfl
          refine pure_ (i := 8) (N := some 26) (v := ?_) (a' := ?_) #[true, true, true, true, true, false, false, false, true, false, false, false, false, false, false, false, false, false] rfl rfl (any_of HT_.out (by kernel_rfl)) (fun _ _ _ h => h) (Or.inl ⟨by rfl, ?_⟩) ?_ ?_
          rotate_left
          ·
           intro w'
           go_simp
           with_reducible rfl
          rotate_left
          ·
           simp only [Act.put, List.setIfInBounds_toArray, List.set_cons_zero, List.set_cons_succ, i64_w, i32_w]
           rfl
          refine pure_ (i := 9) (N := some 27) (v := ?_) (a' := ?_) #[true, true, true, true, true, false, false, false, true, true, false, false, false, false, false, false, false, false] rfl rfl (any_of HT_.out (by kernel_rfl)) (fun _ _ _ h => h) (Or.inl ⟨by rfl, ?_⟩) ?_ ?_
          rotate_left
          ·
           intro w'
           go_simp
           with_reducible rfl
          rotate_left
          ·
           simp only [Act.put, List.setIfInBounds_toArray, List.set_cons_zero, List.set_cons_succ, i64_w, i32_w]
           rfl
          refine pure_ (i := 10) (N := some 28) (v := ?_) (a' := ?_) #[true, true, true, true, true, false, false, false, true, true, true, false, false, false, false, false, false, false] rfl rfl (any_of HT_.out (by kernel_rfl)) (fun _ _ _ h => h) (Or.inl ⟨by rfl, ?_⟩) ?_ ?_
          rotate_left
          ·
           intro w'
           go_simp
           with_reducible rfl
          rotate_left
          ·
           simp only [Act.put, List.setIfInBounds_toArray, List.set_cons_zero, List.set_cons_succ, i64_w, i32_w]
           rfl
          refine pure_ (i := 11) (N := some 29) (v := ?_) (a' := ?_) #[true, true, true, true, true, false, false, false, true, true, true, true, false, false, false, false, false, false] rfl rfl (any_of HT_.out (by kernel_rfl)) (fun _ _ _ h => h) (Or.inl ⟨by rfl, ?_⟩) ?_ ?_
          rotate_left
          ·
           intro w'
           go_simp
           with_reducible rfl
          rotate_left
          ·
           simp only [Act.put, List.setIfInBounds_toArray, List.set_cons_zero, List.set_cons_succ, i64_w, i32_w]
           rfl
          refine take_ (i := 5) (N := some 23) (v := ?_) (a' := ?_) #[true, true, true, true, true, true, false, false, true, true, true, true, false, false, false, false, false, false] rfl rfl (take_ofW HT_.out HW_.out (by kernel_rfl)) (fun _ _ _ h => h) (Or.inl ⟨by rfl, ?_⟩) hHeld ?_ ?_
          rotate_left
          ·
           rintro w' ⟨s0, s1, s2, s3⟩
           go_simp
           with_reducible rfl
          rotate_left
          ·
           simp only [Act.put, List.setIfInBounds_toArray, List.set_cons_zero, List.set_cons_succ, i64_w, i32_w]
           rfl
          refine take_ (i := 12) (N := some 30) (v := ?_) (a' := ?_) #[true, true, true, true, true, true, false, false, true, true, true, true, true, false, false, false, false, false] rfl rfl (take_ofW HT_.out HW_.out (by kernel_rfl)) (fun _ _ _ h => h) (Or.inl ⟨by rfl, ?_⟩) hHeld ?_ ?_
          rotate_left
          ·
           rintro w' ⟨s0, s1, s2, s3⟩
           go_simp
           with_reducible rfl
          rotate_left
          ·
           simp only [Act.put, List.setIfInBounds_toArray, List.set_cons_zero, List.set_cons_succ, i64_w, i32_w]
           rfl
          refine one_ (i := 6) (N := some 24) #[true, true, true, true, true, true, true, false, true, true, true, true, true, false, false, false, false, false] rfl rfl (one_of HT_.out (by kernel_rfl)) (by decide) (fun K hK => ?_)
          refine goes_ Tryd.func43 (by kernel_rfl) rfl #[.int .i64 ((rd_T39 l0 x6_1).f0)] (by rfl) rfl rfl (by (try simp only [List.map_toArray, List.map_cons, List.map_nil]); first | done | rfl | (simp only [List.length_drop, List.length_take]; rfl)) ?_
          with_reducible refine (strconv_Itoa.calls ((rd_T39 l0 x6_1).f0) t300 _ ?side1 A6.out).mono ?_
          (case side1 => exact GI.below HG.out (by repeat (first | (with_reducible first | exact HB.out | apply below_alloc | apply pw_below_drewN | apply below_drew1) | exact HB.out)))
          rintro e w13 ⟨rfl, hb⟩
          refine ⟨_, rfl, ?_⟩
          have n0_ := Aside0.mk (below_step (by repeat (first | (with_reducible first | exact HB.out | apply below_alloc | apply pw_below_drewN | apply below_drew1) | exact HB.out)) hb)
          clear HB
          have HB := n0_
          clear n0_
          (try clear hb)
          (try clear hb2)
          (try clear hk)
          (try clear hi)
          refine hK.out _ _ ⟨((HB.out.cell (World.block_lt_of_cell? w _ hw299_0)).trans hw299_0), ((HB.out.cell (World.block_lt_of_cell? w _ hw299_1)).trans hw299_1), ((HB.out.cell (World.block_lt_of_cell? w _ hw301_0)).trans hw301_0), ((HB.out.cell (World.block_lt_of_cell? w _ hw301_1)).trans hw301_1)⟩ (fun hHeld => ?_)
          clear hK K
          refine norm_ (a' := ?_) ?_ ?_
          rotate_left
          ·
           show Act.put _ (some 24) _ = _
           simp only [Act.put, List.setIfInBounds_toArray, List.set_cons_zero, List.set_cons_succ, i64_w, i32_w]
           rfl
          refine pure_ (i := 7) (N := some 25) (v := ?_) (a' := ?_) #[true, true, true, true, true, true, true, true, true, true, true, true, true, false, false, false, false, false] rfl rfl (any_of HT_.out (by kernel_rfl)) (fun _ _ _ h => h) (Or.inl ⟨by rfl, ?_⟩) ?_ ?_
          rotate_left
          ·
           intro w'
           go_simp
           with_reducible rfl
          rotate_left
          ·
           simp only [Act.put, List.setIfInBounds_toArray, List.set_cons_zero, List.set_cons_succ, i64_w, i32_w]
           rfl
          refine one_ (i := 13) (N := some 31) #[true, true, true, true, true, true, true, true, true, true, true, true, true, true, false, false, false, false] rfl rfl (one_of HT_.out (by kernel_rfl)) (by decide) (fun K hK => ?_)
          refine goes_ Tryd.func43 (by kernel_rfl) rfl #[.int .i64 ((rd_T39 l0 x6_1).f1)] (by rfl) rfl rfl (by (try simp only [List.map_toArray, List.map_cons, List.map_nil]); first | done | rfl | (simp only [List.length_drop, List.length_take]; rfl)) ?_
          with_reducible refine (strconv_Itoa.calls ((rd_T39 l0 x6_1).f1) t302 _ ?side1 A8.out).mono ?_
          (case side1 => exact GI.below HG.out (by repeat (first | (with_reducible first | exact HB.out | apply below_alloc | apply pw_below_drewN | apply below_drew1) | exact HB.out)))
          rintro e w14 ⟨rfl, hb⟩
          refine ⟨_, rfl, ?_⟩
          have n0_ := Aside0.mk (below_step (by repeat (first | (with_reducible first | exact HB.out | apply below_alloc | apply pw_below_drewN | apply below_drew1) | exact HB.out)) hb)
          clear HB
          have HB := n0_
          clear n0_
          (try clear hb)
          (try clear hb2)
          (try clear hk)
          (try clear hi)
          refine hK.out _ _ ⟨((HB.out.cell (World.block_lt_of_cell? w _ hw299_0)).trans hw299_0), ((HB.out.cell (World.block_lt_of_cell? w _ hw299_1)).trans hw299_1), ((HB.out.cell (World.block_lt_of_cell? w _ hw301_0)).trans hw301_0), ((HB.out.cell (World.block_lt_of_cell? w _ hw301_1)).trans hw301_1)⟩ (fun hHeld => ?_)
          clear hK K
          refine norm_ (a' := ?_) ?_ ?_
          rotate_left
          ·
           show Act.put _ (some 31) _ = _
           simp only [Act.put, List.setIfInBounds_toArray, List.set_cons_zero, List.set_cons_succ, i64_w, i32_w]
           rfl
          refine pure_ (i := 14) (N := some 32) (v := ?_) (a' := ?_) #[true, true, true, true, true, true, true, true, true, true, true, true, true, true, true, false, false, false] rfl rfl (any_of HT_.out (by kernel_rfl)) (fun _ _ _ h => h) (Or.inl ⟨by rfl, ?_⟩) ?_ ?_
          rotate_left
          ·
           intro w'
           go_simp
           with_reducible rfl
          rotate_left
          ·
           simp only [Act.put, List.setIfInBounds_toArray, List.set_cons_zero, List.set_cons_succ, i64_w, i32_w]
           rfl
          refine pure_ (i := 15) (N := some 33) (v := ?_) (a' := ?_) #[true, true, true, true, true, true, true, true, true, true, true, true, true, true, true, true, false, false] rfl rfl (any_of HT_.out (by kernel_rfl)) (fun _ _ _ h => h) (Or.inl ⟨by rfl, ?_⟩) ?_ ?_
          rotate_left
          ·
           intro w'
           go_simp
           with_reducible rfl
          rotate_left
          ·
           simp only [Act.put, List.setIfInBounds_toArray, List.set_cons_zero, List.set_cons_succ, i64_w, i32_w]
           rfl
          refine pure_ (i := 16) (N := some 34) (v := ?_) (a' := ?_) #[true, true, true, true, true, true, true, true, true, true, true, true, true, true, true, true, true, false] rfl rfl (any_of HT_.out (by kernel_rfl)) (fun _ _ _ h => h) (Or.inl ⟨by rfl, ?_⟩) ?_ ?_
          rotate_left
          ·
           intro w'
           go_simp
           with_reducible rfl
          rotate_left
          ·
           simp only [Act.put, List.setIfInBounds_toArray, List.set_cons_zero, List.set_cons_succ, i64_w, i32_w]
           rfl
          refine pure_ (i := 17) (N := some 5) (v := ?_) (a' := ?_) #[true, true, true, true, true, true, true, true, true, true, true, true, true, true, true, true, true, true] rfl rfl (any_of HT_.out (by kernel_rfl)) (fun _ _ _ h => h) (Or.inl ⟨by rfl, ?_⟩) ?_ ?_
          rotate_left
          ·
           intro w'
           go_simp
           with_reducible rfl
          rotate_left
          ·
           simp only [Act.put, List.setIfInBounds_toArray, List.set_cons_zero, List.set_cons_succ, i64_w, i32_w]
           rfl
          refine done_ (done_of HT_.out (by kernel_rfl)) ?_
          try go_wp2
          go_roundg k1
          case measure => have := HK1.out; omega
          case rel => exact ⟨(x5_1 ++ (((t300 ++ (⟨#[32]⟩ : ByteArray)) ++ t302) ++ (⟨#[10]⟩ : ByteArray))), (wrap64 (x6_1 + 1)), (by first | rfl | (simp; done) | (simp [*]; done)), (by first | rfl | (simp; done) | (simp [*]; done)), H', ⟨by have := HK1.out; omega⟩, ⟨by repeat (first | (with_reducible first | exact HB.out | apply below_alloc | apply pw_below_drewN | apply below_drew1) | exact HB.out)⟩⟩
         ·
          rw [if_neg c11] at H
          exact absurd H (by simp)
        ·
         rw [if_neg c10] at H
         exact absurd H (by simp)
       ·
        rw [if_neg c9] at H
        exact absurd H (by simp)
      ·
       rw [if_neg c7] at H
       exact absurd H (by simp)
     ·
      rw [if_neg c5] at H
      exact absurd H (by simp)
    ·
     rw [if_neg c4] at H
     have c4b0 : decide (x6_1 < (l0.length : Int)) = false := decide_eq_false c4
     clear c4
     simp only [Option.some.injEq, Prod.mk.injEq] at H
     obtain ⟨rfl, rfl⟩ := H
     go_wp2
     go_ret2
     exact ⟨by first | rfl | (simp [errW_none, errW_some] <;> rfl) | (simp [*, errW_none, errW_some] <;> rfl), by repeat (first | (with_reducible first | exact HB.out | apply below_alloc | apply pw_below_drewN | apply below_drew1) | exact HB.out)⟩
 ·
  rw [if_neg c3] at H
  have c3b0 : (t298 == 0) = false := beq_eq_false_iff_ne.mpr c3
  have c3b1 : (t298 != 0) = true := bne_iff_ne.mpr c3
  simp only [Option.some.injEq, Prod.mk.injEq] at H
  obtain ⟨rfl, rfl⟩ := H
  go_enter Tryd.func24, Tryd.ntmps24
  go_wp2_with (first | ((with_reducible refine gate_callee (f := 22) rfl ?_); refine goesL_ (some 8) rfl rfl Tryd.func22 (by kernel_rfl) rfl #[.slice A0 l0.length c0] rfl (by (try simp only [List.map_toArray, List.map_cons, List.map_nil]); first | done | rfl | (simp only [List.length_drop, List.length_take]; rfl)) ?_; (with_reducible refine (spileref14_Check.calls k _ _ l0 t298 _ ?side1 ?side2 A2.out).mono ?_); (case side1 => repeat (first | exact HR0.out | (with_reducible refine Kd.C_alloc ?_ _) | (with_reducible refine Kd.C_drewN ?_ _) | (with_reducible refine Kd.C_drew ?_))); (case side2 => exact HC0.out); rintro e w' ⟨rfl, ⟨nd, rfl⟩⟩; refine ⟨_, rfl, ?_⟩))
  go_ret2
  exact ⟨by first | rfl | (simp [errW_none, errW_some] <;> rfl) | (simp [*, errW_none, errW_some] <;> rfl), by repeat (first | (with_reducible first | exact HB.out | apply below_alloc | apply pw_below_drewN | apply below_drew1) | exact HB.out)⟩
end Go.Proofs.YtkolhpacpbhceaaDoor.Pr
namespace Go.Proofs.YtkolhpacpbhceaaDoor.Pr
open Go.RowKit Go.Proofs.YtkolhpacpbhceaaDoorW.PrintWords Go.Proofs.YtkolhpacpbhceaaDoorW.PrintLast Go.Proofs.YtkolhpacpbhceaaDoorW.PrintMore Go.Proofs.YtkolhpacpbhceaaDoor.X
attribute [local go_sem] max2_int min2_int max_two min_two max_three min_three max_four min_four   -- for this text's walks alone
set_option linter.unusedVariables false
set_option linter.unusedSimpArgs false
def spileref14_number.l0 : Nat → ByteArray → Int → Int → Option (Int × Bool)
 | 0, _, _, _ => none
 | k + 1, x0, x4, x5 => if x5 < (x0.size : Int) then (if 0 ≤ x5 then (if (bt x0 x5) < 48 then (some (0, false)) else (if (bt x0 x5) > 57 then (some (0, false)) else (if x5 ≥ 10 then (some (0, false)) else (spileref14_number.l0 k x0 (wrap64 ((wrap64 (10 * x4)) + (((bt x0 x5) - 48) % 256))) (wrap64 (x5 + 1)))))) else (none)) else (if x0.toList = ([] : List UInt8) then (some (x4, false)) else (if (x0.size : Int) = 1 then (some (x4, true)) else (if 0 < (x0.size : Int) then (some (x4, ((bt x0 0) != 48))) else (none))))
def spileref14_number.f (k : Nat) (a0 : ByteArray) : Option (Int × Bool) := spileref14_number.l0 k a0 0 0
set_option maxHeartbeats 8000000 in
set_option maxRecDepth 100000 in
theorem spileref14_number.calls (k : Nat) (a0 : ByteArray) (r1 : Int) (r2 : Bool) (w : World) (h : spileref14_number.f k a0 = some (r1, r2)) :
  Calls Tryd.prog 59 #[.string a0] w fun e w' => e = .returned (.tuple #[.int .i64 r1, .bool r2]) ∧ Drawn0 w w' := by
 have H : (spileref14_number.l0 k a0 0 0) = some (r1, r2) := h
 clear h
 have H' := Aside0.mk H
 clear H
 go_enter Tryd.func59, Tryd.ntmps59
 go_wp2
 repeat (go_quiet (fail); try go_wp2)
 go_loopg [4, 5] k (fun kq v4 v5 w' => ∃ (x4_1 : Int) (x5_1 : Int), v4 = .int .i64 x4_1 ∧ v5 = .int .i64 x5_1 ∧ Aside0 (spileref14_number.l0 kq a0 x4_1 x5_1 = some (r1, r2)) ∧ Aside0 (kq ≤ k) ∧ Drawn0 w w')
 case atStart => exact ⟨(0), (0), (by first | rfl | (simp; done) | (simp [*]; done)), (by first | rfl | (simp; done) | (simp [*]; done)), H', ⟨Nat.le_refl _⟩, by repeat (first | exact Drawn0.refl _ | apply Drawn0.step)⟩
 case round =>
  clear H'
  obtain ⟨x4_1, x5_1, rfl, rfl, HA, HK1, ⟨m1, rfl⟩⟩ := hrel
  cases gk with
  | zero => exact absurd HA.out (by simp [spileref14_number.l0])
  | succ k1 =>
   have H := HA.out
   clear HA
   simp only [spileref14_number.l0] at H
   by_cases c2 : x5_1 < (a0.size : Int)
   ·
    rw [if_pos c2] at H
    have c2b0 : decide (x5_1 < (a0.size : Int)) = true := decide_eq_true c2
    clear c2
    by_cases c3 : 0 ≤ x5_1
    ·
     rw [if_pos c3] at H
     have c3b0 : decide (0 ≤ x5_1) = true := decide_eq_true c3
     clear c3
     by_cases c5 : (bt a0 x5_1) < 48
     ·
      rw [if_pos c5] at H
      have c5b0 : decide ((bt a0 x5_1) < 48) = true := decide_eq_true c5
      clear c5
      simp only [Option.some.injEq, Prod.mk.injEq] at H
      obtain ⟨rfl, rfl⟩ := H
      have p4 : 0 ≤ (x5_1 : Int) := of_decide_eq_true (by first | (with_reducible assumption) | assumption)
      have q4 : x5_1 < (a0.size : Int) := of_decide_eq_true (by first | (with_reducible assumption) | assumption)
      have hx4 := bt_at a0 x5_1
      replace p4 := eq_true p4
      replace q4 := eq_true q4
      go_wp2
      repeat (go_quiet (fail); try go_wp2)
      go_ret2
      exact ⟨by first | rfl | (simp; done) | (simp [*]; done), by repeat (first | exact Drawn0.refl _ | apply Drawn0.step)⟩
     ·
      rw [if_neg c5] at H
      have c5b0 : decide ((bt a0 x5_1) < 48) = false := decide_eq_false c5
      clear c5
      by_cases c7 : (bt a0 x5_1) > 57
      ·
       rw [if_pos c7] at H
       have c7b0 : decide (57 < (bt a0 x5_1)) = true := decide_eq_true c7
       clear c7
       simp only [Option.some.injEq, Prod.mk.injEq] at H
       obtain ⟨rfl, rfl⟩ := H
       have p4 : 0 ≤ (x5_1 : Int) := of_decide_eq_true (by first | (with_reducible assumption) | assumption)
       have q4 : x5_1 < (a0.size : Int) := of_decide_eq_true (by first | (with_reducible assumption) | assumption)
       have hx4 := bt_at a0 x5_1
       replace p4 := eq_true p4
       replace q4 := eq_true q4
       have p6 : 0 ≤ (x5_1 : Int) := of_decide_eq_true (by first | (with_reducible assumption) | assumption)
       have q6 : x5_1 < (a0.size : Int) := of_decide_eq_true (by first | (with_reducible assumption) | assumption)
       have hx6 := bt_at a0 x5_1
       replace p6 := eq_true p6
       replace q6 := eq_true q6
       go_wp2
       repeat (go_quiet (fail); try go_wp2)
       go_ret2
       exact ⟨by first | rfl | (simp; done) | (simp [*]; done), by repeat (first | exact Drawn0.refl _ | apply Drawn0.step)⟩
      ·
       rw [if_neg c7] at H
       have c7b0 : decide (57 < (bt a0 x5_1)) = false := decide_eq_false c7
       clear c7
       by_cases c8 : x5_1 ≥ 10
       ·
        rw [if_pos c8] at H
        have c8b0 : decide (10 ≤ x5_1) = true := decide_eq_true c8
        clear c8
        simp only [Option.some.injEq, Prod.mk.injEq] at H
        obtain ⟨rfl, rfl⟩ := H
        have p4 : 0 ≤ (x5_1 : Int) := of_decide_eq_true (by first | (with_reducible assumption) | assumption)
        have q4 : x5_1 < (a0.size : Int) := of_decide_eq_true (by first | (with_reducible assumption) | assumption)
        have hx4 := bt_at a0 x5_1
        replace p4 := eq_true p4
        replace q4 := eq_true q4
        have p6 : 0 ≤ (x5_1 : Int) := of_decide_eq_true (by first | (with_reducible assumption) | assumption)
        have q6 : x5_1 < (a0.size : Int) := of_decide_eq_true (by first | (with_reducible assumption) | assumption)
        have hx6 := bt_at a0 x5_1
        replace p6 := eq_true p6
        replace q6 := eq_true q6
        go_wp2
        repeat (go_quiet (fail); try go_wp2)
        go_ret2
        exact ⟨by first | rfl | (simp; done) | (simp [*]; done), by repeat (first | exact Drawn0.refl _ | apply Drawn0.step)⟩
       ·
        rw [if_neg c8] at H
        have c8b0 : decide (10 ≤ x5_1) = false := decide_eq_false c8
        clear c8
        have H' := Aside0.mk H
        clear H
        have p4 : 0 ≤ (x5_1 : Int) := of_decide_eq_true (by first | (with_reducible assumption) | assumption)
        have q4 : x5_1 < (a0.size : Int) := of_decide_eq_true (by first | (with_reducible assumption) | assumption)
        have hx4 := bt_at a0 x5_1
        replace p4 := eq_true p4
        replace q4 := eq_true q4
        have p6 : 0 ≤ (x5_1 : Int) := of_decide_eq_true (by first | (with_reducible assumption) | assumption)
        have q6 : x5_1 < (a0.size : Int) := of_decide_eq_true (by first | (with_reducible assumption) | assumption)
        have hx6 := bt_at a0 x5_1
        replace p6 := eq_true p6
        replace q6 := eq_true q6
        have p9 : 0 ≤ (x5_1 : Int) := of_decide_eq_true (by first | (with_reducible assumption) | assumption)
        have q9 : x5_1 < (a0.size : Int) := of_decide_eq_true (by first | (with_reducible assumption) | assumption)
        have hx9 := bt_at a0 x5_1
        replace p9 := eq_true p9
        replace q9 := eq_true q9
        go_wp2
        repeat (go_quiet (fail); try go_wp2)
        go_roundg k1
        case measure => have := HK1.out; omega
        case rel => exact ⟨(wrap64 ((wrap64 (10 * x4_1)) + (((bt a0 x5_1) - 48) % 256))), (wrap64 (x5_1 + 1)), (by first | rfl | (simp; done) | (simp [*]; done)), (by first | rfl | (simp; done) | (simp [*]; done)), H', ⟨by have := HK1.out; omega⟩, by repeat (first | exact Drawn0.refl _ | apply Drawn0.step)⟩
    ·
     rw [if_neg c3] at H
     exact absurd H (by simp)
   ·
    rw [if_neg c2] at H
    have c2b0 : decide (x5_1 < (a0.size : Int)) = false := decide_eq_false c2
    clear c2
    by_cases c10 : a0.toList = ([] : List UInt8)
    ·
     rw [if_pos c10] at H
     have c10b0 : (a0.toList == ([] : List UInt8)) = true := beq_iff_eq.mpr c10
     have c10b1 : (a0.toList != ([] : List UInt8)) = false := bne_eq_false_iff_eq.mpr c10
     clear c10
     simp only [Option.some.injEq, Prod.mk.injEq] at H
     obtain ⟨rfl, rfl⟩ := H
     go_wp2
     repeat (go_quiet (fail); try go_wp2)
     go_ret2
     exact ⟨by first | rfl | (simp; done) | (simp [*]; done), by repeat (first | exact Drawn0.refl _ | apply Drawn0.step)⟩
    ·
     rw [if_neg c10] at H
     have c10b0 : (a0.toList == ([] : List UInt8)) = false := beq_eq_false_iff_ne.mpr c10
     have c10b1 : (a0.toList != ([] : List UInt8)) = true := bne_iff_ne.mpr c10
     by_cases c11 : (a0.size : Int) = 1
     ·
      rw [if_pos c11] at H
      have c11b0 : ((a0.size : Int) == 1) = true := beq_iff_eq.mpr c11
      have c11b1 : ((a0.size : Int) != 1) = false := bne_eq_false_iff_eq.mpr c11
      clear c11
      simp only [Option.some.injEq, Prod.mk.injEq] at H
      obtain ⟨rfl, rfl⟩ := H
      go_wp2
      repeat (go_quiet (fail); try go_wp2)
      go_ret2
      exact ⟨by first | rfl | (simp; done) | (simp [*]; done), by repeat (first | exact Drawn0.refl _ | apply Drawn0.step)⟩
     ·
      rw [if_neg c11] at H
      have c11b0 : ((a0.size : Int) == 1) = false := beq_eq_false_iff_ne.mpr c11
      have c11b1 : ((a0.size : Int) != 1) = true := bne_iff_ne.mpr c11
      by_cases c12 : 0 < (a0.size : Int)
      ·
       rw [if_pos c12] at H
       have c12b0 : decide (0 < (a0.size : Int)) = true := decide_eq_true c12
       have c12b1 : decide (0 < a0.size) = true := decide_eq_true (by omega)
       clear c12
       simp only [Option.some.injEq, Prod.mk.injEq] at H
       obtain ⟨rfl, rfl⟩ := H
       have p13 : 0 ≤ (0 : Int) := (by omega)
       have q13 : 0 < a0.size := (by have : (0 : Int) < (a0.size : Int) := of_decide_eq_true (by first | (with_reducible assumption) | assumption); omega)
       have hx13 : ∀ h : 0 < a0.size, ((a0[0]'h).toNat : Int) = bt a0 0 := bt_at a0 0
       clear p13
       have qi13 : (0 < (a0.size : Int)) = True := eq_true (of_decide_eq_true (by first | (with_reducible assumption) | assumption))
       replace q13 := eq_true q13
       go_wp2
       repeat (go_quiet (fail); try go_wp2)
       go_ret2
       exact ⟨by first | rfl | (simp; done) | (simp [*]; done), by repeat (first | exact Drawn0.refl _ | apply Drawn0.step)⟩
      ·
       rw [if_neg c12] at H
       exact absurd H (by simp)
def spileref14_mark.l0 : Nat → ByteArray → Int → Option (Int × Int × Bool)
 | 0, _, _ => none
 | k + 1, x0, x4 => if x4 < (x0.size : Int) then (if 0 ≤ x4 then (if (bt x0 x4) = 32 then (if x4 ≤ (x0.size : Int) then ((spileref14_number.f k (x0.extract 0 (x4 : Int).toNat)).bind fun bt304 => (if 0 ≤ (wrap64 (x4 + 1)) then (if (wrap64 (x4 + 1)) ≤ (x0.size : Int) then ((spileref14_number.f k (x0.extract ((wrap64 (x4 + 1)) : Int).toNat x0.size)).bind fun bt306 => (if bt304.2 = true then (some (bt304.1, bt306.1, bt306.2)) else (some (bt304.1, bt306.1, false)))) else (none)) else (none))) else (none)) else (spileref14_mark.l0 k x0 (wrap64 (x4 + 1)))) else (none)) else (some (0, 0, false))
def spileref14_mark.f (k : Nat) (a0 : ByteArray) : Option (Int × Int × Bool) := spileref14_mark.l0 k a0 0
set_option maxHeartbeats 8000000 in
set_option maxRecDepth 100000 in
theorem spileref14_mark.calls (k : Nat) (a0 : ByteArray) (r1 : Int) (r2 : Int) (r3 : Bool) (w : World) (h : spileref14_mark.f k a0 = some (r1, r2, r3)) :
  Calls Tryd.prog 48 #[.string a0] w fun e w' => e = .returned (.tuple #[.agg #[.int .i64 r1, .int .i64 r2], .bool r3]) ∧ Below w.heap.size w w' := by
 have hu39 := Tryd.underlying39
 have HB := Aside0.mk (Below.refl w.heap.size w)
 have H : (spileref14_mark.l0 k a0 0) = some (r1, r2, r3) := h
 clear h
 have H' := Aside0.mk H
 clear H
 go_enter Tryd.func48, Tryd.ntmps48
 go_wp2_with (first | ((with_reducible refine gate_dst (N := 2) rfl ?_); refine box_event ?hg (N := 2) ?hd (cs := #[.int .i64 0, .int .i64 0]) (t := 39) ?hr ?_; (case hd => rfl); (case hg => rfl); (case hr => first | (go_simp; done) | (go_simp; rfl)); intro gb303 hg w2 hbox hb; have n0_ := Aside0.mk (below_step (by repeat (first | (with_reducible first | exact HB.out | apply below_alloc | apply pw_below_drewN | apply below_drew1) | exact HB.out)) hb); have n1_ := Aside0.mk (hbox); have n2_ := Aside0.mk ((by rw [hg]; exact (below_size (by repeat (first | (with_reducible first | exact HB.out | apply below_alloc | apply pw_below_drewN | apply below_drew1) | exact HB.out))) : w.heap.size ≤ gb303)); have n3_ := Aside0.mk ((by rw [hg]; exact (below_size (by repeat (first | (with_reducible first | exact HB.out | apply below_alloc | apply pw_below_drewN | apply below_drew1) | exact HB.out))) : w.heap.size ≤ gb303)); clear HB; have HB := n0_; have BK303 := n1_; have GW303 := n2_; have GE303 := n3_; clear n0_ n1_ n2_ n3_; clear hb hbox hg))
 go_loopg [4] k (fun kq v4 w' => ∃ (x4_1 : Int) (x304000_1 : Int) (x304001_1 : Int), v4 = .int .i64 x4_1 ∧ Aside0 (spileref14_mark.l0 kq a0 x4_1 = some (r1, r2, r3)) ∧ Aside0 (kq ≤ k) ∧ Aside0 (w'.heap[gb303]? = some (.cells #[.int .i64 x304000_1, .int .i64 x304001_1] 39 (0, 0))) ∧ Aside0 (Below w.heap.size w w'))
 case atStart => exact ⟨(0), (0), (0), (by first | rfl | (simp; done) | (simp [*]; done)), H', ⟨Nat.le_refl _⟩, ⟨by (with_reducible repeat (first | refine blk_drewN ?_ _ | refine blk_drew ?_ | refine blk_alloc ?_ _)); exact BK303.out⟩, ⟨by repeat (first | (with_reducible first | exact HB.out | apply below_alloc | apply pw_below_drewN | apply below_drew1 | refine below_set ?_ GE303.out) | exact HB.out)⟩⟩
 case round =>
  clear H'
  try clear p2
  obtain ⟨x4_1, x304000_1, x304001_1, rfl, HA, HK1, BK303, HB⟩ := hrel
  cases gk with
  | zero => exact absurd HA.out (by simp [spileref14_mark.l0])
  | succ k1 =>
   have H := HA.out
   clear HA
   simp only [spileref14_mark.l0] at H
   by_cases c3 : x4_1 < (a0.size : Int)
   ·
    rw [if_pos c3] at H
    have c3b0 : decide (x4_1 < (a0.size : Int)) = true := decide_eq_true c3
    clear c3
    by_cases c4 : 0 ≤ x4_1
    ·
     rw [if_pos c4] at H
     have c4b0 : decide (0 ≤ x4_1) = true := decide_eq_true c4
     clear c4
     by_cases c6 : (bt a0 x4_1) = 32
     ·
      rw [if_pos c6] at H
      have c6b0 : ((bt a0 x4_1) == 32) = true := beq_iff_eq.mpr c6
      have c6b1 : ((bt a0 x4_1) != 32) = false := bne_eq_false_iff_eq.mpr c6
      clear c6
      have c7b0 := eq_true (of_decide_eq_true (by first | (with_reducible assumption) | assumption) : 0 ≤ x4_1)
      by_cases c8 : x4_1 ≤ (a0.size : Int)
      ·
       rw [if_pos c8] at H
       have c8b0 := eq_true c8
       have c8b1 : decide (x4_1 ≤ (a0.size : Int)) = true := decide_eq_true c8
       clear c8
       replace H := Option.bind_eq_some_iff.mp H
       obtain ⟨⟨t304, t305⟩, A90, H⟩ := H
       replace H : (if 0 ≤ (wrap64 (x4_1 + 1)) then (if (wrap64 (x4_1 + 1)) ≤ (a0.size : Int) then ((spileref14_number.f k1 (a0.extract ((wrap64 (x4_1 + 1)) : Int).toNat a0.size)).bind fun bt306 => (if t305 = true then (some (t304, bt306.1, bt306.2)) else (some (t304, bt306.1, false)))) else (none)) else (none)) = some (r1, r2, r3) := H
       have A9 := Aside0.mk A90
       clear A90
       obtain ⟨ji10, hji10⟩ : ∃ j_ : Int, (wrap64 (x4_1 + 1)) = j_ := ⟨_, rfl⟩
       replace H : (if 0 ≤ (ji10) then (if (ji10) ≤ (a0.size : Int) then ((spileref14_number.f k1 (a0.extract ((ji10) : Int).toNat a0.size)).bind fun bt306 => (if t305 = true then (some (t304, bt306.1, bt306.2)) else (some (t304, bt306.1, false)))) else (none)) else (none)) = some (r1, r2, r3) := by first | (rw [hji10] at H; exact H) | (simp only [hji10] at H ⊢; exact H)
       (try rw [hji10] at A9)
       have hji10w : (IntKind.i64.wrap (x4_1 + 1)) = ji10 := (i64_w _).trans hji10
       by_cases c11 : 0 ≤ (ji10)
       ·
        rw [if_pos c11] at H
        have c11b0 := eq_true c11
        have c11b1 : decide (0 ≤ (ji10)) = true := decide_eq_true c11
        clear c11
        by_cases c12 : (ji10) ≤ (a0.size : Int)
        ·
         rw [if_pos c12] at H
         have c12b0 := eq_true c12
         have c12b1 : decide ((ji10) ≤ (a0.size : Int)) = true := decide_eq_true c12
         clear c12
         replace H := Option.bind_eq_some_iff.mp H
         obtain ⟨⟨t306, t307⟩, A130, H⟩ := H
         replace H : (if t305 = true then (some (t304, t306, t307)) else (some (t304, t306, false))) = some (r1, r2, r3) := H
         have A13 := Aside0.mk A130
         clear A130
         by_cases c14 : t305 = true
         ·
          subst c14
          have H1 : (some (t304, t306, t307)) = some (r1, r2, r3) := by rw [if_pos rfl] at H; exact H
          clear H
          have H := H1
          clear H1
          simp only [Option.some.injEq, Prod.mk.injEq] at H
          obtain ⟨rfl, rfl, rfl⟩ := H
          have p5 : 0 ≤ (x4_1 : Int) := of_decide_eq_true (by first | (with_reducible assumption) | assumption)
          have q5 : x4_1 < (a0.size : Int) := of_decide_eq_true (by first | (with_reducible assumption) | assumption)
          have hx5 := bt_at a0 x4_1
          replace p5 := eq_true p5
          replace q5 := eq_true q5
          go_wp2_with (first | ((with_reducible refine gate_callee (f := 59) rfl ?_); refine goesL_ (some 23) rfl rfl Tryd.func59 (by kernel_rfl) rfl #[.string (a0.extract 0 (x4_1 : Int).toNat)] rfl (by (try simp only [List.map_toArray, List.map_cons, List.map_nil]); first | done | rfl | (simp only [List.length_drop, List.length_take]; rfl)) ?_; (with_reducible refine (spileref14_number.calls k1 (a0.extract 0 (x4_1 : Int).toNat) t304 true _ A9.out).mono ?_); rintro e w' ⟨rfl, ⟨nd, rfl⟩⟩; refine ⟨_, rfl, ?_⟩; (try (rw [drewN_self wr]; generalize hq_ : World.drewN wr _ = wr; have n0_ : Aside0 (wr.heap[gb303]? = some (.cells #[.int .i64 x304000_1, .int .i64 x304001_1] 39 (0, 0))) := ⟨by rw [← hq_]; exact (by (with_reducible repeat (first | refine blk_drewN ?_ _ | refine blk_drew ?_ | refine blk_alloc ?_ _)); exact BK303.out)⟩; have n1_ : Aside0 (Below w.heap.size w wr) := ⟨by rw [← hq_]; exact (by repeat (first | (with_reducible first | exact HB.out | apply below_alloc | apply pw_below_drewN | apply below_drew1 | refine below_set ?_ GE303.out) | exact HB.out))⟩; clear BK303 HB hq_; have BK303 := n0_; have HB := n1_; clear n0_ n1_))) | ((with_reducible refine gate_callee (f := 59) rfl ?_); refine goesL_ (some 31) rfl rfl Tryd.func59 (by kernel_rfl) rfl #[.string (a0.extract ((ji10) : Int).toNat a0.size)] rfl (by (try simp only [List.map_toArray, List.map_cons, List.map_nil]); first | done | (simp only [hji10]; rfl) | rfl | (simp only [List.length_drop, List.length_take]; rfl)) ?_; (with_reducible refine (spileref14_number.calls k1 (a0.extract ((ji10) : Int).toNat a0.size) t306 t307 _ A13.out).mono ?_); rintro e w' ⟨rfl, ⟨nd, rfl⟩⟩; refine ⟨_, rfl, ?_⟩; (try (rw [drewN_self wr]; generalize hq_ : World.drewN wr _ = wr; have n0_ : Aside0 (wr.heap[gb303]? = some (.cells #[.int .i64 x304000_1, .int .i64 x304001_1] 39 (0, 0))) := ⟨by rw [← hq_]; exact (by (with_reducible repeat (first | refine blk_drewN ?_ _ | refine blk_drew ?_ | refine blk_alloc ?_ _)); exact BK303.out)⟩; have n1_ : Aside0 (Below w.heap.size w wr) := ⟨by rw [← hq_]; exact (by repeat (first | (with_reducible first | exact HB.out | apply below_alloc | apply pw_below_drewN | apply below_drew1 | refine below_set ?_ GE303.out) | exact HB.out))⟩; clear BK303 HB hq_; have BK303 := n0_; have HB := n1_; clear n0_ n1_)); have hcz15_0 : wr.cell? ⟨gb303, 0, none⟩ = some (.int .i64 x304000_1) := (blk_cell BK303.out 0).trans rfl; have hcz15_1 : wr.cell? ⟨gb303, 1, none⟩ = some (.int .i64 x304001_1) := (blk_cell BK303.out 1).trans rfl; have hfz15_0 := blk_frozen BK303.out 0; have hfz15_1 := blk_frozen BK303.out 1))
          refine bodyPost_ret (results_ct rfl _ _ gb303 39 #[.int .i64 t304, .int .i64 t306] (0, 0) _ rfl (by (with_reducible repeat (first | refine blk_drewN ?_ _ | refine blk_drew ?_ | refine blk_alloc ?_ _)); refine blk_put (cs := #[.int .i64 t304, .int .i64 x304001_1]) ?_ 1 _ rfl; (with_reducible repeat (first | refine blk_drewN ?_ _ | refine blk_drew ?_ | refine blk_alloc ?_ _)); refine blk_put (cs := #[.int .i64 x304000_1, .int .i64 x304001_1]) ?_ 0 _ rfl; (with_reducible repeat (first | refine blk_drewN ?_ _ | refine blk_drew ?_ | refine blk_alloc ?_ _)); exact BK303.out) Tryd.underlying39 rfl (by kernel_rfl)) rfl ?_
          exact ⟨by first | rfl | (simp [errW_none, errW_some] <;> rfl) | (simp only [← hji10]; first | rfl | (simp [errW_none, errW_some] <;> rfl)) | (simp [*, errW_none, errW_some] <;> rfl), by repeat (first | (with_reducible first | exact HB.out | apply below_alloc | apply pw_below_drewN | apply below_drew1 | refine below_set ?_ GE303.out) | exact HB.out)⟩
         ·
          replace c14 := Bool.eq_false_iff.mpr c14
          subst c14
          have H1 : (some (t304, t306, false)) = some (r1, r2, r3) := by rw [if_neg (show ¬ (false = true) by decide)] at H; exact H
          clear H
          have H := H1
          clear H1
          simp only [Option.some.injEq, Prod.mk.injEq] at H
          obtain ⟨rfl, rfl, rfl⟩ := H
          have p5 : 0 ≤ (x4_1 : Int) := of_decide_eq_true (by first | (with_reducible assumption) | assumption)
          have q5 : x4_1 < (a0.size : Int) := of_decide_eq_true (by first | (with_reducible assumption) | assumption)
          have hx5 := bt_at a0 x4_1
          replace p5 := eq_true p5
          replace q5 := eq_true q5
          go_wp2_with (first | ((with_reducible refine gate_callee (f := 59) rfl ?_); refine goesL_ (some 23) rfl rfl Tryd.func59 (by kernel_rfl) rfl #[.string (a0.extract 0 (x4_1 : Int).toNat)] rfl (by (try simp only [List.map_toArray, List.map_cons, List.map_nil]); first | done | rfl | (simp only [List.length_drop, List.length_take]; rfl)) ?_; (with_reducible refine (spileref14_number.calls k1 (a0.extract 0 (x4_1 : Int).toNat) t304 false _ A9.out).mono ?_); rintro e w' ⟨rfl, ⟨nd, rfl⟩⟩; refine ⟨_, rfl, ?_⟩; (try (rw [drewN_self wr]; generalize hq_ : World.drewN wr _ = wr; have n0_ : Aside0 (wr.heap[gb303]? = some (.cells #[.int .i64 x304000_1, .int .i64 x304001_1] 39 (0, 0))) := ⟨by rw [← hq_]; exact (by (with_reducible repeat (first | refine blk_drewN ?_ _ | refine blk_drew ?_ | refine blk_alloc ?_ _)); exact BK303.out)⟩; have n1_ : Aside0 (Below w.heap.size w wr) := ⟨by rw [← hq_]; exact (by repeat (first | (with_reducible first | exact HB.out | apply below_alloc | apply pw_below_drewN | apply below_drew1 | refine below_set ?_ GE303.out) | exact HB.out))⟩; clear BK303 HB hq_; have BK303 := n0_; have HB := n1_; clear n0_ n1_))) | ((with_reducible refine gate_callee (f := 59) rfl ?_); refine goesL_ (some 31) rfl rfl Tryd.func59 (by kernel_rfl) rfl #[.string (a0.extract ((ji10) : Int).toNat a0.size)] rfl (by (try simp only [List.map_toArray, List.map_cons, List.map_nil]); first | done | (simp only [hji10]; rfl) | rfl | (simp only [List.length_drop, List.length_take]; rfl)) ?_; (with_reducible refine (spileref14_number.calls k1 (a0.extract ((ji10) : Int).toNat a0.size) t306 t307 _ A13.out).mono ?_); rintro e w' ⟨rfl, ⟨nd, rfl⟩⟩; refine ⟨_, rfl, ?_⟩; (try (rw [drewN_self wr]; generalize hq_ : World.drewN wr _ = wr; have n0_ : Aside0 (wr.heap[gb303]? = some (.cells #[.int .i64 x304000_1, .int .i64 x304001_1] 39 (0, 0))) := ⟨by rw [← hq_]; exact (by (with_reducible repeat (first | refine blk_drewN ?_ _ | refine blk_drew ?_ | refine blk_alloc ?_ _)); exact BK303.out)⟩; have n1_ : Aside0 (Below w.heap.size w wr) := ⟨by rw [← hq_]; exact (by repeat (first | (with_reducible first | exact HB.out | apply below_alloc | apply pw_below_drewN | apply below_drew1 | refine below_set ?_ GE303.out) | exact HB.out))⟩; clear BK303 HB hq_; have BK303 := n0_; have HB := n1_; clear n0_ n1_)); have hcz16_0 : wr.cell? ⟨gb303, 0, none⟩ = some (.int .i64 x304000_1) := (blk_cell BK303.out 0).trans rfl; have hcz16_1 : wr.cell? ⟨gb303, 1, none⟩ = some (.int .i64 x304001_1) := (blk_cell BK303.out 1).trans rfl; have hfz16_0 := blk_frozen BK303.out 0; have hfz16_1 := blk_frozen BK303.out 1))
          refine bodyPost_ret (results_ct rfl _ _ gb303 39 #[.int .i64 t304, .int .i64 t306] (0, 0) _ rfl (by (with_reducible repeat (first | refine blk_drewN ?_ _ | refine blk_drew ?_ | refine blk_alloc ?_ _)); refine blk_put (cs := #[.int .i64 t304, .int .i64 x304001_1]) ?_ 1 _ rfl; (with_reducible repeat (first | refine blk_drewN ?_ _ | refine blk_drew ?_ | refine blk_alloc ?_ _)); refine blk_put (cs := #[.int .i64 x304000_1, .int .i64 x304001_1]) ?_ 0 _ rfl; (with_reducible repeat (first | refine blk_drewN ?_ _ | refine blk_drew ?_ | refine blk_alloc ?_ _)); exact BK303.out) Tryd.underlying39 rfl (by kernel_rfl)) rfl ?_
          exact ⟨by first | rfl | (simp [errW_none, errW_some] <;> rfl) | (simp only [← hji10]; first | rfl | (simp [errW_none, errW_some] <;> rfl)) | (simp [*, errW_none, errW_some] <;> rfl), by repeat (first | (with_reducible first | exact HB.out | apply below_alloc | apply pw_below_drewN | apply below_drew1 | refine below_set ?_ GE303.out) | exact HB.out)⟩
        ·
         rw [if_neg c12] at H
         exact absurd H (by simp)
       ·
        rw [if_neg c11] at H
        exact absurd H (by simp)
      ·
       rw [if_neg c8] at H
       exact absurd H (by simp)
     ·
      rw [if_neg c6] at H
      have c6b0 : ((bt a0 x4_1) == 32) = false := beq_eq_false_iff_ne.mpr c6
      have c6b1 : ((bt a0 x4_1) != 32) = true := bne_iff_ne.mpr c6
      have H' := Aside0.mk H
      clear H
      have p5 : 0 ≤ (x4_1 : Int) := of_decide_eq_true (by first | (with_reducible assumption) | assumption)
      have q5 : x4_1 < (a0.size : Int) := of_decide_eq_true (by first | (with_reducible assumption) | assumption)
      have hx5 := bt_at a0 x4_1
      replace p5 := eq_true p5
      replace q5 := eq_true q5
      go_wp2
      go_roundg k1
      case measure => have := HK1.out; omega
      case rel => exact ⟨(wrap64 (x4_1 + 1)), (x304000_1), (x304001_1), (by first | rfl | (simp; done) | (simp [*]; done)), H', ⟨by have := HK1.out; omega⟩, ⟨by (with_reducible repeat (first | refine blk_drewN ?_ _ | refine blk_drew ?_ | refine blk_alloc ?_ _)); exact BK303.out⟩, ⟨by repeat (first | (with_reducible first | exact HB.out | apply below_alloc | apply pw_below_drewN | apply below_drew1 | refine below_set ?_ GE303.out) | exact HB.out)⟩⟩
    ·
     rw [if_neg c4] at H
     exact absurd H (by simp)
   ·
    rw [if_neg c3] at H
    have c3b0 : decide (x4_1 < (a0.size : Int)) = false := decide_eq_false c3
    clear c3
    simp only [Option.some.injEq, Prod.mk.injEq] at H
    obtain ⟨rfl, rfl, rfl⟩ := H
    have hcz17_0 : wr.cell? ⟨gb303, 0, none⟩ = some (.int .i64 x304000_1) := (blk_cell BK303.out 0).trans rfl
    have hcz17_1 : wr.cell? ⟨gb303, 1, none⟩ = some (.int .i64 x304001_1) := (blk_cell BK303.out 1).trans rfl
    have hfz17_0 := blk_frozen BK303.out 0
    have hfz17_1 := blk_frozen BK303.out 1
    go_wp2
    refine bodyPost_ret (results_ct rfl _ _ gb303 39 #[.int .i64 0, .int .i64 0] (0, 0) _ rfl (by (with_reducible repeat (first | refine blk_drewN ?_ _ | refine blk_drew ?_ | refine blk_alloc ?_ _)); refine blk_put (cs := #[.int .i64 0, .int .i64 x304001_1]) ?_ 1 _ rfl; (with_reducible repeat (first | refine blk_drewN ?_ _ | refine blk_drew ?_ | refine blk_alloc ?_ _)); refine blk_put (cs := #[.int .i64 x304000_1, .int .i64 x304001_1]) ?_ 0 _ rfl; (with_reducible repeat (first | refine blk_drewN ?_ _ | refine blk_drew ?_ | refine blk_alloc ?_ _)); exact BK303.out) Tryd.underlying39 rfl (by kernel_rfl)) rfl ?_
    exact ⟨by first | rfl | (simp [errW_none, errW_some] <;> rfl) | (simp [*, errW_none, errW_some] <;> rfl), by repeat (first | (with_reducible first | exact HB.out | apply below_alloc | apply pw_below_drewN | apply below_drew1 | refine below_set ?_ GE303.out) | exact HB.out)⟩
def spileref14_Parse.l0 : Nat → ByteArray → List (S39) → Int → Int → Option ((List (S39)) × Int × Int)
 | 0, _, _, _, _ => none
 | k + 1, x0, x5, x6, x7 => if x7 < (x0.size : Int) then (if 0 ≤ x7 then (if (bt x0 x7) = 10 then (if 0 ≤ x6 then (if x6 ≤ x7 then (if x7 ≤ (x0.size : Int) then ((spileref14_mark.f k (x0.extract (x6 : Int).toNat (x7 : Int).toNat)).bind fun bt308 => (if bt308.2.2 = true then (if x5.length < 8796093022208 then (spileref14_Parse.l0 k x0 (x5 ++ [(⟨bt308.1, bt308.2.1⟩ : S39)]) (wrap64 (x7 + 1)) (wrap64 (x7 + 1))) else (none)) else (some (([] : List (S39)), wrap64 ((x5.length : Int) + 1), 3)))) else (none)) else (none)) else (none)) else (spileref14_Parse.l0 k x0 x5 x6 (wrap64 (x7 + 1)))) else (none)) else (if x6 < (x0.size : Int) then (some (([] : List (S39)), wrap64 ((x5.length : Int) + 1), 3)) else ((spileref14_Check.f k x5).bind fun t315 => (if t315 = 0 then (some (x5, 0, 0)) else (some (([] : List (S39)), 0, t315)))))
def spileref14_Parse.f (k : Nat) (a0 : ByteArray) : Option ((List (S39)) × Int × Int) := if (a0.size : Int) > 4096 then (some (([] : List (S39)), 0, 8)) else (spileref14_Parse.l0 k a0 ([] : List (S39)) 0 0)
set_option maxHeartbeats 8000000 in
set_option maxRecDepth 100000 in
theorem spileref14_Parse.calls (k : Nat) (a0 : ByteArray) (r1 : List (S39)) (r2 : Int) (r3 : Int) (w : World) (h : spileref14_Parse.f k a0 = some (r1, r2, r3)) :
  Calls Tryd.prog 26 #[.string a0] w fun e w' => ∃ v0_ : Value, e = .returned (.tuple #[v0_, .int .i64 r2, .int .i64 r3]) ∧ Kd.R k39 39 w' w.heap.size (fun _ => True) v0_ r1 ∧ Below w.heap.size w w' := by
 have hu39 := Tryd.underlying39
 have HB := Aside0.mk (Below.refl w.heap.size w)
 have H : (if (a0.size : Int) > 4096 then (some (([] : List (S39)), 0, 8)) else (spileref14_Parse.l0 k a0 ([] : List (S39)) 0 0)) = some (r1, r2, r3) := h
 clear h
 by_cases c2 : (a0.size : Int) > 4096
 ·
  rw [if_pos c2] at H
  have c2b0 : decide (4096 < (a0.size : Int)) = true := decide_eq_true c2
  have c2b1 : decide (4096 < a0.size) = true := decide_eq_true (by omega)
  clear c2
  simp only [Option.some.injEq, Prod.mk.injEq] at H
  obtain ⟨rfl, rfl, rfl⟩ := H
  go_enter Tryd.func26, Tryd.ntmps26
  go_wp2
  go_ret3
  exact ⟨_, by first | rfl | (simp [errW_none, errW_some] <;> rfl) | (simp [*, errW_none, errW_some] <;> rfl), by first | exact Kd.R_nil _ _ _ _ _ | exact Kd.N_nil _ _ _ _ _ | exact Kd.V_nil _ _ _ _ _ | exact Kd.Q_nil _ _ _ _ _ | exact Kd.S_nil _ _ _ _ _, by repeat (first | (with_reducible first | exact HB.out | apply below_alloc | apply pw_below_drewN | apply below_drew1) | exact HB.out)⟩
 ·
  rw [if_neg c2] at H
  have c2b0 : decide (4096 < (a0.size : Int)) = false := decide_eq_false c2
  have c2b1 : decide (4096 < a0.size) = false := decide_eq_false (by omega)
  clear c2
  have H' := Aside0.mk H
  clear H
  go_enter Tryd.func26, Tryd.ntmps26
  go_wp2
  go_loopg [5, 6, 7] k (fun kq v5 v6 v7 w' => ∃ (x5_1 : List (S39)) (x6_1 : Int) (x7_1 : Int), v6 = .int .i64 x6_1 ∧ v7 = .int .i64 x7_1 ∧ Aside0 (spileref14_Parse.l0 kq a0 x5_1 x6_1 x7_1 = some (r1, r2, r3)) ∧ Aside0 (kq ≤ k) ∧ Aside0 (Kd.R k39 39 w' w.heap.size (fun _ => True) v5 x5_1) ∧ Aside0 (Below w.heap.size w w'))
  case atStart => exact ⟨(([] : List (S39))), (0), (0), (by first | rfl | (simp; done) | (simp [*]; done)), (by first | rfl | (simp; done) | (simp [*]; done)), H', ⟨Nat.le_refl _⟩, ⟨by first | exact Kd.R_nil _ _ _ _ _ | exact Kd.N_nil _ _ _ _ _ | exact Kd.V_nil _ _ _ _ _ | exact Kd.Q_nil _ _ _ _ _ | exact Kd.S_nil _ _ _ _ _⟩, ⟨by repeat (first | (with_reducible first | exact HB.out | apply below_alloc | apply pw_below_drewN | apply below_drew1) | exact HB.out)⟩⟩
  case round =>
   clear H'
   try clear c2
   try clear c2b0
   try clear c2b1
   try clear p2
   obtain ⟨x5_1, x6_1, x7_1, rfl, rfl, HA, HK1, HO_5, HB⟩ := hrel
   cases gk with
   | zero => exact absurd HA.out (by simp [spileref14_Parse.l0])
   | succ k1 =>
    have H := HA.out
    clear HA
    simp only [spileref14_Parse.l0] at H
    by_cases c3 : x7_1 < (a0.size : Int)
    ·
     rw [if_pos c3] at H
     have c3b0 : decide (x7_1 < (a0.size : Int)) = true := decide_eq_true c3
     clear c3
     by_cases c4 : 0 ≤ x7_1
     ·
      rw [if_pos c4] at H
      have c4b0 : decide (0 ≤ x7_1) = true := decide_eq_true c4
      clear c4
      by_cases c6 : (bt a0 x7_1) = 10
      ·
       rw [if_pos c6] at H
       have c6b0 : ((bt a0 x7_1) == 10) = true := beq_iff_eq.mpr c6
       have c6b1 : ((bt a0 x7_1) != 10) = false := bne_eq_false_iff_eq.mpr c6
       clear c6
       by_cases c7 : 0 ≤ x6_1
       ·
        rw [if_pos c7] at H
        have c7b0 := eq_true c7
        have c7b1 : decide (0 ≤ x6_1) = true := decide_eq_true c7
        clear c7
        by_cases c8 : x6_1 ≤ x7_1
        ·
         rw [if_pos c8] at H
         have c8b0 := eq_true c8
         have c8b1 : decide (x6_1 ≤ x7_1) = true := decide_eq_true c8
         clear c8
         by_cases c9 : x7_1 ≤ (a0.size : Int)
         ·
          rw [if_pos c9] at H
          have c9b0 := eq_true c9
          have c9b1 : decide (x7_1 ≤ (a0.size : Int)) = true := decide_eq_true c9
          clear c9
          replace H := Option.bind_eq_some_iff.mp H
          obtain ⟨⟨t308, t309, t310⟩, A100, H⟩ := H
          replace H : (if t310 = true then (if x5_1.length < 8796093022208 then (spileref14_Parse.l0 k1 a0 (x5_1 ++ [(⟨t308, t309⟩ : S39)]) (wrap64 (x7_1 + 1)) (wrap64 (x7_1 + 1))) else (none)) else (some (([] : List (S39)), wrap64 ((x5_1.length : Int) + 1), 3))) = some (r1, r2, r3) := H
          have A10 := Aside0.mk A100
          clear A100
          by_cases c11 : t310 = true
          ·
           subst c11
           have H1 : (if x5_1.length < 8796093022208 then (spileref14_Parse.l0 k1 a0 (x5_1 ++ [(⟨t308, t309⟩ : S39)]) (wrap64 (x7_1 + 1)) (wrap64 (x7_1 + 1))) else (none)) = some (r1, r2, r3) := by rw [if_pos rfl] at H; exact H
           clear H
           have H := H1
           clear H1
           by_cases c12 : x5_1.length < 8796093022208
           ·
            rw [if_pos c12] at H
            have LMc12 := Aside0.mk c12
            clear c12
            obtain ⟨y312, hy312⟩ : ∃ y_ : List (S39), y_ = (x5_1 ++ [(⟨t308, t309⟩ : S39)]) := ⟨_, rfl⟩
            replace H : (spileref14_Parse.l0 k1 a0 y312 (wrap64 (x7_1 + 1)) (wrap64 (x7_1 + 1))) = some (r1, r2, r3) := by first | (rw [hy312]; with_reducible exact H) | (have H2_ := (Option.bind_some _ _).symm.trans H; rw [hy312]; with_reducible exact H2_) | (have H2_ := (Option.bind_some _ _).symm.trans H; with_reducible exact H2_) | with_reducible exact H | (rw [hy312]; exact H) | exact H
            have Ny312 := Aside0.mk hy312
            clear hy312
            have H' := Aside0.mk H
            clear H
            have p5 : 0 ≤ (x7_1 : Int) := of_decide_eq_true (by first | (with_reducible assumption) | assumption)
            have q5 : x7_1 < (a0.size : Int) := of_decide_eq_true (by first | (with_reducible assumption) | assumption)
            have hx5 := bt_at a0 x7_1
            replace p5 := eq_true p5
            replace q5 := eq_true q5
            go_wp2_with (first | ((with_reducible refine gate_callee (f := 48) rfl ?_); refine goesL_ (some 29) rfl rfl Tryd.func48 (by kernel_rfl) rfl #[.string (a0.extract (x6_1 : Int).toNat (x7_1 : Int).toNat)] rfl (by (try simp only [List.map_toArray, List.map_cons, List.map_nil]); first | done | rfl | (simp only [List.length_drop, List.length_take]; rfl)) ?_; (with_reducible refine (spileref14_mark.calls k1 (a0.extract (x6_1 : Int).toNat (x7_1 : Int).toNat) t308 t309 true _ A10.out).mono ?_); rintro e w13 ⟨rfl, hb⟩; refine ⟨_, rfl, ?_⟩; have n0_ := Aside0.mk (Kd.R_below (by (with_reducible repeat (first | apply Kd.R_alloc | apply Kd.R_drewN | apply Kd.R_drew)); exact HO_5.out) hb); have n1_ := Aside0.mk (below_step (by repeat (first | (with_reducible first | exact HB.out | apply below_alloc | apply pw_below_drewN | apply below_drew1) | exact HB.out)) hb); clear HO_5; clear HB; have HO_5 := n0_; have HB := n1_; clear n0_ n1_; (try clear hb); (try clear hb2); (try clear hk); (try clear hi)) | ((with_reducible refine gate_dst (N := 8) rfl ?_); refine box_event ?hg (N := 8) ?hd (cs := #[.int .i64 0, .int .i64 0]) (t := 39) ?hr ?_; (case hd => rfl); (case hg => rfl); (case hr => first | (go_simp; done) | (go_simp; rfl)); intro gb311 hg w14 hbox hb; have n0_ := Aside0.mk (Kd.R_below (Kd.R_elderB (by (with_reducible repeat (first | apply Kd.R_alloc | apply Kd.R_drewN | apply Kd.R_drew)); exact HO_5.out) gb311 (Nat.le_of_eq hg.symm)) hb); have n1_ := Aside0.mk (below_step (by repeat (first | (with_reducible first | exact HB.out | apply below_alloc | apply pw_below_drewN | apply below_drew1) | exact HB.out)) hb); have n2_ := Aside0.mk (hbox); have n3_ := Aside0.mk ((by rw [hg]; exact (below_size (by repeat (first | (with_reducible first | exact HB.out | apply below_alloc | apply pw_below_drewN | apply below_drew1) | exact HB.out))) : w.heap.size ≤ gb311)); have n4_ := Aside0.mk ((by rw [hg]; exact (below_size (by repeat (first | (with_reducible first | exact HB.out | apply below_alloc | apply pw_below_drewN | apply below_drew1) | exact HB.out))) : w.heap.size ≤ gb311)); clear HO_5; clear HB; have HO_5 := n0_; have HB := n1_; have BK311 := n2_; have GW311 := n3_; have GE311 := n4_; clear n0_ n1_ n2_ n3_ n4_; clear hb hbox hg; have hcz15_0 : w14.cell? ⟨gb311, 0, none⟩ = some (.int .i64 0) := (blk_cell BK311.out 0).trans rfl; have hcz15_1 : w14.cell? ⟨gb311, 1, none⟩ = some (.int .i64 0) := (blk_cell BK311.out 1).trans rfl; have hfz15_0 := blk_frozen BK311.out 0; have hfz15_1 := blk_frozen BK311.out 1) | ((with_reducible refine gate_builtin (b := .append) (xs := #[.tmp 37, .tmp 39]) rfl ?_); at_builtin; refine Kd.R_append k39 (w0 := w) w.heap.size rfl (.tmp 37) (.tmp 39) 22 39 (.agg #[(.int .i64 0), (.int .i64 0)]) 16 rfl Tryd.underlying22 info39 rfl (by decide) (by omega) u5 x5_1 (⟨t308, t309⟩ : S39) [.int .i64 t308, .int .i64 t309] (fun k_ => k_ ≠ gb311) (fun _ => False) rfl (by first | (go_simp; done) | (go_simp; rfl)) ?aP (fun _ hk => hk.elim) ?aF ?aO ?aB ?aS ?aL ?_; (case aP => exact k39_mkM _ _ _ (⟨t308, t309⟩ : S39)); (case aB => exact (by repeat (first | (with_reducible first | exact HB.out | apply below_alloc | apply pw_below_drewN | apply below_drew1 | refine below_set ?_ GE311.out) | exact HB.out))); (case aF => exact (fun k_ hk => Kd.freshB (g := gb311) (o := .cells #[.int .i64 t308, .int .i64 t309] 39 (0, 0)) (by (with_reducible repeat (first | refine blk_drewN ?_ _ | refine blk_drew ?_ | refine blk_alloc ?_ _)); refine blk_put (cs := #[.int .i64 t308, .int .i64 0]) ?_ 1 _ rfl; (with_reducible repeat (first | refine blk_drewN ?_ _ | refine blk_drew ?_ | refine blk_alloc ?_ _)); refine blk_put (cs := #[.int .i64 0, .int .i64 0]) ?_ 0 _ rfl; (with_reducible repeat (first | refine blk_drewN ?_ _ | refine blk_drew ?_ | refine blk_alloc ?_ _)); exact BK311.out) k_ hk)); (case aO => exact (by (with_reducible repeat (first | apply Kd.R_alloc | apply Kd.R_drewN | apply Kd.R_drew)); exact Kd.R_mono (Kd.R_far (p := ⟨gb311, 1, none⟩) (Kd.R_far (p := ⟨gb311, 0, none⟩) (Kd.R_mono HO_5.out (fun k_ hk => (⟨hk, hk.2⟩ : _ ∧ k_ ≠ gb311))) (fun _ hk => hk.2) (.int .i64 t308)) (fun _ hk => hk.2) (.int .i64 t309)) (fun _ hk => hk.1.2))); (case aS => exact (below_size (by repeat (first | (with_reducible first | exact HB.out | apply below_alloc | apply pw_below_drewN | apply below_drew1 | refine below_set ?_ GE311.out) | exact HB.out)))); (case aL => have := LMc12.out; omega); intro v313 w16 ho hb hg hat; rw [← Ny312.out] at ho; have n0_ := Aside0.mk (blk_grown (g := gb311) (o := .cells #[.int .i64 t308, .int .i64 t309] 39 (0, 0)) (by (with_reducible repeat (first | refine blk_drewN ?_ _ | refine blk_drew ?_ | refine blk_alloc ?_ _)); refine blk_put (cs := #[.int .i64 t308, .int .i64 0]) ?_ 1 _ rfl; (with_reducible repeat (first | refine blk_drewN ?_ _ | refine blk_drew ?_ | refine blk_alloc ?_ _)); refine blk_put (cs := #[.int .i64 0, .int .i64 0]) ?_ 0 _ rfl; (with_reducible repeat (first | refine blk_drewN ?_ _ | refine blk_drew ?_ | refine blk_alloc ?_ _)); exact BK311.out) hg (Kd.R_away HO_5.out (fun _ hk => hk.2))); have n1_ := Aside0.mk (hb); have n2_ := Aside0.mk (ho); clear BK311; clear HB; clear HO_5; have BK311 := n0_; have HB := n1_; have HO314 := n2_; clear n0_ n1_ n2_; clear ho hb hg hat))
            go_roundg k1
            case measure => have := HK1.out; omega
            case rel => exact ⟨(y312), (wrap64 (x7_1 + 1)), (wrap64 (x7_1 + 1)), (by first | rfl | (simp; done) | (simp [*]; done)), (by first | rfl | (simp; done) | (simp [*]; done)), H', ⟨by have := HK1.out; omega⟩, ⟨by (with_reducible repeat (first | apply Kd.R_alloc | apply Kd.R_drewN | apply Kd.R_drew)); exact Kd.R_mono HO314.out (fun _ hk => trivial)⟩, ⟨by repeat (first | (with_reducible first | exact HB.out | apply below_alloc | apply pw_below_drewN | apply below_drew1 | refine below_set ?_ GE311.out) | exact HB.out)⟩⟩
           ·
            rw [if_neg c12] at H
            exact absurd H (by simp)
          ·
           replace c11 := Bool.eq_false_iff.mpr c11
           subst c11
           have H1 : (some (([] : List (S39)), wrap64 ((x5_1.length : Int) + 1), 3)) = some (r1, r2, r3) := by rw [if_neg (show ¬ (false = true) by decide)] at H; exact H
           clear H
           have H := H1
           clear H1
           simp only [Option.some.injEq, Prod.mk.injEq] at H
           obtain ⟨rfl, rfl, rfl⟩ := H
           have p5 : 0 ≤ (x7_1 : Int) := of_decide_eq_true (by first | (with_reducible assumption) | assumption)
           have q5 : x7_1 < (a0.size : Int) := of_decide_eq_true (by first | (with_reducible assumption) | assumption)
           have hx5 := bt_at a0 x7_1
           replace p5 := eq_true p5
           replace q5 := eq_true q5
           go_wp2_with (first | ((with_reducible refine gate_callee (f := 48) rfl ?_); refine goesL_ (some 29) rfl rfl Tryd.func48 (by kernel_rfl) rfl #[.string (a0.extract (x6_1 : Int).toNat (x7_1 : Int).toNat)] rfl (by (try simp only [List.map_toArray, List.map_cons, List.map_nil]); first | done | rfl | (simp only [List.length_drop, List.length_take]; rfl)) ?_; (with_reducible refine (spileref14_mark.calls k1 (a0.extract (x6_1 : Int).toNat (x7_1 : Int).toNat) t308 t309 false _ A10.out).mono ?_); rintro e w17 ⟨rfl, hb⟩; refine ⟨_, rfl, ?_⟩; have n0_ := Aside0.mk (Kd.R_below (by (with_reducible repeat (first | apply Kd.R_alloc | apply Kd.R_drewN | apply Kd.R_drew)); exact HO_5.out) hb); have n1_ := Aside0.mk (below_step (by repeat (first | (with_reducible first | exact HB.out | apply below_alloc | apply pw_below_drewN | apply below_drew1) | exact HB.out)) hb); clear HO_5; clear HB; have HO_5 := n0_; have HB := n1_; clear n0_ n1_; (try clear hb); (try clear hb2); (try clear hk); (try clear hi)) | ((with_reducible refine gate_dst (N := 8) rfl ?_); refine box_event ?hg (N := 8) ?hd (cs := #[.int .i64 0, .int .i64 0]) (t := 39) ?hr ?_; (case hd => rfl); (case hg => rfl); (case hr => first | (go_simp; done) | (go_simp; rfl)); intro gb311 hg w18 hbox hb; have n0_ := Aside0.mk (Kd.R_below (Kd.R_elderB (by (with_reducible repeat (first | apply Kd.R_alloc | apply Kd.R_drewN | apply Kd.R_drew)); exact HO_5.out) gb311 (Nat.le_of_eq hg.symm)) hb); have n1_ := Aside0.mk (below_step (by repeat (first | (with_reducible first | exact HB.out | apply below_alloc | apply pw_below_drewN | apply below_drew1) | exact HB.out)) hb); have n2_ := Aside0.mk (hbox); have n3_ := Aside0.mk ((by rw [hg]; exact (below_size (by repeat (first | (with_reducible first | exact HB.out | apply below_alloc | apply pw_below_drewN | apply below_drew1) | exact HB.out))) : w.heap.size ≤ gb311)); have n4_ := Aside0.mk ((by rw [hg]; exact (below_size (by repeat (first | (with_reducible first | exact HB.out | apply below_alloc | apply pw_below_drewN | apply below_drew1) | exact HB.out))) : w.heap.size ≤ gb311)); clear HO_5; clear HB; have HO_5 := n0_; have HB := n1_; have BK311 := n2_; have GW311 := n3_; have GE311 := n4_; clear n0_ n1_ n2_ n3_ n4_; clear hb hbox hg; have hcz19_0 : w18.cell? ⟨gb311, 0, none⟩ = some (.int .i64 0) := (blk_cell BK311.out 0).trans rfl; have hcz19_1 : w18.cell? ⟨gb311, 1, none⟩ = some (.int .i64 0) := (blk_cell BK311.out 1).trans rfl; have hfz19_0 := blk_frozen BK311.out 0; have hfz19_1 := blk_frozen BK311.out 1; obtain ⟨Ao20, co20, eo20⟩ := Kd.R_slice HO_5.out; subst eo20))
           go_ret3
           exact ⟨_, by first | rfl | (simp [errW_none, errW_some] <;> rfl) | (simp [*, errW_none, errW_some] <;> rfl), by first | exact Kd.R_nil _ _ _ _ _ | exact Kd.N_nil _ _ _ _ _ | exact Kd.V_nil _ _ _ _ _ | exact Kd.Q_nil _ _ _ _ _ | exact Kd.S_nil _ _ _ _ _, by repeat (first | (with_reducible first | exact HB.out | apply below_alloc | apply pw_below_drewN | apply below_drew1 | refine below_set ?_ GE311.out) | exact HB.out)⟩
         ·
          rw [if_neg c9] at H
          exact absurd H (by simp)
        ·
         rw [if_neg c8] at H
         exact absurd H (by simp)
       ·
        rw [if_neg c7] at H
        exact absurd H (by simp)
      ·
       rw [if_neg c6] at H
       have c6b0 : ((bt a0 x7_1) == 10) = false := beq_eq_false_iff_ne.mpr c6
       have c6b1 : ((bt a0 x7_1) != 10) = true := bne_iff_ne.mpr c6
       have H' := Aside0.mk H
       clear H
       have p5 : 0 ≤ (x7_1 : Int) := of_decide_eq_true (by first | (with_reducible assumption) | assumption)
       have q5 : x7_1 < (a0.size : Int) := of_decide_eq_true (by first | (with_reducible assumption) | assumption)
       have hx5 := bt_at a0 x7_1
       replace p5 := eq_true p5
       replace q5 := eq_true q5
       go_wp2
       go_roundg k1
       case measure => have := HK1.out; omega
       case rel => exact ⟨(x5_1), (x6_1), (wrap64 (x7_1 + 1)), (by first | rfl | (simp; done) | (simp [*]; done)), (by first | rfl | (simp; done) | (simp [*]; done)), H', ⟨by have := HK1.out; omega⟩, ⟨by (with_reducible repeat (first | apply Kd.R_alloc | apply Kd.R_drewN | apply Kd.R_drew)); exact HO_5.out⟩, ⟨by repeat (first | (with_reducible first | exact HB.out | apply below_alloc | apply pw_below_drewN | apply below_drew1) | exact HB.out)⟩⟩
     ·
      rw [if_neg c4] at H
      exact absurd H (by simp)
    ·
     rw [if_neg c3] at H
     have c3b0 : decide (x7_1 < (a0.size : Int)) = false := decide_eq_false c3
     clear c3
     by_cases c21 : x6_1 < (a0.size : Int)
     ·
      rw [if_pos c21] at H
      have c21b0 : decide (x6_1 < (a0.size : Int)) = true := decide_eq_true c21
      clear c21
      simp only [Option.some.injEq, Prod.mk.injEq] at H
      obtain ⟨rfl, rfl, rfl⟩ := H
      obtain ⟨Ao22, co22, eo22⟩ := Kd.R_slice HO_5.out
      subst eo22
      go_wp2
      go_ret3
      exact ⟨_, by first | rfl | (simp [errW_none, errW_some] <;> rfl) | (simp [*, errW_none, errW_some] <;> rfl), by first | exact Kd.R_nil _ _ _ _ _ | exact Kd.N_nil _ _ _ _ _ | exact Kd.V_nil _ _ _ _ _ | exact Kd.Q_nil _ _ _ _ _ | exact Kd.S_nil _ _ _ _ _, by repeat (first | (with_reducible first | exact HB.out | apply below_alloc | apply pw_below_drewN | apply below_drew1) | exact HB.out)⟩
     ·
      rw [if_neg c21] at H
      have c21b0 : decide (x6_1 < (a0.size : Int)) = false := decide_eq_false c21
      clear c21
      replace H := Option.bind_eq_some_iff.mp H
      obtain ⟨t315, A230, H⟩ := H
      replace H : (if t315 = 0 then (some (x5_1, 0, 0)) else (some (([] : List (S39)), 0, t315))) = some (r1, r2, r3) := H
      have A23 := Aside0.mk A230
      clear A230
      by_cases c24 : t315 = 0
      ·
       rw [if_pos c24] at H
       have c24b0 : (t315 == 0) = true := beq_iff_eq.mpr c24
       have c24b1 : (t315 != 0) = false := bne_eq_false_iff_eq.mpr c24
       clear c24
       simp only [Option.some.injEq, Prod.mk.injEq] at H
       obtain ⟨rfl, rfl, rfl⟩ := H
       obtain ⟨Ao25, co25, eo25⟩ := Kd.R_slice HO_5.out
       subst eo25
       go_wp2_with (first | ((with_reducible refine gate_callee (f := 22) rfl ?_); refine goesL_ (some 51) rfl rfl Tryd.func22 (by kernel_rfl) rfl #[.slice Ao25 x5_1.length co25] rfl (by (try simp only [List.map_toArray, List.map_cons, List.map_nil]); first | done | rfl | (simp only [List.length_drop, List.length_take]; rfl)) ?_; (with_reducible refine (spileref14_Check.calls k1 _ _ x5_1 t315 _ ?side1 ?side2 A23.out).mono ?_); (case side1 => repeat (first | exact (Kd.R_reads' HO_5.out).2.2 | (with_reducible refine Kd.C_alloc ?_ _) | (with_reducible refine Kd.C_drewN ?_ _) | (with_reducible refine Kd.C_drew ?_))); (case side2 => exact (Kd.R_reads' HO_5.out).2.1); rintro e w' ⟨rfl, ⟨nd, rfl⟩⟩; refine ⟨_, rfl, ?_⟩))
       go_ret3
       exact ⟨_, by first | rfl | (simp [errW_none, errW_some] <;> rfl) | (simp [*, errW_none, errW_some] <;> rfl), by (with_reducible repeat (first | apply Kd.R_alloc | apply Kd.R_drewN | apply Kd.R_drew)); exact HO_5.out, by repeat (first | (with_reducible first | exact HB.out | apply below_alloc | apply pw_below_drewN | apply below_drew1) | exact HB.out)⟩
      ·
       rw [if_neg c24] at H
       have c24b0 : (t315 == 0) = false := beq_eq_false_iff_ne.mpr c24
       have c24b1 : (t315 != 0) = true := bne_iff_ne.mpr c24
       simp only [Option.some.injEq, Prod.mk.injEq] at H
       obtain ⟨rfl, rfl, rfl⟩ := H
       obtain ⟨Ao26, co26, eo26⟩ := Kd.R_slice HO_5.out
       subst eo26
       go_wp2_with (first | ((with_reducible refine gate_callee (f := 22) rfl ?_); refine goesL_ (some 51) rfl rfl Tryd.func22 (by kernel_rfl) rfl #[.slice Ao26 x5_1.length co26] rfl (by (try simp only [List.map_toArray, List.map_cons, List.map_nil]); first | done | rfl | (simp only [List.length_drop, List.length_take]; rfl)) ?_; (with_reducible refine (spileref14_Check.calls k1 _ _ x5_1 t315 _ ?side1 ?side2 A23.out).mono ?_); (case side1 => repeat (first | exact (Kd.R_reads' HO_5.out).2.2 | (with_reducible refine Kd.C_alloc ?_ _) | (with_reducible refine Kd.C_drewN ?_ _) | (with_reducible refine Kd.C_drew ?_))); (case side2 => exact (Kd.R_reads' HO_5.out).2.1); rintro e w' ⟨rfl, ⟨nd, rfl⟩⟩; refine ⟨_, rfl, ?_⟩))
       go_ret3
       exact ⟨_, by first | rfl | (simp [errW_none, errW_some] <;> rfl) | (simp [*, errW_none, errW_some] <;> rfl), by first | exact Kd.R_nil _ _ _ _ _ | exact Kd.N_nil _ _ _ _ _ | exact Kd.V_nil _ _ _ _ _ | exact Kd.Q_nil _ _ _ _ _ | exact Kd.S_nil _ _ _ _ _, by repeat (first | (with_reducible first | exact HB.out | apply below_alloc | apply pw_below_drewN | apply below_drew1) | exact HB.out)⟩
def spilelaw14_RodTexts.j0 : Nat → List (S39) → ByteArray → Bool → Option (Bool)
 | 0, _, _, _ => none
 | k + 1, x0, x1, x25 => if x25 = true then (some true) else ((slices_Clone39.f x0).bind fun t318 => ((rod_Print.f k t318).bind fun bt321 => ((spileref14_Print.f k x0).bind fun bt323 => ((rod_Parse.f k x1).bind fun bt325 => ((spileref14_Parse.f k x1).bind fun bt330 => (if bt321.1.toList = bt323.1.toList then (if bt321.2 = bt323.2 then ((spileref14_Same.f k bt325.1 bt330.1).bind fun t335 => (if t335 = true then (if bt325.2.1 = bt330.2.1 then (some (bt325.2.2 == bt330.2.2)) else (some false)) else (some false))) else (some false)) else (some false)))))))
def spilelaw14_RodTexts.f (k : Nat) (l0 : List (S39)) (a1 : ByteArray) : Option (Bool) := (spilelaw14_awake.f).bind fun t316 => (if t316 = true then ((spilelaw14_few.f l0 ([] : List (S39)) 0).bind fun t317 => (if t317 = true then (spilelaw14_RodTexts.j0 k l0 a1 (decide ((a1.size : Int) > 1000))) else (spilelaw14_RodTexts.j0 k l0 a1 true))) else (some false))
set_option maxHeartbeats 8000000 in
set_option maxRecDepth 100000 in
theorem spilelaw14_RodTexts.calls (k : Nat) (A0 : Option Addr) (c0 : Nat) (l0 : List (S39)) (a1 : ByteArray) (r : Bool) (w : World) (hr0 : Kd.C k39 w A0 l0.length l0) (hc0 : l0.length ≤ c0) (hG : GI w) (hr_ : r = true) (h : spilelaw14_RodTexts.f k l0 a1 = some r) :
  Calls Tryd.prog 5 #[.slice A0 l0.length c0, .string a1] w fun e w' => e = .returned (.bool r) ∧ Below w.heap.size w w' := by
 have hu24 := Tryd.underlying24
 have HR0 := Aside0.mk hr0
 have HC0 := Aside0.mk hc0
 clear hr0 hc0
 have HG := Aside0.mk hG
 clear hG
 have HB := Aside0.mk (Below.refl w.heap.size w)
 have H : ((spilelaw14_awake.f).bind fun t316 => (if t316 = true then ((spilelaw14_few.f l0 ([] : List (S39)) 0).bind fun t317 => (if t317 = true then (spilelaw14_RodTexts.j0 k l0 a1 (decide ((a1.size : Int) > 1000))) else (spilelaw14_RodTexts.j0 k l0 a1 true))) else (some false))) = some r := h
 clear h
 replace H := Option.bind_eq_some_iff.mp H
 obtain ⟨t316, A30, H⟩ := H
 replace H : (if t316 = true then ((spilelaw14_few.f l0 ([] : List (S39)) 0).bind fun t317 => (if t317 = true then (spilelaw14_RodTexts.j0 k l0 a1 (decide ((a1.size : Int) > 1000))) else (spilelaw14_RodTexts.j0 k l0 a1 true))) else (some false)) = some r := H
 have A3 := Aside0.mk A30
 clear A30
 by_cases c4 : t316 = true
 ·
  subst c4
  have H1 : ((spilelaw14_few.f l0 ([] : List (S39)) 0).bind fun t317 => (if t317 = true then (spilelaw14_RodTexts.j0 k l0 a1 (decide ((a1.size : Int) > 1000))) else (spilelaw14_RodTexts.j0 k l0 a1 true))) = some r := by rw [if_pos rfl] at H; exact H
  clear H
  have H := H1
  clear H1
  have HC5 := Aside0.mk H
  clear H
  go_enter Tryd.func5, Tryd.ntmps5
  go_upto_region 3 with (first | ((with_reducible refine gate_callee (f := 10) rfl ?_); refine goesL_ (some 15) rfl rfl Tryd.func10 (by kernel_rfl) rfl #[] rfl (by (try simp only [List.map_toArray, List.map_cons, List.map_nil]); first | done | rfl | (simp only [List.length_drop, List.length_take]; rfl)) ?_; (with_reducible refine (spilelaw14_awake.calls  true _ ?side1 A3.out).mono ?_); (case side1 => exact GI.below HG.out (by repeat (first | (with_reducible first | exact HB.out | apply below_alloc | apply pw_below_drewN | apply below_drew1) | exact HB.out))); rintro e w6 ⟨rfl, hb⟩; refine ⟨_, rfl, ?_⟩; have n0_ := Aside0.mk (below_step (by repeat (first | (with_reducible first | exact HB.out | apply below_alloc | apply pw_below_drewN | apply below_drew1) | exact HB.out)) hb); clear HB; have HB := n0_; clear n0_; (try clear hb); (try clear hb2); (try clear hk); (try clear hi)))
  (try simp only [Act.put, List.setIfInBounds_toArray, List.set_cons_zero, List.set_cons_succ])
  go_cut [25] (fun v25 wc => ∃ (kq : Nat) (x25_4 : Bool), v25 = .bool x25_4 ∧ Aside0 (spilelaw14_RodTexts.j0 kq l0 a1 x25_4 = some r) ∧ Aside0 (kq ≤ k) ∧ Aside0 (Below w.heap.size w wc))
  case first =>
   have H := HC5.out
   clear HC5
   replace H := Option.bind_eq_some_iff.mp H
   obtain ⟨t317, A70, H⟩ := H
   replace H : (if t317 = true then (spilelaw14_RodTexts.j0 k l0 a1 (decide ((a1.size : Int) > 1000))) else (spilelaw14_RodTexts.j0 k l0 a1 true)) = some r := H
   have A7 := Aside0.mk A70
   clear A70
   by_cases c8 : t317 = true
   ·
    subst c8
    have H1 : (spilelaw14_RodTexts.j0 k l0 a1 (decide ((a1.size : Int) > 1000))) = some r := by rw [if_pos rfl] at H; exact H
    clear H
    have H := H1
    clear H1
    have H' := Aside0.mk H
    clear H
    go_wp2_with (first | ((with_reducible refine gate_callee (f := 11) rfl ?_); refine goesL_ (some 19) rfl rfl Tryd.func11 (by kernel_rfl) rfl #[.slice A0 l0.length c0, .agg #[.slice none 0 0, .int .i64 0]] rfl (by (try simp only [List.map_toArray, List.map_cons, List.map_nil]); first | done | rfl | (simp only [List.length_drop, List.length_take]; rfl)) ?_; (refine (spilelaw14_few.calls _ _ l0 _ _ ([] : List (S39)) 0 true _ ?side1 ?side2 ?side3 ?side4 A7.out).mono ?_); (case side1 => repeat (first | exact (Kd.C_below HR0.out HB.out) | (with_reducible refine Kd.C_alloc ?_ _) | (with_reducible refine Kd.C_drewN ?_ _) | (with_reducible refine Kd.C_drew ?_))); (case side2 => exact HC0.out); (case side3 => exact Kd.C_nil _ _); (case side4 => exact Nat.le_refl _); rintro e w9 ⟨rfl, hb⟩; refine ⟨_, rfl, ?_⟩; have n0_ := Aside0.mk (below_step (by repeat (first | (with_reducible first | exact HB.out | apply below_alloc | apply pw_below_drewN | apply below_drew1) | exact HB.out)) hb); clear HB; have HB := n0_; clear n0_; (try clear hb); (try clear hb2); (try clear hk); (try clear hi)))
    go_meet
    case rel => exact ⟨_, (decide ((a1.size : Int) > 1000)), (by first | rfl | (simp; done) | (simp [*]; done)), H', ⟨by first | omega | exact Nat.le_refl _⟩, ⟨by repeat (first | (with_reducible first | exact HB.out | apply below_alloc | apply pw_below_drewN | apply below_drew1) | exact HB.out)⟩⟩
   ·
    replace c8 := Bool.eq_false_iff.mpr c8
    subst c8
    have H1 : (spilelaw14_RodTexts.j0 k l0 a1 true) = some r := by rw [if_neg (show ¬ (false = true) by decide)] at H; exact H
    clear H
    have H := H1
    clear H1
    have H' := Aside0.mk H
    clear H
    go_wp2_with (first | ((with_reducible refine gate_callee (f := 11) rfl ?_); refine goesL_ (some 19) rfl rfl Tryd.func11 (by kernel_rfl) rfl #[.slice A0 l0.length c0, .agg #[.slice none 0 0, .int .i64 0]] rfl (by (try simp only [List.map_toArray, List.map_cons, List.map_nil]); first | done | rfl | (simp only [List.length_drop, List.length_take]; rfl)) ?_; (refine (spilelaw14_few.calls _ _ l0 _ _ ([] : List (S39)) 0 false _ ?side1 ?side2 ?side3 ?side4 A7.out).mono ?_); (case side1 => repeat (first | exact (Kd.C_below HR0.out HB.out) | (with_reducible refine Kd.C_alloc ?_ _) | (with_reducible refine Kd.C_drewN ?_ _) | (with_reducible refine Kd.C_drew ?_))); (case side2 => exact HC0.out); (case side3 => exact Kd.C_nil _ _); (case side4 => exact Nat.le_refl _); rintro e w10 ⟨rfl, hb⟩; refine ⟨_, rfl, ?_⟩; have n0_ := Aside0.mk (below_step (by repeat (first | (with_reducible first | exact HB.out | apply below_alloc | apply pw_below_drewN | apply below_drew1) | exact HB.out)) hb); clear HB; have HB := n0_; clear n0_; (try clear hb); (try clear hb2); (try clear hk); (try clear hi)))
    go_meet
    case rel => exact ⟨_, (true), (by first | rfl | (simp; done) | (simp [*]; done)), H', ⟨by first | omega | exact Nat.le_refl _⟩, ⟨by repeat (first | (with_reducible first | exact HB.out | apply below_alloc | apply pw_below_drewN | apply below_drew1) | exact HB.out)⟩⟩
  case rest =>
   clear HC5
   try clear c1
   try clear p2
   try clear c4
   try clear c5
   try clear c8
   try clear c10
   obtain ⟨kq, x25_4, rfl, HA, HJ4, HB⟩ := hcut
   cases kq with
   | zero => exact absurd HA.out (by simp [spilelaw14_RodTexts.j0])
   | succ kj4 =>
    have H := HA.out
    clear HA
    simp only [spilelaw14_RodTexts.j0] at H
    by_cases c11 : x25_4 = true
    ·
     subst c11
     have H1 : (some true) = some r := by rw [if_pos rfl] at H; exact H
     clear H
     have H := H1
     clear H1
     obtain rfl := Option.some.inj H
     go_wp2
     go_ret
     exact ⟨by first | rfl | (simp [errW_none, errW_some] <;> rfl) | (simp [*, errW_none, errW_some] <;> rfl), by repeat (first | (with_reducible first | exact HB.out | apply below_alloc | apply pw_below_drewN | apply below_drew1) | exact HB.out)⟩
    ·
     replace c11 := Bool.eq_false_iff.mpr c11
     subst c11
     have H1 : ((slices_Clone39.f l0).bind fun t318 => ((rod_Print.f kj4 t318).bind fun bt321 => ((spileref14_Print.f kj4 l0).bind fun bt323 => ((rod_Parse.f kj4 a1).bind fun bt325 => ((spileref14_Parse.f kj4 a1).bind fun bt330 => (if bt321.1.toList = bt323.1.toList then (if bt321.2 = bt323.2 then ((spileref14_Same.f kj4 bt325.1 bt330.1).bind fun t335 => (if t335 = true then (if bt325.2.1 = bt330.2.1 then (some (bt325.2.2 == bt330.2.2)) else (some false)) else (some false))) else (some false)) else (some false))))))) = some r := by rw [if_neg (show ¬ (false = true) by decide)] at H; exact H
     clear H
     have H := H1
     clear H1
     replace H := Option.bind_eq_some_iff.mp H
     obtain ⟨t318, A120, H⟩ := H
     replace H : ((rod_Print.f kj4 t318).bind fun bt321 => ((spileref14_Print.f kj4 l0).bind fun bt323 => ((rod_Parse.f kj4 a1).bind fun bt325 => ((spileref14_Parse.f kj4 a1).bind fun bt330 => (if bt321.1.toList = bt323.1.toList then (if bt321.2 = bt323.2 then ((spileref14_Same.f kj4 bt325.1 bt330.1).bind fun t335 => (if t335 = true then (if bt325.2.1 = bt330.2.1 then (some (bt325.2.2 == bt330.2.2)) else (some false)) else (some false))) else (some false)) else (some false)))))) = some r := H
     have A12 := Aside0.mk A120
     clear A120
     replace H := Option.bind_eq_some_iff.mp H
     obtain ⟨⟨t321, t322⟩, A130, H⟩ := H
     replace H : ((spileref14_Print.f kj4 l0).bind fun bt323 => ((rod_Parse.f kj4 a1).bind fun bt325 => ((spileref14_Parse.f kj4 a1).bind fun bt330 => (if t321.toList = bt323.1.toList then (if t322 = bt323.2 then ((spileref14_Same.f kj4 bt325.1 bt330.1).bind fun t335 => (if t335 = true then (if bt325.2.1 = bt330.2.1 then (some (bt325.2.2 == bt330.2.2)) else (some false)) else (some false))) else (some false)) else (some false))))) = some r := H
     have A13 := Aside0.mk A130
     clear A130
     replace H := Option.bind_eq_some_iff.mp H
     obtain ⟨⟨t323, t324⟩, A140, H⟩ := H
     replace H : ((rod_Parse.f kj4 a1).bind fun bt325 => ((spileref14_Parse.f kj4 a1).bind fun bt330 => (if t321.toList = t323.toList then (if t322 = t324 then ((spileref14_Same.f kj4 bt325.1 bt330.1).bind fun t335 => (if t335 = true then (if bt325.2.1 = bt330.2.1 then (some (bt325.2.2 == bt330.2.2)) else (some false)) else (some false))) else (some false)) else (some false)))) = some r := H
     have A14 := Aside0.mk A140
     clear A140
     replace H := Option.bind_eq_some_iff.mp H
     obtain ⟨⟨t325, t326, t327⟩, A150, H⟩ := H
     replace H : ((spileref14_Parse.f kj4 a1).bind fun bt330 => (if t321.toList = t323.toList then (if t322 = t324 then ((spileref14_Same.f kj4 t325 bt330.1).bind fun t335 => (if t335 = true then (if t326 = bt330.2.1 then (some (t327 == bt330.2.2)) else (some false)) else (some false))) else (some false)) else (some false))) = some r := H
     have A15 := Aside0.mk A150
     clear A150
     replace H := Option.bind_eq_some_iff.mp H
     obtain ⟨⟨t330, t331, t332⟩, A160, H⟩ := H
     replace H : (if t321.toList = t323.toList then (if t322 = t324 then ((spileref14_Same.f kj4 t325 t330).bind fun t335 => (if t335 = true then (if t326 = t331 then (some (t327 == t332)) else (some false)) else (some false))) else (some false)) else (some false)) = some r := H
     have A16 := Aside0.mk A160
     clear A160
     by_cases c17 : t321.toList = t323.toList
     ·
      rw [if_pos c17] at H
      have c17b0 : (t321.toList == t323.toList) = true := beq_iff_eq.mpr c17
      have c17b1 : (t321.toList != t323.toList) = false := bne_eq_false_iff_eq.mpr c17
      clear c17
      by_cases c18 : t322 = t324
      ·
       rw [if_pos c18] at H
       have c18b0 : (t322 == t324) = true := beq_iff_eq.mpr c18
       have c18b1 : (t322 != t324) = false := bne_eq_false_iff_eq.mpr c18
       clear c18
       replace H := Option.bind_eq_some_iff.mp H
       obtain ⟨t335, A190, H⟩ := H
       replace H : (if t335 = true then (if t326 = t331 then (some (t327 == t332)) else (some false)) else (some false)) = some r := H
       have A19 := Aside0.mk A190
       clear A190
       by_cases c20 : t335 = true
       ·
        subst c20
        have H1 : (if t326 = t331 then (some (t327 == t332)) else (some false)) = some r := by rw [if_pos rfl] at H; exact H
        clear H
        have H := H1
        clear H1
        by_cases c21 : t326 = t331
        ·
         rw [if_pos c21] at H
         have c21b0 : (t326 == t331) = true := beq_iff_eq.mpr c21
         have c21b1 : (t326 != t331) = false := bne_eq_false_iff_eq.mpr c21
         clear c21
         obtain rfl := Option.some.inj H
         go_wp2_with (first | ((with_reducible refine gate_callee (f := 17) rfl ?_); refine goesL_ (some 28) rfl rfl Tryd.func17 (by kernel_rfl) rfl #[.slice A0 l0.length c0] rfl (by (try simp only [List.map_toArray, List.map_cons, List.map_nil]); first | done | rfl | (simp only [List.length_drop, List.length_take]; rfl)) ?_; (with_reducible refine (slices_Clone39.calls _ _ l0 t318 _ ?side1 ?side2 A12.out).mono ?_); (case side1 => repeat (first | exact (Kd.C_below HR0.out HB.out) | (with_reducible refine Kd.C_alloc ?_ _) | (with_reducible refine Kd.C_drewN ?_ _) | (with_reducible refine Kd.C_drew ?_))); (case side2 => exact HC0.out); rintro e w22 ⟨v319, rfl, ho0, hb⟩; refine ⟨_, rfl, ?_⟩; have n0_ := Aside0.mk (Kd.R_lower ho0 (below_size (by repeat (first | (with_reducible first | exact HB.out | apply below_alloc | apply pw_below_drewN | apply below_drew1) | exact HB.out)))); have n1_ := Aside0.mk (below_step (by repeat (first | (with_reducible first | exact HB.out | apply below_alloc | apply pw_below_drewN | apply below_drew1) | exact HB.out)) hb); clear HB; have HO320 := n0_; have HB := n1_; clear n0_ n1_; (try clear hb); (try clear hb2); (try clear hk); (try clear hi); (try clear ho0); obtain ⟨Ao23, co23, eo23⟩ := Kd.R_slice HO320.out; subst eo23) | ((with_reducible refine gate_callee (f := 23) rfl ?_); refine goesL_ (some 29) rfl rfl Tryd.func23 (by kernel_rfl) rfl #[.slice Ao23 t318.length co23] rfl (by (try simp only [List.map_toArray, List.map_cons, List.map_nil]); first | done | rfl | (simp only [List.length_drop, List.length_take]; rfl)) ?_; (with_reducible refine (rod_Print.calls kj4 _ _ t318 t321 t322 _ ?side1 ?side2 ?side3 A13.out).mono ?_); (case side1 => repeat (first | exact (Kd.R_reads' HO320.out).2.2 | (with_reducible refine Kd.C_alloc ?_ _) | (with_reducible refine Kd.C_drewN ?_ _) | (with_reducible refine Kd.C_drew ?_))); (case side2 => exact (Kd.R_reads' HO320.out).2.1); (case side3 => exact GI.below HG.out (by repeat (first | (with_reducible first | exact HB.out | apply below_alloc | apply pw_below_drewN | apply below_drew1) | exact HB.out))); rintro e w24 ⟨rfl, hb⟩; refine ⟨_, rfl, ?_⟩; have n0_ := Aside0.mk (Kd.R_below (by (with_reducible repeat (first | apply Kd.R_alloc | apply Kd.R_drewN | apply Kd.R_drew)); exact HO320.out) hb); have n1_ := Aside0.mk (below_step (by repeat (first | (with_reducible first | exact HB.out | apply below_alloc | apply pw_below_drewN | apply below_drew1) | exact HB.out)) hb); clear HO320; clear HB; have HO320 := n0_; have HB := n1_; clear n0_ n1_; (try clear hb); (try clear hb2); (try clear hk); (try clear hi)) | ((with_reducible refine gate_callee (f := 24) rfl ?_); refine goesL_ (some 34) rfl rfl Tryd.func24 (by kernel_rfl) rfl #[.slice A0 l0.length c0] rfl (by (try simp only [List.map_toArray, List.map_cons, List.map_nil]); first | done | rfl | (simp only [List.length_drop, List.length_take]; rfl)) ?_; (with_reducible refine (spileref14_Print.calls kj4 _ _ l0 t323 t324 _ ?side1 ?side2 ?side3 A14.out).mono ?_); (case side1 => repeat (first | exact (Kd.C_below HR0.out HB.out) | (with_reducible refine Kd.C_alloc ?_ _) | (with_reducible refine Kd.C_drewN ?_ _) | (with_reducible refine Kd.C_drew ?_))); (case side2 => exact HC0.out); (case side3 => exact GI.below HG.out (by repeat (first | (with_reducible first | exact HB.out | apply below_alloc | apply pw_below_drewN | apply below_drew1) | exact HB.out))); rintro e w25 ⟨rfl, hb⟩; refine ⟨_, rfl, ?_⟩; have n0_ := Aside0.mk (Kd.R_below (by (with_reducible repeat (first | apply Kd.R_alloc | apply Kd.R_drewN | apply Kd.R_drew)); exact HO320.out) hb); have n1_ := Aside0.mk (below_step (by repeat (first | (with_reducible first | exact HB.out | apply below_alloc | apply pw_below_drewN | apply below_drew1) | exact HB.out)) hb); clear HO320; clear HB; have HO320 := n0_; have HB := n1_; clear n0_ n1_; (try clear hb); (try clear hb2); (try clear hk); (try clear hi)) | ((with_reducible refine gate_callee (f := 25) rfl ?_); refine goesL_ (some 39) rfl rfl Tryd.func25 (by kernel_rfl) rfl #[.string a1] rfl (by (try simp only [List.map_toArray, List.map_cons, List.map_nil]); first | done | rfl | (simp only [List.length_drop, List.length_take]; rfl)) ?_; (with_reducible refine (rod_Parse.calls kj4 a1 t325 t326 t327 _ ?side1 A15.out).mono ?_); (case side1 => exact GI.below HG.out (by repeat (first | (with_reducible first | exact HB.out | apply below_alloc | apply pw_below_drewN | apply below_drew1) | exact HB.out))); rintro e w26 ⟨v328, rfl, ho0, hb⟩; refine ⟨_, rfl, ?_⟩; have n0_ := Aside0.mk (Kd.R_elder' (by (with_reducible repeat (first | apply Kd.R_alloc | apply Kd.R_drewN | apply Kd.R_drew)); exact HO320.out) (Kd.R_base ho0) hb); have n1_ := Aside0.mk (Kd.R_lower (Kd.R_new' ho0 (Kd.R_lt (by (with_reducible repeat (first | apply Kd.R_alloc | apply Kd.R_drewN | apply Kd.R_drew)); exact HO320.out))) (below_size (by repeat (first | (with_reducible first | exact HB.out | apply below_alloc | apply pw_below_drewN | apply below_drew1) | exact HB.out)))); have n2_ := Aside0.mk (below_step (by repeat (first | (with_reducible first | exact HB.out | apply below_alloc | apply pw_below_drewN | apply below_drew1) | exact HB.out)) hb); clear HO320; clear HB; have HO320 := n0_; have HO329 := n1_; have HB := n2_; clear n0_ n1_ n2_; (try clear hb); (try clear hb2); (try clear hk); (try clear hi); (try clear ho0)) | ((with_reducible refine gate_callee (f := 26) rfl ?_); refine goesL_ (some 45) rfl rfl Tryd.func26 (by kernel_rfl) rfl #[.string a1] rfl (by (try simp only [List.map_toArray, List.map_cons, List.map_nil]); first | done | rfl | (simp only [List.length_drop, List.length_take]; rfl)) ?_; (with_reducible refine (spileref14_Parse.calls kj4 a1 t330 t331 t332 _ A16.out).mono ?_); rintro e w27 ⟨v333, rfl, ho0, hb⟩; refine ⟨_, rfl, ?_⟩; have n0_ := Aside0.mk (Kd.R_elder' (by (with_reducible repeat (first | apply Kd.R_alloc | apply Kd.R_drewN | apply Kd.R_drew)); exact HO320.out) (Kd.R_base ho0) hb); have n1_ := Aside0.mk (Kd.R_elder' (by (with_reducible repeat (first | apply Kd.R_alloc | apply Kd.R_drewN | apply Kd.R_drew)); exact HO329.out) (Kd.R_base ho0) hb); have n2_ := Aside0.mk (Kd.R_lower (Kd.R_new' (Kd.R_new' ho0 (Kd.R_lt (by (with_reducible repeat (first | apply Kd.R_alloc | apply Kd.R_drewN | apply Kd.R_drew)); exact HO320.out))) (Kd.R_lt (by (with_reducible repeat (first | apply Kd.R_alloc | apply Kd.R_drewN | apply Kd.R_drew)); exact HO329.out))) (below_size (by repeat (first | (with_reducible first | exact HB.out | apply below_alloc | apply pw_below_drewN | apply below_drew1) | exact HB.out)))); have n3_ := Aside0.mk (below_step (by repeat (first | (with_reducible first | exact HB.out | apply below_alloc | apply pw_below_drewN | apply below_drew1) | exact HB.out)) hb); clear HO320; clear HO329; clear HB; have HO320 := n0_; have HO329 := n1_; have HO334 := n2_; have HB := n3_; clear n0_ n1_ n2_ n3_; (try clear hb); (try clear hb2); (try clear hk); (try clear hi); (try clear ho0); obtain ⟨Ao28, co28, eo28⟩ := Kd.R_slice HO329.out; subst eo28; obtain ⟨Ao29, co29, eo29⟩ := Kd.R_slice HO334.out; subst eo29) | (go_at_call 15; (with_reducible refine (spileref14_Same.calls kj4 _ _ t325 _ _ t330 true _ ?side1 ?side2 ?side3 ?side4 A19.out).mono ?_); (case side1 => repeat (first | exact (Kd.R_reads' HO329.out).2.2 | (with_reducible refine Kd.C_alloc ?_ _) | (with_reducible refine Kd.C_drewN ?_ _) | (with_reducible refine Kd.C_drew ?_))); (case side2 => exact (Kd.R_reads' HO329.out).2.1); (case side3 => repeat (first | exact (Kd.R_reads' HO334.out).2.2 | (with_reducible refine Kd.C_alloc ?_ _) | (with_reducible refine Kd.C_drewN ?_ _) | (with_reducible refine Kd.C_drew ?_))); (case side4 => exact (Kd.R_reads' HO334.out).2.1); rintro e w30 ⟨rfl, hb⟩; have n0_ := Aside0.mk (Kd.R_below (by (with_reducible repeat (first | apply Kd.R_alloc | apply Kd.R_drewN | apply Kd.R_drew)); exact HO320.out) hb); have n1_ := Aside0.mk (Kd.R_below (by (with_reducible repeat (first | apply Kd.R_alloc | apply Kd.R_drewN | apply Kd.R_drew)); exact HO329.out) hb); have n2_ := Aside0.mk (Kd.R_below (by (with_reducible repeat (first | apply Kd.R_alloc | apply Kd.R_drewN | apply Kd.R_drew)); exact HO334.out) hb); have n3_ := Aside0.mk (below_step (by repeat (first | (with_reducible first | exact HB.out | apply below_alloc | apply pw_below_drewN | apply below_drew1) | exact HB.out)) hb); clear HO320; clear HO329; clear HO334; clear HB; have HO320 := n0_; have HO329 := n1_; have HO334 := n2_; have HB := n3_; clear n0_ n1_ n2_ n3_; (try clear hb); (try clear hb2); (try clear hk); (try clear hi)))
         go_ret
         exact ⟨by first | rfl | (simp [errW_none, errW_some] <;> rfl) | (simp [*, errW_none, errW_some] <;> rfl), by repeat (first | (with_reducible first | exact HB.out | apply below_alloc | apply pw_below_drewN | apply below_drew1) | exact HB.out)⟩
        ·
         rw [if_neg c21] at H
         have c21b0 : (t326 == t331) = false := beq_eq_false_iff_ne.mpr c21
         have c21b1 : (t326 != t331) = true := bne_iff_ne.mpr c21
         subst hr_
         exact absurd H (by simp)
       ·
        replace c20 := Bool.eq_false_iff.mpr c20
        subst c20
        have H1 : (some false) = some r := by rw [if_neg (show ¬ (false = true) by decide)] at H; exact H
        clear H
        have H := H1
        clear H1
        subst hr_
        exact absurd H (by simp)
      ·
       rw [if_neg c18] at H
       have c18b0 : (t322 == t324) = false := beq_eq_false_iff_ne.mpr c18
       have c18b1 : (t322 != t324) = true := bne_iff_ne.mpr c18
       subst hr_
       exact absurd H (by simp)
     ·
      rw [if_neg c17] at H
      have c17b0 : (t321.toList == t323.toList) = false := beq_eq_false_iff_ne.mpr c17
      have c17b1 : (t321.toList != t323.toList) = true := bne_iff_ne.mpr c17
      subst hr_
      exact absurd H (by simp)
 ·
  replace c4 := Bool.eq_false_iff.mpr c4
  subst c4
  have H1 : (some false) = some r := by rw [if_neg (show ¬ (false = true) by decide)] at H; exact H
  clear H
  have H := H1
  clear H1
  subst hr_
  exact absurd H (by simp)
end Go.Proofs.YtkolhpacpbhceaaDoor.Pr
namespace Go.Proofs.YtkolhpacpbhceaaDoor.Opn
open Go Go.RowKit Go.Proofs.YtkolhpacpbhceaaDoorW.PrintWords Go.Proofs.YtkolhpacpbhceaaDoor.O Go.Proofs.YtkolhpacpbhceaaDoor.Pr
theorem opens3 : Opens Tryd.prog 3 (Kd.int .i64) (fun x => (Lit.int .i64 x).wf = true) := opens_int Tryd.underlying3 (by kernel_rfl)
def ok39 (x : S39) : Prop := (Lit.int .i64 x.f0).wf = true ∧ (Lit.int .i64 x.f1).wf = true
theorem opens39 : Opens Tryd.prog 39 k39 ok39 :=
  ⟨by kernel_rfl, fun H enc w base sp held fuel cs x h => by
    obtain ⟨xs, n, _, _, hl, hx, hf⟩ := DataW.trod_struct Tryd.underlying39 h
    have hc_ : Tryd.prog.cellsOf 39 = 2 := by kernel_rfl
    rw [hc_] at hl
    obtain ⟨c0, c1, rfl⟩ : ∃ c0 c1, cs = [c0, c1] := by
      clear h hf hx
      rcases cs with _ | ⟨c0, _ | ⟨c1, _ | ⟨_, _⟩⟩⟩
      all_goals first | exact ⟨_, _, rfl⟩ | (simp at hl)
    obtain ⟨y0, hy0⟩ : ∃ y, xs[0]? = some y := ⟨xs[0]'(by rw [hx]; decide), List.getElem?_eq_getElem _⟩
    have e0 : DataW.trod enc Tryd.prog w base sp held n 3 ((List.drop 0 [c0, c1]).take (Tryd.prog.cellsOf 3)) = xs[0]? := hf 0 _ rfl
    rw [hy0, show Tryd.prog.cellsOf 3 = 1 from by kernel_rfl] at e0
    obtain ⟨v0, K0, o0⟩ := opens3.2 H enc w base sp held n _ _ e0
    replace K0 : (Kd.int .i64).K w v0 [c0] := K0
    obtain ⟨y1, hy1⟩ : ∃ y, xs[1]? = some y := ⟨xs[1]'(by rw [hx]; decide), List.getElem?_eq_getElem _⟩
    have e1 : DataW.trod enc Tryd.prog w base sp held n 3 ((List.drop 1 [c0, c1]).take (Tryd.prog.cellsOf 3)) = xs[1]? := hf 1 _ rfl
    rw [hy1, show Tryd.prog.cellsOf 3 = 1 from by kernel_rfl] at e1
    obtain ⟨v1, K1, o1⟩ := opens3.2 H enc w base sp held n _ _ e1
    replace K1 : (Kd.int .i64).K w v1 [c1] := K1
    obtain rfl : c0 = _ := List.singleton_inj.1 K0
    obtain rfl : c1 = _ := List.singleton_inj.1 K1
    refine ⟨⟨v0, v1⟩, ?_, o0, o1⟩
    exact k39_mk w ⟨v0, v1⟩ ⟩
theorem opens22 : Opens Tryd.prog 22 (Kd.slice 39 k39) (fun x => (x.length ≤ maxLen ∧ ∀ x0_, x0_ ∈ x → ok39 x0_)) := opens_slice (P := Tryd.prog) (t := 22) (e := 39) Tryd.underlying22 (by kernel_rfl) opens39
end Go.Proofs.YtkolhpacpbhceaaDoor.Opn
namespace Go.Proofs.YtkolhpacpbhceaaDoor.Pure
open Go Go.RowKit Go.Proofs.YtkolhpacpbhceaaDoor.Pr Go.Proofs.YtkolhpacpbhceaaDoor.Opn
def rodTextsPure : Prop := ∀ (l0 : (List S39)) (a1 : ByteArray), (l0.length ≤ maxLen ∧ ∀ x0_, x0_ ∈ l0 → ok39 x0_) → a1.size ≤ maxLen → ∃ k, spilelaw14_RodTexts.f k l0 a1 = some true
end Go.Proofs.YtkolhpacpbhceaaDoor.Pure
namespace Go.Proofs.YtkolhpacpbhceaaDoor.PL
open Go Go.RowKit Go.Proofs.YtkolhpacpbhceaaDoorW.PrintWords Go.Proofs.YtkolhpacpbhceaaDoorW.PrintLast Go.Proofs.YtkolhpacpbhceaaDoorW.PrintMore
theorem evp {α : Type} {c : Prop} [Decidable c] {g h : Nat → Option α} {r : α} (hc : c) (k : Ev g r) : Ev (fun n => if c then g n else h n) r :=
  Ev.congr (fun n => if_pos hc) k
theorem evn {α : Type} {c : Prop} [Decidable c] {g h : Nat → Option α} {r : α} (hc : ¬ c) (k : Ev h r) : Ev (fun n => if c then g n else h n) r :=
  Ev.congr (fun n => if_neg hc) k
theorem evb {α β : Type} {g : Nat → Option α} {f : Nat → α → Option β} {a : α} {r : β} (h : Ev g a) (k : Ev (fun n => f n a) r) : Ev (fun n => (g n).bind (f n)) r := Ev.bind h k
theorem evr {α : Type} {a r : α} (h : a = r) : Ev (fun _ => some a) r := by subst h; exact Ev.now _
theorem evc {α : Type} {g : Nat → Option α} {r : α} {o : Option α} (hg : ∀ n, g n = o) (h : o = some r) : Ev g r := by
  subst h
  exact Ev.congr hg (Ev.now _)
theorem ev_unique {α : Type} {g : Nat → Option α} {a b : α} (h : Ev g a) (h2 : Ev g b) : a = b := by
  obtain ⟨K, h⟩ := h
  obtain ⟨K2, h2⟩ := h2
  have e1 := h (K + K2) (by omega)
  have e2 := h2 (K + K2) (by omega)
  rw [e1] at e2
  exact Option.some.inj e2
/-- A loop that counts upwards to n. -/
theorem count_up (a n : Int) (P : Int → Prop) (hend : P n) (hround : ∀ i, a ≤ i → i < n → P (i + 1) → P i) : ∀ i, a ≤ i → i ≤ n → P i := by
  intro i h0 h1
  obtain ⟨d, hd⟩ : ∃ d : Nat, n - i = d := ⟨(n - i).toNat, by omega⟩
  induction d generalizing i with
  | zero =>
    obtain rfl : i = n := by omega
    exact hend
  | succ d ih => exact hround i h0 (by omega) (ih (i + 1) (by omega) (by omega) (by omega))
theorem w64 {x : Int} (h0 : -9223372036854775808 ≤ x) (h1 : x ≤ 9223372036854775807) : wrap64 x = x := by
  unfold wrap64
  omega
theorem w64_succ {i n : Int} (h0 : 0 ≤ i) (h : i < n) (hn : n ≤ 9223372036854775807) : wrap64 (i + 1) = i + 1 := w64 (by omega) (by omega)
theorem w64_pred {i n : Int} (h0 : 0 ≤ i) (h : i ≤ n) (hn : n ≤ 9223372036854775807) : wrap64 (i - 1) = i - 1 := w64 (by omega) (by omega)
/-- A test that comes to true where P holds, and else to false. -/
def EvB (g : Nat → Option Bool) (P : Prop) : Prop := (P → Ev g true) ∧ (¬ P → Ev g false)
theorem EvB.map {g : Nat → Option Bool} {f : Nat → Bool → Option Bool} {P Q : Prop} (h : EvB g P) (ht : P → EvB (fun n => f n true) Q) (hf : ¬ P → EvB (fun n => f n false) Q) : EvB (fun n => (g n).bind (f n)) Q := by
  by_cases hp : P
  · exact ⟨fun q => Ev.bind (h.1 hp) ((ht hp).1 q), fun q => Ev.bind (h.1 hp) ((ht hp).2 q)⟩
  · exact ⟨fun q => Ev.bind (h.2 hp) ((hf hp).1 q), fun q => Ev.bind (h.2 hp) ((hf hp).2 q)⟩
end Go.Proofs.YtkolhpacpbhceaaDoor.PL
namespace Go.Proofs.YtkolhpacpbhceaaDoor.PL
open Go Go.RowKit Go.Proofs.YtkolhpacpbhceaaDoorW.PrintWords Go.Proofs.YtkolhpacpbhceaaDoorW.PrintLast Go.Proofs.YtkolhpacpbhceaaDoorW.PrintMore Go.Proofs.YtkolhpacpbhceaaDoor.Pr Go.Proofs.YtkolhpacpbhceaaDoor.TX Go.Proofs.YtkolhpacpbhceaaDoor.X
def ba (l : List UInt8) : ByteArray := ⟨l.toArray⟩
theorem ba_data (s : ByteArray) : ba s.data.toList = s := by obtain ⟨⟨l⟩⟩ := s; rfl
theorem ba_list (l : List UInt8) : (ba l).data.toList = l := rfl
theorem ba_toList (l : List UInt8) : (ba l).toList = l := by rw [Lib.toList_data]; rfl
theorem ba_size (l : List UInt8) : (ba l).size = l.length := rfl
theorem size_data (s : ByteArray) : s.data.toList.length = s.size := Array.length_toList
theorem ba_ex (s : ByteArray) (a b : Nat) : s.extract a b = ba ((s.data.toList.take b).drop a) := by
  rw [← ba_data (s.extract a b), Lib.extract_data, List.drop_take]
theorem ba_app (a b : List UInt8) : ba a ++ ba b = ba (a ++ b) := by
  rw [← ba_data (ba a ++ ba b)]
  congr 1
theorem byte_at (s : ByteArray) {i : Int} (h0 : 0 ≤ i) (h1 : i < (s.size : Int)) : ∃ b : UInt8, s.data.toList.drop i.toNat = b :: s.data.toList.drop (i + 1).toNat ∧
    s.data.toList.take (i + 1).toNat = s.data.toList.take i.toNat ++ [b] ∧ bt s i = (b.toNat : Int) := by
  have hl : i.toNat < s.data.toList.length := by rw [size_data]; omega
  refine ⟨s.data.toList[i.toNat], ?_, ?_, ?_⟩
  · rw [show (i + 1).toNat = i.toNat + 1 from by omega, ← List.drop_eq_getElem_cons hl]
  · rw [show (i + 1).toNat = i.toNat + 1 from by omega, List.take_add_one, List.getElem?_eq_getElem hl]; rfl
  · rw [← bt_at s i (by omega)]
    obtain ⟨⟨l⟩⟩ := s
    rfl
theorem drop_end (s : ByteArray) : s.data.toList.drop ((s.size : Int)).toNat = [] := by
  rw [show ((s.size : Int)).toNat = s.size from by omega, ← size_data, List.drop_length]
theorem toNat_eq (b : UInt8) (n : Nat) (hn : n < 256) : ((b.toNat : Int) = (n : Int)) ↔ b = UInt8.ofNat n := by
  constructor
  · intro h
    refine UInt8.toNat_inj.1 ?_
    rw [UInt8.toNat_ofNat']; omega
  · rintro rfl
    rw [UInt8.toNat_ofNat']; omega
def lin : List UInt8 → List UInt8 → List (List UInt8) × Bool
  | p, [] => if p = [] then ([], true) else ([p], false)
  | p, b :: r => if b = 10 then (p :: (lin [] r).1, (lin [] r).2) else lin (p ++ [b]) r
theorem lin_cons (p : List UInt8) (b : UInt8) (r : List UInt8) : lin p (b :: r) = if b = 10 then (p :: (lin [] r).1, (lin [] r).2) else lin (p ++ [b]) r := rfl
theorem lin_cut : ∀ (s p : List UInt8), lin p s = if (cut1 10 s).2.2 = true then ((p ++ (cut1 10 s).1) :: (lin [] (cut1 10 s).2.1).1, (lin [] (cut1 10 s).2.1).2) else if p ++ s = [] then ([], true) else ([p ++ s], false)
  | [], p => by simp [lin, cut1]
  | b :: r, p => by
    rw [lin_cons, cut1_cons]
    by_cases h : b = 10
    · rw [if_pos h, if_pos h]; simp
    · rw [if_neg h, if_neg h, lin_cut r (p ++ [b])]
      simp
def numR (most : Nat) (l : List UInt8) : Int × Bool := match numP most l with
  | some v => ((v : Int), true)
  | none => (0, false)
theorem itoa_f {n : Int} (h0 : -9223372036854775808 ≤ n) (h1 : n ≤ 9223372036854775807) : strconv_Itoa.f n = some (ba (Lib.itoa n)) := by
  unfold strconv_Itoa.f
  rw [if_pos h0, if_pos h1]
  rfl
end Go.Proofs.YtkolhpacpbhceaaDoor.PL
namespace Go.Proofs.YtkolhpacpbhceaaDoor.PL
open Go Go.RowKit Go.Proofs.YtkolhpacpbhceaaDoorW.PrintWords Go.Proofs.YtkolhpacpbhceaaDoorW.PrintLast Go.Proofs.YtkolhpacpbhceaaDoorW.PrintMore Go.Proofs.YtkolhpacpbhceaaDoor.Pr Go.Proofs.YtkolhpacpbhceaaDoor.TX Go.Proofs.YtkolhpacpbhceaaDoor.X
theorem lin_len : ∀ (t p : List UInt8), (lin p t).1.length ≤ t.length + 1
  | [], p => by unfold lin; split <;> simp
  | b :: r, p => by
    rw [lin_cons]
    by_cases c : b = 10
    · rw [if_pos c]; have := lin_len r []; simp; omega
    · rw [if_neg c]; have := lin_len r (p ++ [b]); simp; omega
theorem lin_nil {s : List UInt8} {e : Bool} (h : lin [] s = ([], e)) : s = [] ∧ e = true := by
  rw [lin_cut] at h
  by_cases c : (cut1 10 s).2.2 = true
  · rw [if_pos c] at h; simp at h
  · rw [if_neg c] at h
    by_cases c2 : ([] : List UInt8) ++ s = []
    · rw [if_pos c2] at h
      exact ⟨by simpa using c2, (congrArg Prod.snd h).symm⟩
    · rw [if_neg c2] at h; simp at h
theorem lin_next {s l : List UInt8} {r : List (List UInt8)} {e : Bool} (h : lin [] s = (l :: r, e)) :
    (cut1 10 s).1 = l ∧ (((cut1 10 s).2.2 = true ∧ lin [] (cut1 10 s).2.1 = (r, e)) ∨ ((cut1 10 s).2.2 = false ∧ (cut1 10 s).2.1 = [] ∧ r = [] ∧ e = false)) ∧ s ≠ [] ∧ l.length ≤ s.length := by
  have hne : s ≠ [] := fun e2 => by rw [e2] at h; simp [lin] at h
  rw [lin_cut] at h
  by_cases c : (cut1 10 s).2.2 = true
  · rw [if_pos c] at h
    simp only [List.nil_append, Prod.mk.injEq, List.cons.injEq] at h
    refine ⟨h.1.1, .inl ⟨c, Prod.ext h.1.2 h.2⟩, hne, ?_⟩
    have := congrArg List.length (cut1_sum 10 s c)
    rw [List.length_append, h.1.1] at this
    omega
  · rw [if_neg c, if_neg (by simpa using hne)] at h
    simp only [List.nil_append, Prod.mk.injEq, List.cons.injEq] at h
    have := cut1_no 10 s (Bool.eq_false_iff.2 c)
    exact ⟨by rw [this.1]; exact h.1.1, .inr ⟨Bool.eq_false_iff.2 c, this.2, h.1.2.symm, h.2.symm⟩, hne, by rw [h.1.1]; exact Nat.le_refl _⟩
section
variable {α : Type}
/-- Line by line: the first line that has no such thing, or no line feed, stops it. -/
def run (lineL : List UInt8 → Option α) (e : Bool) : List (List UInt8) → List α → List α × Option Nat
  | [], out => (out, none)
  | l :: r, out => match lineL l with
    | none => ([], some out.length)
    | some x => if r = [] ∧ e = false then ([], some out.length) else run lineL e r (out ++ [x])
theorem run_cons (lineL : List UInt8 → Option α) (e : Bool) (l : List UInt8) (r : List (List UInt8)) (out : List α) : run lineL e (l :: r) out = match lineL l with
    | none => ([], some out.length)
    | some x => if r = [] ∧ e = false then ([], some out.length) else run lineL e r (out ++ [x]) := rfl
def printL (lineT : α → List UInt8) : List α → List UInt8
  | [] => []
  | x :: r => lineT x ++ 10 :: printL lineT r
end
theorem itoa_dig {n : Int} (h0 : 0 ≤ n) : Lib.itoa n = Lib.decDigits n.toNat := by unfold Lib.itoa; rw [if_neg (by omega)]
theorem itoa_le {n : Int} {m : Nat} (h0 : 0 ≤ n) (h1 : n < 10 ^ m) (hm : 1 ≤ m) : (Lib.itoa n).length ≤ m := by
  rw [itoa_dig h0]
  refine digits_length_le ?_ hm
  have : ((n.toNat : Nat) : Int) < ((10 ^ m : Nat) : Int) := by rw [Int.natCast_pow]; show ((n.toNat : Nat) : Int) < 10 ^ m; omega
  exact Int.ofNat_lt.1 this
end Go.Proofs.YtkolhpacpbhceaaDoor.PL
namespace Go.Proofs.YtkolhpacpbhceaaDoor.PL
open Go Go.RowKit Go.Proofs.YtkolhpacpbhceaaDoorW.PrintWords Go.Proofs.YtkolhpacpbhceaaDoorW.PrintLast Go.Proofs.YtkolhpacpbhceaaDoorW.PrintMore Go.Proofs.YtkolhpacpbhceaaDoor.Pr Go.Proofs.YtkolhpacpbhceaaDoor.Opn Go.Proofs.YtkolhpacpbhceaaDoor.X
theorem rd39_get {l : List S39} {i : Int} (h0 : 0 ≤ i) (h : i < (l.length : Int)) : l[i.toNat]? = some (rd_T39 l i) := by
  have hl : i.toNat < l.length := by omega
  unfold rd_T39
  rw [List.getD_eq_getElem?_getD, List.getElem?_eq_getElem hl]
  rfl
theorem rd39_mem {l : List S39} {i : Int} (h0 : 0 ≤ i) (h : i < (l.length : Int)) : rd_T39 l i ∈ l := List.mem_of_getElem? (rd39_get h0 h)
theorem rd39_of_mem {l : List S39} {x : S39} (h : x ∈ l) : ∃ i : Int, 0 ≤ i ∧ i < (l.length : Int) ∧ rd_T39 l i = x := by
  obtain ⟨i, hi⟩ := List.mem_iff_getElem?.1 h
  have hl := (List.getElem?_eq_some_iff.1 hi).1
  refine ⟨(i : Int), by omega, by omega, ?_⟩
  unfold rd_T39
  rw [List.getD_eq_getElem?_getD, Int.toNat_natCast, hi]
  rfl
theorem drop39 {l : List S39} {i : Int} (h0 : 0 ≤ i) (h1 : i < (l.length : Int)) : l.drop i.toNat = rd_T39 l i :: l.drop (i + 1).toNat := by
  have hl : i.toNat < l.length := by omega
  have g := rd39_get h0 h1
  rw [List.getElem?_eq_getElem hl] at g
  rw [← Option.some.inj g, show (i + 1).toNat = i.toNat + 1 from by omega, ← List.drop_eq_getElem_cons hl]
/-- The first and the last height, the last volume. -/
def h0 (l : List S39) : Int := (rd_T39 l 0).f0
def hN (l : List S39) : Int := (rd_T39 l ((l.length : Int) - 1)).f0
theorem two_of {l : List S39} (h : 2 ≤ (l.length : Int)) : ∃ a b r, l = a :: b :: r := by
  cases l with
  | nil => exact absurd h (by simp)
  | cons a l =>
    cases l with
    | nil => exact absurd h (by simp)
    | cons b r => exact ⟨a, b, r, rfl⟩
end Go.Proofs.YtkolhpacpbhceaaDoor.PL
namespace Go.Proofs.YtkolhpacpbhceaaDoor.PL
open Go Go.RowKit Go.Proofs.YtkolhpacpbhceaaDoorW.PrintWords Go.Proofs.YtkolhpacpbhceaaDoorW.PrintLast Go.Proofs.YtkolhpacpbhceaaDoorW.PrintMore Go.Proofs.YtkolhpacpbhceaaDoor.Pr Go.Proofs.YtkolhpacpbhceaaDoor.Opn Go.Proofs.YtkolhpacpbhceaaDoor.X
def RngR (x : S39) : Prop := 0 ≤ x.f0 ∧ x.f0 ≤ 200000 ∧ 1 ≤ x.f1 ∧ x.f1 ≤ 4294967296
def StpR (x y : S39) : Prop := x.f0 < y.f0 ∧ x.f1 < y.f1
def OKR (l : List S39) : Prop := 1 ≤ (l.length : Int) ∧ (l.length : Int) ≤ 128 ∧ (∀ j, 0 ≤ j → j < (l.length : Int) → RngR (rd_T39 l j)) ∧ (∀ j, 1 ≤ j → j < (l.length : Int) → StpR (rd_T39 l (j - 1)) (rd_T39 l j))
theorem badR_eq (x : S39) : ∃ b, rod_Check_1.f x.f0 x.f1 = some b ∧ (b = true ↔ ¬ RngR x) := by
  unfold rod_Check_1.f RngR
  by_cases h1 : x.f0 < 0
  · exact ⟨true, by rw [if_pos h1], by simp; omega⟩
  by_cases h2 : x.f0 > 200000
  · exact ⟨true, by rw [if_neg h1, if_pos h2], by simp; omega⟩
  by_cases h3 : x.f1 < 1
  · exact ⟨true, by rw [if_neg h1, if_neg h2, if_pos h3], by simp; omega⟩
  refine ⟨decide (x.f1 > 4294967296), by rw [if_neg h1, if_neg h2, if_neg h3], ?_⟩
  rw [decide_eq_true_iff]
  omega
theorem range_rod (l : List S39) (hl : (l.length : Int) ≤ 9223372036854775807) : ∀ i, 0 ≤ i → i ≤ (l.length : Int) →
    ∃ r, Ev (fun k => api_Mark_38_at_41.l0 k l (l.length : Int) i) r ∧ (r ≥ 0 ↔ ¬ ∀ j, i ≤ j → j < (l.length : Int) → RngR (rd_T39 l j)) := by
  refine count_up 0 (l.length : Int) _ ?_ ?_
  · exact ⟨-1, Ev.step (fun k => api_Mark_38_at_41.l0.eq_2 ..) (evn (by omega) (Ev.now _)), by constructor; omega; exact fun h => absurd (fun j h1 h2 => by omega) h⟩
  · intro i h0 h1 ih
    obtain ⟨b, hb, hb2⟩ := badR_eq (rd_T39 l i)
    have hs := w64_succ h0 h1 hl
    by_cases c : RngR (rd_T39 l i)
    · obtain ⟨r, r1, r2⟩ := ih
      have hbf : ¬ b = true := fun h => hb2.1 h c
      refine ⟨r, Ev.step (fun k => api_Mark_38_at_41.l0.eq_2 ..) (evp h1 (evp h0 (evp h1 (evb (evc (fun _ => rfl) hb) (evn hbf (by rw [hs]; exact r1)))))), r2.trans (not_congr ⟨fun h j a q => ?_, fun h j a q => h j (by omega) q⟩)⟩
      by_cases e : j = i
      · rw [e]; exact c
      · exact h j (by omega) q
    · exact ⟨i, Ev.step (fun k => api_Mark_38_at_41.l0.eq_2 ..) (evp h1 (evp h0 (evp h1 (evb (evc (fun _ => rfl) hb) (evp (hb2.2 c) (Ev.now _)))))), ⟨fun _ h => c (h i (Int.le_refl _) h1), fun _ => h0⟩⟩
theorem orderR_both (l : List S39) (hn : (l.length : Int) ≤ 128) : ∀ i, 1 ≤ i → i ≤ (l.length : Int) →
    ∃ e, Ev (fun k => rod_Check.l0 k l i) e ∧ Ev (fun k => spileref14_Check.l1 k l i) e ∧ (e = 0 ↔ ∀ j, i ≤ j → j < (l.length : Int) → StpR (rd_T39 l (j - 1)) (rd_T39 l j)) := by
  refine count_up 1 (l.length : Int) _ ?_ ?_
  · exact ⟨0, Ev.step (fun k => rod_Check.l0.eq_2 ..) (evn (by omega) (Ev.now _)), Ev.step (fun k => spileref14_Check.l1.eq_2 ..) (evn (by omega) (Ev.now _)), ⟨fun _ j a b => by omega, fun _ => rfl⟩⟩
  · intro i h0 h1 ih
    have hs := w64_succ (i := i) (by omega) h1 (by omega)
    have hp := w64_pred (i := i) (by omega) (Int.le_of_lt h1) (by omega)
    have q0 : 0 ≤ wrap64 (i - 1) := by rw [hp]; omega
    have q1 : wrap64 (i - 1) < (l.length : Int) := by rw [hp]; omega
    by_cases c1 : (rd_T39 l (wrap64 (i - 1))).f0 ≥ (rd_T39 l i).f0
    · refine ⟨5, Ev.step (fun k => rod_Check.l0.eq_2 ..) (evp h1 (evp q0 (evp q1 (evp (by omega) (evp c1 (Ev.now _)))))), Ev.step (fun k => spileref14_Check.l1.eq_2 ..) (evp h1 (evp q0 (evp q1 (evp (by omega) (evp c1 (Ev.now _)))))), ⟨fun h => by omega, fun h => ?_⟩⟩
      rw [hp] at c1
      have := (h i (by omega) h1).1
      omega
    by_cases c2 : (rd_T39 l (wrap64 (i - 1))).f1 ≥ (rd_T39 l i).f1
    · refine ⟨5, Ev.step (fun k => rod_Check.l0.eq_2 ..) (evp h1 (evp q0 (evp q1 (evp (by omega) (evn c1 (evp c2 (Ev.now _))))))), Ev.step (fun k => spileref14_Check.l1.eq_2 ..) (evp h1 (evp q0 (evp q1 (evp (by omega) (evn c1 (evp c2 (Ev.now _))))))), ⟨fun h => by omega, fun h => ?_⟩⟩
      rw [hp] at c2
      have := (h i (by omega) h1).2
      omega
    · obtain ⟨e, e1, e2, e3⟩ := ih
      refine ⟨e, Ev.step (fun k => rod_Check.l0.eq_2 ..) (evp h1 (evp q0 (evp q1 (evp (by omega) (evn c1 (evn c2 (by rw [hs]; exact e1))))))), Ev.step (fun k => spileref14_Check.l1.eq_2 ..) (evp h1 (evp q0 (evp q1 (evp (by omega) (evn c1 (evn c2 (by rw [hs]; exact e2))))))), e3.trans ⟨fun h j a b => ?_, fun h j a b => h j (by omega) b⟩⟩
      by_cases z : j = i
      · rw [hp] at c1 c2; rw [z]; exact ⟨by omega, by omega⟩
      · exact h j (by omega) b
theorem rangeR_ref (l : List S39) (e : Int) (hl : (l.length : Int) ≤ 9223372036854775807) (he : Ev (fun k => spileref14_Check.l1 k l 1) e) : ∀ i, 0 ≤ i → i ≤ (l.length : Int) →
    ((∀ j, i ≤ j → j < (l.length : Int) → RngR (rd_T39 l j)) → Ev (fun k => spileref14_Check.l0 k l i) e) ∧ ((¬ ∀ j, i ≤ j → j < (l.length : Int) → RngR (rd_T39 l j)) → Ev (fun k => spileref14_Check.l0 k l i) 2) := by
  refine count_up 0 (l.length : Int) _ ?_ ?_
  · exact ⟨fun _ => Ev.step (fun k => spileref14_Check.l0.eq_2 ..) (evn (by omega) he), fun h => absurd (fun j a b => by omega) h⟩
  · intro i h0 h1 ih
    have hs := w64_succ h0 h1 hl
    by_cases c : RngR (rd_T39 l i)
    · have up : ∀ r, Ev (fun k => spileref14_Check.l0 k l (i + 1)) r → Ev (fun k => spileref14_Check.l0 k l i) r := fun r h => by
        have c' := c
        unfold RngR at c'
        exact Ev.step (fun k => spileref14_Check.l0.eq_2 ..) (evp h1 (evp h0 (evn (by omega) (evn (by omega) (evn (by omega) (evn (by omega) (by rw [hs]; exact h)))))))
      refine ⟨fun h => up _ (ih.1 fun j a b => h j (by omega) b), fun h => up _ (ih.2 fun h2 => h fun j a b => ?_)⟩
      by_cases z : j = i
      · rw [z]; exact c
      · exact h2 j (by omega) b
    · refine ⟨fun h => absurd (h i (Int.le_refl _) h1) c, fun _ => ?_⟩
      unfold RngR at c
      by_cases d1 : (rd_T39 l i).f0 < 0
      · exact Ev.step (fun k => spileref14_Check.l0.eq_2 ..) (evp h1 (evp h0 (evp d1 (Ev.now _))))
      by_cases d2 : (rd_T39 l i).f0 > 200000
      · exact Ev.step (fun k => spileref14_Check.l0.eq_2 ..) (evp h1 (evp h0 (evn d1 (evp d2 (Ev.now _)))))
      by_cases d3 : (rd_T39 l i).f1 < 1
      · exact Ev.step (fun k => spileref14_Check.l0.eq_2 ..) (evp h1 (evp h0 (evn d1 (evn d2 (evp d3 (Ev.now _))))))
      · exact Ev.step (fun k => spileref14_Check.l0.eq_2 ..) (evp h1 (evp h0 (evn d1 (evn d2 (evn d3 (evp (by omega) (Ev.now _)))))))
theorem rod_both (l : List S39) (hl : (l.length : Int) ≤ 9223372036854775807) : ∃ e, Ev (fun k => rod_Check.f k l) e ∧ Ev (fun k => spileref14_Check.f k l) e ∧ (e = 0 ↔ OKR l) := by
  by_cases a1 : (l.length : Int) = 0
  · exact ⟨9, evp a1 (Ev.now _), evp a1 (Ev.now _), ⟨fun h => by omega, fun h => by have := h.1; omega⟩⟩
  by_cases a2 : (l.length : Int) > 128
  · exact ⟨8, evn a1 (evp a2 (Ev.now _)), evn a1 (evp a2 (Ev.now _)), ⟨fun h => by omega, fun h => by have := h.2.1; omega⟩⟩
  obtain ⟨e, e1, e2, e3⟩ := orderR_both l (by omega) 1 (Int.le_refl _) (by omega)
  obtain ⟨r, r1, r2⟩ := range_rod l hl 0 (Int.le_refl _) (by omega)
  have ref := rangeR_ref l e hl e2 0 (Int.le_refl _) (by omega)
  by_cases hr : ∀ j, 0 ≤ j → j < (l.length : Int) → RngR (rd_T39 l j)
  · refine ⟨e, evn a1 (evn a2 (evb (evb r1 (Ev.now _)) (evn ?_ e1))), evn a1 (evn a2 (ref.1 hr)), e3.trans ⟨fun h => ⟨by omega, by omega, hr, h⟩, fun h => h.2.2.2⟩⟩
    rw [decide_eq_false (fun h => r2.1 h hr)]; simp
  · exact ⟨2, evn a1 (evn a2 (evb (evb r1 (Ev.now _)) (evp (decide_eq_true (r2.2 hr)) (Ev.now _)))), evn a1 (evn a2 (ref.2 hr)), ⟨fun h => by omega, fun h => absurd h.2.2.1 hr⟩⟩
end Go.Proofs.YtkolhpacpbhceaaDoor.PL
namespace Go.Proofs.YtkolhpacpbhceaaDoor.PL
open Go Go.RowKit Go.Proofs.YtkolhpacpbhceaaDoorW.PrintWords Go.Proofs.YtkolhpacpbhceaaDoorW.PrintLast Go.Proofs.YtkolhpacpbhceaaDoorW.PrintMore Go.Proofs.YtkolhpacpbhceaaDoor.Pr Go.Proofs.YtkolhpacpbhceaaDoor.Opn Go.Proofs.YtkolhpacpbhceaaDoor.X
theorem same_self (l : List S39) (hl : (l.length : Int) ≤ 9223372036854775807) : Ev (fun k => spileref14_Same.f k l l) true := by
  refine evb (evp rfl (Ev.step (fun k => spileref13_Same.j0.eq_2 ..) (evn (by simp) ?_))) (Ev.now _)
  refine count_up 0 (l.length : Int) (fun i => Ev (fun k => spileref13_Same.l0 k i l 0 l 0) true) ?_ ?_ 0 (Int.le_refl _) (by omega)
  · exact Ev.step (fun k => spileref13_Same.l0.eq_2 ..) (evn (by omega) (Ev.now _))
  · intro i h0 h1 ih
    have hs := w64_succ h0 h1 hl
    refine Ev.step (fun k => spileref13_Same.l0.eq_2 ..) ?_
    rw [hs]
    exact evp h1 (evp h0 (evp h1 (evn (by simp) ih)))
theorem clone_eq {l : List S39} (h : (l.length : Int) ≤ 129) : slices_Clone39.f l = some l := by
  unfold slices_Clone39.f
  rw [if_pos (by omega)]
theorem few_cases (r l : List S39) (t : Int) : ∃ b, spilelaw14_few.f r l t = some b ∧ (b = true → (r.length : Int) ≤ 129 ∧ (l.length : Int) ≤ 129) := by
  unfold spilelaw14_few.f spileref13_Few.f
  by_cases c : (r.length : Int) ≤ 129
  · exact ⟨decide ((l.length : Int) ≤ 129), by rw [if_pos c]; rfl, fun q => ⟨c, of_decide_eq_true q⟩⟩
  · exact ⟨false, by rw [if_neg c], fun q => by cases q⟩
end Go.Proofs.YtkolhpacpbhceaaDoor.PL
namespace Go.Proofs.YtkolhpacpbhceaaDoor.PL
open Go Go.RowKit Go.Proofs.YtkolhpacpbhceaaDoorW.PrintWords Go.Proofs.YtkolhpacpbhceaaDoorW.PrintLast Go.Proofs.YtkolhpacpbhceaaDoorW.PrintMore Go.Proofs.YtkolhpacpbhceaaDoor.Pr Go.Proofs.YtkolhpacpbhceaaDoor.Opn Go.Proofs.YtkolhpacpbhceaaDoor.TX Go.Proofs.YtkolhpacpbhceaaDoor.X
theorem numR_bad {b : List UInt8} (h : ¬ (Canon b ∧ b.length ≤ 10)) : numR 10 b = (0, false) := by unfold numR numP; rw [if_neg h]
theorem numR_ok {b : List UInt8} (h : Canon b ∧ b.length ≤ 10) : numR 10 b = (((valFrom 0 b : Nat) : Int), true) := by unfold numR numP; rw [if_pos h]
theorem digit_eq (b : UInt8) : rod_number_1.f (b.toNat : Int) = some (isDig b) := by
  unfold rod_number_1.f
  by_cases h : (b.toNat : Int) ≥ 48
  · rw [if_pos h]
    refine congrArg some ?_
    by_cases h2 : (b.toNat : Int) ≤ 57
    · rw [decide_eq_true h2, (isDig_iff b).2 (by omega)]
    · rw [decide_eq_false h2]
      cases e : isDig b with
      | false => rfl
      | true => exact absurd ((isDig_iff b).1 e) (by omega)
  · rw [if_neg h]
    cases e : isDig b with
    | false => rfl
    | true => exact absurd ((isDig_iff b).1 e) (by omega)
theorem step_val (n : Nat) (b : UInt8) (hd : isDig b = true) (hn : n ≤ 10000000000) : wrap64 ((wrap64 (10 * (n : Int))) + (((b.toNat : Int) - 48) % 256)) = ((10 * n + (b.toNat - 48) : Nat) : Int) := by
  have h := (isDig_iff b).1 hd
  rw [w64 (x := 10 * (n : Int)) (by omega) (by omega), w64 (by omega) (by omega)]
  omega
theorem rod_num_loop (s : ByteArray) (hs : (s.size : Int) ≤ 10) : ∀ i, 0 ≤ i → i ≤ (s.size : Int) → ∀ n : Nat, n + 1 ≤ 10 ^ i.toNat →
    Ev (fun k => rod_number.l0 k s (n : Int) (s.size : Int) i) (if (s.data.toList.drop i.toNat).all isDig = true then (((valFrom n (s.data.toList.drop i.toNat) : Nat) : Int), true) else (0, false)) := by
  refine count_up 0 (s.size : Int) _ ?_ ?_
  · intro n hn
    rw [drop_end]
    exact Ev.step (fun k => rod_number.l0.eq_2 ..) (evn (by omega) (evr (by rw [if_pos (show ([] : List UInt8).all isDig = true from rfl)]; rfl)))
  · intro i h0 h1 ih n hn
    obtain ⟨b, e1, _, e3⟩ := byte_at s h0 h1
    have hw : wrap64 (i + 1) = i + 1 := w64 (by omega) (by omega)
    have hp : 10 ^ i.toNat ≤ 10 ^ 10 := Nat.pow_le_pow_right (by decide) (by omega)
    refine Ev.step (fun k => rod_number.l0.eq_2 ..) (evp h1 (evp h0 (evp h1 ?_)))
    rw [e3, e1, hw, digit_eq]
    cases hd : isDig b with
    | false =>
      rw [if_neg (by simp [hd])]
      exact evb (Ev.now _) (evn (by simp) (Ev.now _))
    | true =>
      rw [step_val n b hd (by omega)]
      have q := ih (10 * n + (b.toNat - 48)) (by
        have := (isDig_iff b).1 hd
        rw [show (i + 1).toNat = i.toNat + 1 from by omega, Nat.pow_succ]; omega)
      have ea : ((b :: s.data.toList.drop (i + 1).toNat).all isDig = true) = ((s.data.toList.drop (i + 1).toNat).all isDig = true) := by
        rw [List.all_cons, hd, Bool.true_and]
      simp only [ea]
      exact evb (Ev.now _) (evp rfl q)
theorem rod_num_ev (b : List UInt8) : Ev (fun k => rod_number.f k (ba b)) (numR 10 b) := by
  have hsz : (ba b).size = b.length := rfl
  by_cases c1 : ((ba b).size : Int) < 1
  · rw [numR_bad (fun h => by have := h.1.1; omega)]
    exact evp c1 (Ev.step (fun k => rod_number.j0.eq_2 ..) (evp rfl (Ev.now _)))
  by_cases c2 : ((ba b).size : Int) > 10
  · rw [numR_bad (fun h => by have := h.2; omega)]
    exact evn c1 (evp c2 (Ev.step (fun k => rod_number.j0.eq_2 ..) (evp rfl (Ev.now _))))
  have go : ¬ (1 < b.length ∧ b.head? = some 48) → Ev (fun k => rod_number.j0 k (ba b) false) (numR 10 b) := by
    intro hh
    have q := rod_num_loop (ba b) (by omega) 0 (by omega) (by omega) 0 (by decide)
    rw [show (0 : Int).toNat = 0 from rfl, List.drop_zero, ba_list] at q
    refine Ev.step (fun k => rod_number.j0.eq_2 ..) (evn (by simp) ?_)
    by_cases hd : b.all isDig = true
    · rw [if_pos hd] at q
      rw [numR_ok ⟨⟨by omega, hh, hd⟩, by omega⟩]
      exact q
    · rw [if_neg hd] at q
      rw [numR_bad (fun h => hd h.1.2.2)]
      exact q
  by_cases c3 : ((ba b).size : Int) > 1
  · obtain ⟨c, e1, _, e3⟩ := byte_at (ba b) (i := 0) (by omega) (by omega)
    rw [show (0 : Int).toNat = 0 from rfl, List.drop_zero, ba_list] at e1
    refine evn c1 (evn c2 (evp c3 (evp (by omega) ?_)))
    rw [e3]
    by_cases c4 : c = 48
    · have e4 : ((c.toNat : Int) == 48) = true := by rw [beq_iff_eq]; exact (toNat_eq c 48 (by decide)).2 c4
      rw [e4, numR_bad (fun h => h.1.2.1 ⟨by omega, by rw [e1]; simp [c4]⟩)]
      exact Ev.step (fun k => rod_number.j0.eq_2 ..) (evp rfl (Ev.now _))
    · have e4 : ((c.toNat : Int) == 48) = false := by rw [beq_eq_false_iff_ne]; exact fun h => c4 ((toNat_eq c 48 (by decide)).1 h)
      rw [e4]
      exact go (fun h => c4 (by have := h.2; rw [e1] at this; simpa using this))
  · exact evn c1 (evn c2 (evn c3 (go (fun h => by omega))))
/-- What the specification says of a number: its value, and whether it has the form. -/
def flagR (b : List UInt8) : Bool := match b with
  | [] => false
  | [_] => true
  | c :: _ => decide (c ≠ 48)
theorem ref_num_loop (b : List UInt8) (hb : b.length ≤ 100000) : ∀ i, 0 ≤ i → i ≤ (b.length : Int) → i ≤ 10 → ∀ n : Nat, n + 1 ≤ 10 ^ i.toNat →
    Ev (fun k => spileref14_number.l0 k (ba b) (n : Int) i) (if (b.drop i.toNat).all isDig = true ∧ b.length ≤ 10 then (((valFrom n (b.drop i.toNat) : Nat) : Int), flagR b) else (0, false)) := by
  have hsz : (ba b).size = b.length := rfl
  refine count_up 0 (b.length : Int) _ ?_ ?_
  · intro h10 n hn
    rw [show ((b.length : Int)).toNat = b.length from by omega, List.drop_length, if_pos ⟨rfl, by omega⟩]
    refine Ev.step (fun k => spileref14_number.l0.eq_2 ..) (evn (by omega) ?_)
    rw [ba_toList]
    match b with
    | [] => exact evp rfl (evr rfl)
    | [c] => exact evn (by simp) (evp (by rw [ba_size]; rfl) (evr rfl))
    | c :: d :: r =>
      obtain ⟨z, e1, _, e3⟩ := byte_at (ba (c :: d :: r)) (i := 0) (by omega) (by rw [ba_size]; simp; omega)
      rw [show (0 : Int).toNat = 0 from rfl, List.drop_zero, ba_list] at e1
      have hz : c = z := (List.cons.inj e1).1
      refine evn (by simp) (evn (by rw [ba_size]; simp; omega) (evp (by rw [ba_size]; simp; omega) ?_))
      rw [e3, ← hz]
      refine evr (Prod.ext rfl ?_)
      show ((c.toNat : Int) != 48) = decide (c ≠ 48)
      by_cases q : c = 48
      · rw [q]; rfl
      · rw [decide_eq_true q, bne_iff_ne]
        exact fun h => q ((toNat_eq c 48 (by decide)).1 h)
  · intro i h0 h1 ih h10 n hn
    obtain ⟨c, e1, _, e3⟩ := byte_at (ba b) h0 (by rw [ba_size]; exact h1)
    rw [ba_list] at e1
    have hw : wrap64 (i + 1) = i + 1 := w64 (by omega) (by omega)
    have hp : 10 ^ i.toNat ≤ 10 ^ 10 := Nat.pow_le_pow_right (by decide) (by omega)
    refine Ev.step (fun k => spileref14_number.l0.eq_2 ..) (evp (by rw [ba_size]; exact h1) (evp h0 ?_))
    rw [e3, e1, hw]
    by_cases d1 : (c.toNat : Int) < 48
    · have hd : ¬ isDig c = true := fun h => by have := (isDig_iff c).1 h; omega
      rw [if_neg (fun h => hd (by have := h.1; rw [List.all_cons, Bool.and_eq_true] at this; exact this.1))]
      exact evp d1 (Ev.now _)
    by_cases d2 : (c.toNat : Int) > 57
    · have hd : ¬ isDig c = true := fun h => by have := (isDig_iff c).1 h; omega
      rw [if_neg (fun h => hd (by have := h.1; rw [List.all_cons, Bool.and_eq_true] at this; exact this.1))]
      exact evn d1 (evp d2 (Ev.now _))
    have hd : isDig c = true := (isDig_iff c).2 (by omega)
    by_cases d3 : i ≥ 10
    · rw [if_neg (fun h => by omega)]
      exact evn d1 (evn d2 (evp d3 (Ev.now _)))
    · rw [step_val n c hd (by omega)]
      have q := ih (by omega) (10 * n + (c.toNat - 48)) (by
        have := (isDig_iff c).1 hd
        rw [show (i + 1).toNat = i.toNat + 1 from by omega, Nat.pow_succ]; omega)
      have ea : ((c :: b.drop (i + 1).toNat).all isDig = true) = ((b.drop (i + 1).toNat).all isDig = true) := by
        rw [List.all_cons, hd, Bool.true_and]
      simp only [ea]
      exact evn d1 (evn d2 (evn d3 q))
theorem ref_num_ev (b : List UInt8) (hb : b.length ≤ 100000) : ∃ p : Int × Bool, Ev (fun k => spileref14_number.f k (ba b)) p ∧ (∀ v, numP 10 b = some v → p = ((v : Int), true)) ∧ (numP 10 b = none → p.2 = false) := by
  have q := ref_num_loop b hb 0 (by omega) (by omega) (by omega) 0 (by decide)
  rw [show (0 : Int).toNat = 0 from rfl, List.drop_zero] at q
  refine ⟨_, q, fun v h => ?_, fun h => ?_⟩
  · unfold numP at h
    by_cases c : Canon b ∧ b.length ≤ 10
    · rw [if_pos c] at h
      rw [if_pos ⟨c.1.2.2, c.2⟩, ← Option.some.inj h]
      refine Prod.ext rfl ?_
      obtain ⟨⟨h1, h2, h3⟩, _⟩ := c
      match b, h1, h2 with
      | [_], _, _ => rfl
      | x :: y :: r, _, h2 =>
        show decide (x ≠ 48) = true
        rw [decide_eq_true_iff]
        exact fun e => h2 ⟨by simp, by simp [e]⟩
    · rw [if_neg c] at h; cases h
  · unfold numP at h
    by_cases c : Canon b ∧ b.length ≤ 10
    · rw [if_pos c] at h; cases h
    · by_cases c2 : b.all isDig = true ∧ b.length ≤ 10
      · rw [if_pos c2]
        show flagR b = false
        match b, c, c2 with
        | [], _, _ => rfl
        | [z], c, c2 => exact absurd ⟨⟨by simp, by simp, c2.1⟩, c2.2⟩ c
        | x :: y :: r, c, c2 =>
          show decide (x ≠ 48) = false
          rw [decide_eq_false_iff_not, Decidable.not_not]
          by_cases e : x = 48
          · exact e
          · exact absurd ⟨⟨by simp, fun h => e (by simpa using h.2), c2.1⟩, c2.2⟩ c
      · rw [if_neg c2]
def markW (a b : List UInt8) : Option S39 := match numP 10 a with
  | none => none
  | some x => match numP 10 b with
    | none => none
    | some y => some ⟨(x : Int), (y : Int)⟩
def lineL (l : List UInt8) : Option S39 := if (cut1 32 l).2.2 = true then markW (cut1 32 l).1 (cut1 32 l).2.1 else none
def lineT (x : S39) : List UInt8 := Lib.itoa x.f0 ++ 32 :: Lib.itoa x.f1
theorem cut32_ev (s : ByteArray) (hs : s.size < 4294967281) : strings_Cut.f s ⟨#[32]⟩ = some (ba (cut1 32 s.data.toList).1, ba (cut1 32 s.data.toList).2.1, (cut1 32 s.data.toList).2.2) := by
  unfold strings_Cut.f
  rw [if_pos hs]
  have e : Lib.cut s.data.toList (⟨#[32]⟩ : ByteArray).data.toList = cut1 32 s.data.toList := cut_eq 32 s.data.toList
  rw [e]
  rfl
theorem numR_none {b : List UInt8} (h : numP 10 b = none) : numR 10 b = (0, false) := by unfold numR; rw [h]
theorem numR_some {b : List UInt8} {v : Nat} (h : numP 10 b = some v) : numR 10 b = ((v : Int), true) := by unfold numR; rw [h]
theorem rod_line (l : List UInt8) (f : Bool) (hl : l.length ≤ 100000) : Ev (fun k => rod_Parse.line k (ba l, f)) (if f = true then lineL l else none) := by
  have hc := cut32_ev (ba l) (by rw [ba_size]; omega)
  rw [ba_list] at hc
  have na := rod_num_ev (cut1 32 l).1
  have nb := rod_num_ev (cut1 32 l).2.1
  refine evb (evc (fun _ => rfl) hc) (evb na (evb nb ?_))
  cases f with
  | false => exact evn (by simp) (evr rfl)
  | true =>
    rw [if_pos rfl]
    unfold lineL
    by_cases c : (cut1 32 l).2.2 = true
    · rw [if_pos c]
      unfold markW
      cases ha : numP 10 (cut1 32 l).1 with
      | none => rw [numR_none ha]; exact evn (by simp) (Ev.now _)
      | some x =>
        cases hb : numP 10 (cut1 32 l).2.1 with
        | none => rw [numR_none hb]; exact evn (by simp) (Ev.now _)
        | some y => rw [numR_some ha, numR_some hb]; exact evp (by simp) (evr rfl)
    · rw [if_neg c]
      have e := (cut1_no 32 l (Bool.eq_false_iff.2 c)).2
      rw [e, show numR 10 [] = (0, false) from numR_bad (fun h => by have := h.1.1; simp at this)]
      exact evn (by simp) (Ev.now _)
theorem cut1_split (c : UInt8) : ∀ (p s : List UInt8), c ∉ p → cut1 c (p ++ s) = (p ++ (cut1 c s).1, (cut1 c s).2.1, (cut1 c s).2.2)
  | [], s, _ => rfl
  | b :: p, s, h => by
    have h1 : ¬ b = c := fun e => h (by simp [e])
    have ih := cut1_split c p s (fun e => h (by simp [e]))
    show cut1 c (b :: (p ++ s)) = _
    rw [cut1_cons, if_neg h1, ih]
    rfl
def markR (m : Int × Int × Bool) : Option S39 → Prop
  | some x => m = (x.f0, x.f1, true)
  | none => m.2.2 = false
theorem mark_loop (l : List UInt8) (hl : l.length ≤ 100000) : ∀ i, 0 ≤ i → i ≤ (l.length : Int) → (32 : UInt8) ∉ l.take i.toNat → ∃ m, Ev (fun k => spileref14_mark.l0 k (ba l) i) m ∧ markR m (lineL l) := by
  have hsz : (ba l).size = l.length := rfl
  refine count_up 0 (l.length : Int) (fun i => (32 : UInt8) ∉ l.take i.toNat → ∃ m, Ev (fun k => spileref14_mark.l0 k (ba l) i) m ∧ markR m (lineL l)) ?_ ?_
  · intro hno
    rw [show ((l.length : Int)).toNat = l.length from by omega, List.take_length] at hno
    refine ⟨(0, 0, false), Ev.step (fun k => spileref14_mark.l0.eq_2 ..) (evn (by omega) (Ev.now _)), ?_⟩
    have e := cut1_split 32 l [] hno
    rw [List.append_nil] at e
    unfold lineL
    rw [e, if_neg (by simp [cut1])]
    rfl
  · intro i h0 h1 ih hno
    obtain ⟨c, e1, e2, e3⟩ := byte_at (ba l) h0 (by rw [ba_size]; exact h1)
    rw [ba_list] at e1 e2
    have hw : wrap64 (i + 1) = i + 1 := w64 (by omega) (by omega)
    by_cases d : c = 32
    · subst d
      have es : l = l.take i.toNat ++ 32 :: l.drop (i + 1).toNat := by rw [← e1, List.take_append_drop]
      have ec : cut1 32 l = (l.take i.toNat, l.drop (i + 1).toNat, true) := by
        have := cut1_first 32 (l.take i.toNat) (l.drop (i + 1).toNat) hno
        rwa [← es] at this
      obtain ⟨p, p1, p2, p3⟩ := ref_num_ev (l.take i.toNat) (by rw [List.length_take]; omega)
      obtain ⟨q, q1, q2, q3⟩ := ref_num_ev (l.drop (i + 1).toNat) (by rw [List.length_drop]; omega)
      have x1 : (ba l).extract 0 i.toNat = ba (l.take i.toNat) := by rw [ba_ex, ba_list, List.drop_zero]
      have x2 : (ba l).extract (i + 1).toNat (ba l).size = ba (l.drop (i + 1).toNat) := by rw [ba_ex, ba_list, hsz, List.take_length]
      have pre : ∀ m, Ev (fun k => if p.2 = true then (some (p.1, q.1, q.2)) else (some (p.1, q.1, false))) m → Ev (fun k => spileref14_mark.l0 k (ba l) i) m := fun m hm => by
        refine Ev.step (fun k => spileref14_mark.l0.eq_2 ..) (evp (by omega) (evp h0 ?_))
        rw [e3, hw, x1, x2]
        exact evp rfl (evp (by omega) (evb p1 (evp (by omega) (evp (by omega) (evb q1 hm)))))
      unfold lineL
      rw [ec, if_pos rfl]
      unfold markW
      cases ha : numP 10 (l.take i.toNat) with
      | none =>
        have := p3 ha
        exact ⟨_, pre _ (evn (by rw [this]; simp) (Ev.now _)), rfl⟩
      | some x =>
        rw [p2 x ha] at pre
        cases hb : numP 10 (l.drop (i + 1).toNat) with
        | none => exact ⟨_, pre _ (evp rfl (Ev.now _)), q3 hb⟩
        | some y =>
          rw [q2 y hb] at pre
          exact ⟨_, pre _ (evp rfl (Ev.now _)), rfl⟩
    · obtain ⟨m, m1, m2⟩ := ih (by
        rw [e2, List.mem_append, not_or]
        exact ⟨hno, by simp; exact fun e => d e.symm⟩)
      refine ⟨m, Ev.step (fun k => spileref14_mark.l0.eq_2 ..) (evp (by omega) (evp h0 ?_)), m2⟩
      rw [e3, hw]
      exact evn (fun h => d ((toNat_eq c 32 (by decide)).1 h)) m1
theorem mark_ev (l : List UInt8) (hl : l.length ≤ 100000) : ∃ m, Ev (fun k => spileref14_mark.f k (ba l)) m ∧ markR m (lineL l) := mark_loop l hl 0 (by omega) (by omega) (by simp)
def Fin (r : List S39 × Int × Int) (o : List S39) : Prop := ∃ e, Ev (fun k => rod_Check.f k o) e ∧ (e = 0 ↔ OKR o) ∧ r = if e = 0 then (o, 0, 0) else ([], 0, e)
def runR (r : List S39 × Int × Int) : List S39 × Option Nat → Prop
  | (o, none) => Fin r o
  | (_, some i) => r = ([], (i : Int) + 1, 3)
theorem runR_unique {a b : List S39 × Int × Int} {x : List S39 × Option Nat} (h : runR a x) (g : runR b x) : a = b := by
  obtain ⟨o, st⟩ := x
  cases st with
  | none =>
    obtain ⟨e, e1, _, rfl⟩ := h
    obtain ⟨f, f1, _, rfl⟩ := g
    rw [ev_unique e1 f1]
  | some i => exact (show a = _ from h).trans (show b = _ from g).symm
theorem lns_next {s : List UInt8} (h : s ≠ []) : lns (ba s) = (ba (cut1 10 s).1, (cut1 10 s).2.2) :: lns (ba (cut1 10 s).2.1) := by
  have hs : ¬ (ba s).size = 0 := fun e => h (List.eq_nil_of_length_eq_zero e)
  rw [lns_cons hs]; rfl
theorem rod_rows (e : Bool) : ∀ (ls : List (List UInt8)) (s : List UInt8) (out : List S39), lin [] s = (ls, e) → s.length ≤ 5000 → out.length + ls.length ≤ 100000 →
    ∃ r, Ev (fun k => rod_Parse.rows k (lns (ba s)) out) r ∧ runR r (run lineL e ls out) := by
  intro ls
  induction ls with
  | nil =>
    intro s out h1 h2 h3
    obtain ⟨rfl, rfl⟩ := lin_nil h1
    obtain ⟨c, c1, _, c3⟩ := rod_both out (by omega)
    have e0 : lns (ba ([] : List UInt8)) = [] := lns_nil rfl
    rw [e0]
    refine ⟨if c = 0 then (out, 0, 0) else ([], 0, c), ?_, c, c1, c3, rfl⟩
    show Ev (fun k => (rod_Check.f k out).bind fun c => if c = 0 then some (out, 0, 0) else some ([], 0, c)) _
    refine evb c1 ?_
    by_cases q : c = 0
    · exact evp q (evr (by rw [if_pos q]))
    · exact evn q (evr (by rw [if_neg q]))
  | cons l r ih =>
    intro s out h1 h2 h3
    obtain ⟨e1, e2, hne, hll⟩ := lin_next h1
    have hd := rod_line (cut1 10 s).1 (cut1 10 s).2.2 (by rw [e1]; omega)
    rw [e1] at hd
    rw [lns_next hne, e1]
    have step : ∀ y, Ev (fun k => match (if (cut1 10 s).2.2 = true then lineL l else none) with
        | none => some (([] : List S39), (out.length : Int) + 1, (3 : Int))
        | some g => rod_Parse.rows k (lns (ba (cut1 10 s).2.1)) (out ++ [g])) y → Ev (fun k => rod_Parse.rows k ((ba l, (cut1 10 s).2.2) :: lns (ba (cut1 10 s).2.1)) out) y := by
      intro y hy
      show Ev (fun k => if out.length < 4294967296 then (rod_Parse.line k (ba l, (cut1 10 s).2.2)).bind fun y => match y with
        | none => some ([], (out.length : Int) + 1, 3)
        | some g => rod_Parse.rows k (lns (ba (cut1 10 s).2.1)) (out ++ [g]) else none) y
      exact evp (by simp at h3; omega) (evb hd hy)
    rw [run_cons]
    cases hx : lineL l with
    | none =>
      refine ⟨([], (out.length : Int) + 1, 3), step _ ?_, rfl⟩
      rw [hx, ite_self]
      exact Ev.now _
    | some x =>
      rw [hx] at step
      simp only []
      rcases e2 with ⟨c, hrest⟩ | ⟨c, _, rfl, rfl⟩
      · have hno : ¬ (r = [] ∧ e = false) := fun h => by
          have := (lin_nil (s := (cut1 10 s).2.1) (e := e) (by rw [hrest, h.1])).2
          rw [h.2] at this; cases this
        rw [if_neg hno]
        have hl2 := cut1_len 10 s c
        obtain ⟨y, y1, y3⟩ := ih (cut1 10 s).2.1 (out ++ [x]) hrest (by omega) (by rw [List.length_append]; simp at h3 ⊢; omega)
        rw [if_pos c] at step
        exact ⟨y, step y y1, y3⟩
      · rw [if_pos ⟨rfl, rfl⟩]
        rw [if_neg (by rw [c]; simp)] at step
        exact ⟨_, step _ (Ev.now _), rfl⟩
theorem ref_rows (s : List UInt8) (hs : s.length ≤ 5000) : ∀ i, 0 ≤ i → i ≤ (s.length : Int) → ∀ (out : List S39) (fr : Int), 0 ≤ fr → fr ≤ i → (out.length : Int) ≤ i →
    ∃ r, Ev (fun k => spileref14_Parse.l0 k (ba s) out fr i) r ∧ runR r (run lineL (lin ((s.take i.toNat).drop fr.toNat) (s.drop i.toNat)).2 (lin ((s.take i.toNat).drop fr.toNat) (s.drop i.toNat)).1 out) := by
  have hsz : (ba s).size = s.length := rfl
  refine count_up 0 (s.length : Int) _ ?_ ?_
  · intro out fr h0 h1 h2
    rw [show ((s.length : Int)).toNat = s.length from by omega, List.drop_length, List.take_length]
    have hw : wrap64 ((out.length : Int) + 1) = (out.length : Int) + 1 := w64 (by omega) (by omega)
    unfold lin
    by_cases c : fr < (s.length : Int)
    · have hne : ¬ s.drop fr.toNat = [] := fun e => by
        have := congrArg List.length e
        rw [List.length_drop] at this
        simp at this; omega
      rw [if_neg hne]
      refine ⟨([], (out.length : Int) + 1, 3), Ev.step (fun k => spileref14_Parse.l0.eq_2 ..) (evn (by omega) (evp (by omega) ?_)), ?_⟩
      · rw [hw]; exact Ev.now _
      · show runR _ (run lineL false [s.drop fr.toNat] out)
        rw [run_cons]
        cases lineL (s.drop fr.toNat) with
        | none => rfl
        | some x => simp only []; rw [if_pos ⟨trivial, trivial⟩]; rfl
    · have he : s.drop fr.toNat = [] := List.drop_eq_nil_of_le (by omega)
      rw [if_pos he]
      obtain ⟨e, e1, e2, e3⟩ := rod_both out (by omega)
      refine ⟨if e = 0 then (out, 0, 0) else ([], 0, e), Ev.step (fun k => spileref14_Parse.l0.eq_2 ..) (evn (by omega) (evn (by omega) (evb e2 ?_))), e, e1, e3, rfl⟩
      by_cases q : e = 0
      · exact evp q (evr (by rw [if_pos q]))
      · exact evn q (evr (by rw [if_neg q]))
  · intro i h0 h1 ih out fr g0 g1 g2
    obtain ⟨b, e1, e2, e3⟩ := byte_at (ba s) h0 (by rw [ba_size]; exact h1)
    rw [ba_list] at e1 e2
    have hw : wrap64 (i + 1) = i + 1 := w64 (by omega) (by omega)
    have hw2 : wrap64 ((out.length : Int) + 1) = (out.length : Int) + 1 := w64 (by omega) (by omega)
    have hlen : fr.toNat ≤ (s.take i.toNat).length := by rw [List.length_take]; omega
    rw [e1, lin_cons]
    by_cases c : b = 10
    · rw [if_pos c]
      obtain ⟨m, m1, m2⟩ := mark_ev ((s.take i.toNat).drop fr.toNat) (by rw [List.length_drop, List.length_take]; omega)
      have ex : (ba s).extract fr.toNat i.toNat = ba ((s.take i.toNat).drop fr.toNat) := by rw [ba_ex, ba_list]
      have pre : ∀ r, Ev (fun k => if m.2.2 = true then (if out.length < 8796093022208 then (spileref14_Parse.l0 k (ba s) (out ++ [(⟨m.1, m.2.1⟩ : S39)]) (i + 1) (i + 1)) else none) else (some (([] : List S39), (out.length : Int) + 1, 3))) r → Ev (fun k => spileref14_Parse.l0 k (ba s) out fr i) r := fun r hr => by
        refine Ev.step (fun k => spileref14_Parse.l0.eq_2 ..) (evp (by omega) (evp h0 (evp (by rw [e3]; exact (toNat_eq b 10 (by decide)).2 c) (evp g0 (evp g1 (evp (by omega) ?_))))))
        rw [ex, hw, hw2]
        exact evb m1 hr
      show ∃ r, Ev (fun k => spileref14_Parse.l0 k (ba s) out fr i) r ∧ runR r (run lineL (lin [] (s.drop (i + 1).toNat)).2 (((s.take i.toNat).drop fr.toNat) :: (lin [] (s.drop (i + 1).toNat)).1) out)
      rw [run_cons]
      cases hx : lineL ((s.take i.toNat).drop fr.toNat) with
      | none =>
        rw [hx] at m2
        exact ⟨_, pre _ (evn (by rw [show m.2.2 = false from m2]; simp) (Ev.now _)), rfl⟩
      | some x =>
        rw [hx] at m2
        obtain rfl : m = (x.f0, x.f1, true) := m2
        simp only []
        have hno : ¬ ((lin [] (s.drop (i + 1).toNat)).1 = [] ∧ (lin [] (s.drop (i + 1).toNat)).2 = false) := fun h => by
          have := (lin_nil (s := s.drop (i + 1).toNat) (e := false) (Prod.ext h.1 h.2)).2
          cases this
        rw [if_neg hno]
        obtain ⟨r, r1, r2⟩ := ih (out ++ [x]) (i + 1) (by omega) (Int.le_refl _) (by rw [List.length_append]; simp; omega)
        have z : (s.take (i + 1).toNat).drop (i + 1).toNat = [] := List.drop_eq_nil_of_le (by rw [List.length_take]; omega)
        rw [z] at r2
        exact ⟨r, pre _ (evp rfl (evp (by omega) r1)), r2⟩
    · rw [if_neg c]
      obtain ⟨r, r1, r2⟩ := ih out fr g0 (by omega) (by omega)
      rw [e2, List.drop_append_of_le_length hlen] at r2
      refine ⟨r, Ev.step (fun k => spileref14_Parse.l0.eq_2 ..) (evp (by omega) (evp h0 (evn (by rw [e3]; exact fun h => c ((toNat_eq b 10 (by decide)).1 h)) (by rw [hw]; exact r1)))), r2⟩
theorem parse_both (s : ByteArray) (hs : s.size ≤ 4096) : ∃ r, Ev (fun k => rod_Parse.f k s) r ∧ Ev (fun k => spileref14_Parse.f k s) r ∧ runR r (run lineL (lin [] s.data.toList).2 (lin [] s.data.toList).1 []) := by
  have hlen := lin_len s.data.toList []
  have hz := size_data s
  obtain ⟨r, r1, r2⟩ := rod_rows (lin [] s.data.toList).2 (lin [] s.data.toList).1 s.data.toList [] rfl (by omega) (by simp; omega)
  obtain ⟨q, q1, q2⟩ := ref_rows s.data.toList (by omega) 0 (by omega) (by omega) [] 0 (by omega) (by omega) (by simp)
  rw [show (0 : Int).toNat = 0 from rfl, List.take_zero, List.drop_zero, List.drop_zero] at q2
  rw [ba_data] at r1 q1
  rw [runR_unique q2 r2] at q1
  exact ⟨r, evn (by omega) r1, evn (by omega) q1, r2⟩
theorem okr_marks {l : List S39} (h : OKR l) : ∀ x, x ∈ l → RngR x := fun x hx => by
  obtain ⟨i, h0, h1, rfl⟩ := rd39_of_mem hx
  exact h.2.2.1 i h0 h1
theorem lineT_len {x : S39} (h : RngR x) : (lineT x).length ≤ 30 := by
  obtain ⟨a, b, c, d⟩ := h
  have y0 := itoa_le (n := x.f0) (m := 10) (by omega) (by omega) (by omega)
  have y1 := itoa_le (n := x.f1) (m := 10) (by omega) (by omega) (by omega)
  simp only [lineT, List.length_append, List.length_cons]
  omega
theorem part_eq {x : S39} (h : RngR x) : rod_Print.part x = some (ba (lineT x ++ [10])) := by
  obtain ⟨a, b, c, d⟩ := h
  have y0 := itoa_le (n := x.f0) (m := 10) (by omega) (by omega) (by omega)
  have y1 := itoa_le (n := x.f1) (m := 10) (by omega) (by omega) (by omega)
  unfold rod_Print.part
  rw [itoa_f (by omega) (by omega), itoa_f (by omega) (by omega)]
  show (if (ba (Lib.itoa x.f0)).size ≤ 100 ∧ (ba (Lib.itoa x.f1)).size ≤ 100 then some (((ba (Lib.itoa x.f0) ++ ba [32]) ++ ba (Lib.itoa x.f1)) ++ ba [10]) else none) = _
  rw [if_pos (by rw [ba_size, ba_size]; omega), ba_app, ba_app, ba_app]
  simp [lineT]
theorem app_eq (acc s : List UInt8) (h : acc.length + s.length ≤ 140737488355328) : rod_Print.app acc (ba s) = some (acc ++ s) := by
  unfold rod_Print.app
  rw [ba_size, if_pos h]
  rfl
theorem print_loop (l : List S39) (hn : (l.length : Int) ≤ 128) (h : ∀ x, x ∈ l → RngR x) : ∀ i, 0 ≤ i → i ≤ (l.length : Int) → ∀ acc : List UInt8, (acc.length : Int) ≤ 31 * i →
    Ev (fun k => rod_Print.l0 k l acc i) (ba (acc ++ printL lineT (l.drop i.toNat)), 0) := by
  refine count_up 0 (l.length : Int) _ ?_ ?_
  · intro acc ha
    rw [List.drop_eq_nil_of_le (by omega)]
    exact Ev.step (fun k => rod_Print.l0.eq_2 ..) (evn (by omega) (evr (by simp [printL, ba])))
  · intro i h0 h1 ih acc ha
    have hx := h _ (rd39_mem h0 h1)
    have hl := lineT_len hx
    have q := ih (acc ++ (lineT (rd_T39 l i) ++ [10])) (by simp only [List.length_append, List.length_cons, List.length_nil]; omega)
    rw [drop39 h0 h1]
    refine Ev.step (fun k => rod_Print.l0.eq_2 ..) (evp h1 (evp h0 ?_))
    rw [part_eq hx, w64_succ h0 h1 (by omega)]
    simp only [Option.bind_some]
    rw [app_eq _ _ (by simp only [List.length_append, List.length_cons, List.length_nil]; omega)]
    simp only [Option.bind_some]
    simp only [printL, List.append_assoc, List.cons_append, List.nil_append] at q ⊢
    exact q
theorem ref_print_loop (l : List S39) (hn : (l.length : Int) ≤ 128) (h : ∀ x, x ∈ l → RngR x) : ∀ i, 0 ≤ i → i ≤ (l.length : Int) → ∀ acc : List UInt8, (acc.length : Int) ≤ 31 * i →
    Ev (fun k => spileref14_Print.l0 k l (ba acc) i) (ba (acc ++ printL lineT (l.drop i.toNat)), 0) := by
  refine count_up 0 (l.length : Int) _ ?_ ?_
  · intro acc ha
    rw [List.drop_eq_nil_of_le (by omega)]
    exact Ev.step (fun k => spileref14_Print.l0.eq_2 ..) (evn (by omega) (evr (by simp [printL])))
  · intro i h0 h1 ih acc ha
    have hx := h _ (rd39_mem h0 h1)
    have hl := lineT_len hx
    obtain ⟨a, b, c, d⟩ := hx
    have y0 := itoa_le (n := (rd_T39 l i).f0) (m := 10) (by omega) (by omega) (by omega)
    have y1 := itoa_le (n := (rd_T39 l i).f1) (m := 10) (by omega) (by omega) (by omega)
    have q := ih (acc ++ (lineT (rd_T39 l i) ++ [10])) (by simp only [List.length_append, List.length_cons, List.length_nil]; omega)
    rw [drop39 h0 h1]
    have e1 : ba (Lib.itoa (rd_T39 l i).f0) ++ (⟨#[32]⟩ : ByteArray) = ba (Lib.itoa (rd_T39 l i).f0 ++ [32]) := ba_app _ _
    have e2 : ba (Lib.itoa (rd_T39 l i).f0 ++ [32] ++ Lib.itoa (rd_T39 l i).f1) ++ (⟨#[10]⟩ : ByteArray) = ba (Lib.itoa (rd_T39 l i).f0 ++ [32] ++ Lib.itoa (rd_T39 l i).f1 ++ [10]) := ba_app _ _
    refine Ev.step (fun k => spileref14_Print.l0.eq_2 ..) (evp h1 (evp h0 (evb (evc (fun _ => rfl) (itoa_f (by omega) (by omega))) (evp (by rw [ba_size]; omega) (evb (evc (fun _ => rfl) (itoa_f (by omega) (by omega))) ?_)))))
    rw [e1, ba_app, e2, ba_app, w64_succ h0 h1 (by omega)]
    refine evp (by rw [ba_size, ba_size]; simp only [List.length_append, List.length_cons, List.length_nil]; omega) (evp (by rw [ba_size]; simp only [List.length_append, List.length_cons, List.length_nil]; omega) (evp (by rw [ba_size, ba_size]; simp only [List.length_append, List.length_cons, List.length_nil]; omega) ?_))
    simp only [printL, lineT, List.append_assoc, List.cons_append, List.nil_append] at q ⊢
    exact q
theorem print_both (l : List S39) (hl : (l.length : Int) ≤ 9223372036854775807) : ∃ r, Ev (fun k => rod_Print.f k l) r ∧ Ev (fun k => spileref14_Print.f k l) r ∧ (OKR l → r = (ba (printL lineT l), 0)) ∧ (¬ OKR l → r.2 ≠ 0 ∧ r.1 = ba [] ∧ Ev (fun k => rod_Check.f k l) r.2) := by
  obtain ⟨e, e1, e2, e3⟩ := rod_both l hl
  by_cases hg : OKR l
  · obtain rfl := e3.2 hg
    have hf := okr_marks hg
    have p1 := print_loop l hg.2.1 hf 0 (by omega) (by omega) [] (by simp)
    have p2 := ref_print_loop l hg.2.1 hf 0 (by omega) (by omega) [] (by simp)
    rw [show (0 : Int).toNat = 0 from rfl, List.drop_zero, List.nil_append] at p1 p2
    exact ⟨_, evb e1 (evp rfl p1), evb e2 (evp rfl p2), fun _ => rfl, fun h => absurd hg h⟩
  · have he : ¬ e = 0 := fun q => hg (e3.1 q)
    exact ⟨(ba [], e), evb e1 (evn he (Ev.now _)), evb e2 (evn he (Ev.now _)), fun h => absurd h hg, fun _ => ⟨he, rfl, e1⟩⟩
theorem runR_len {r : List S39 × Int × Int} {x : List S39 × Option Nat} (h : runR r x) : (r.1.length : Int) ≤ 128 := by
  obtain ⟨o, st⟩ := x
  cases st with
  | none =>
    obtain ⟨e, _, e2, rfl⟩ := h
    by_cases q : e = 0
    · rw [if_pos q]; exact (e2.1 q).2.1
    · rw [if_neg q]; simp
  | some i => rw [show r = _ from h]; simp
end Go.Proofs.YtkolhpacpbhceaaDoor.PL
namespace Go.Proofs.YtkolhpacpbhceaaDoor.Pure
open Go Go.RowKit Go.Proofs.YtkolhpacpbhceaaDoorW.PrintWords Go.Proofs.YtkolhpacpbhceaaDoorW.PrintLast Go.Proofs.YtkolhpacpbhceaaDoorW.PrintMore Go.Proofs.YtkolhpacpbhceaaDoor.Pr Go.Proofs.YtkolhpacpbhceaaDoor.Opn Go.Proofs.YtkolhpacpbhceaaDoor.X Go.Proofs.YtkolhpacpbhceaaDoor.PL Go.Proofs.YtkolhpacpbhceaaDoor.TX
theorem RodTexts : rodTextsPure := by
  intro l s hl hs
  refine Ev.rounds ?_
  obtain ⟨b, hb, hb2⟩ := few_cases l [] 0
  have haw : Ev (fun _ : Nat => spilelaw14_awake.f) true := Ev.now _
  refine evb haw (evp rfl (evb (evc (fun _ => rfl) hb) ?_))
  have yes : Ev (fun k => spilelaw14_RodTexts.j0 k l s true) true := Ev.step (fun k => spilelaw14_RodTexts.j0.eq_2 ..) (evp rfl (Ev.now _))
  cases b with
  | false => exact evn (by simp) yes
  | true =>
    have hn := (hb2 rfl).1
    refine evp rfl ?_
    by_cases c : (s.size : Int) > 1000
    · rw [decide_eq_true c]; exact yes
    rw [decide_eq_false c]
    obtain ⟨p, p1, p2, _⟩ := print_both l (by omega)
    obtain ⟨r, r1, r2, r3⟩ := parse_both s (by omega)
    have hr := runR_len r3
    exact Ev.step (fun k => spilelaw14_RodTexts.j0.eq_2 ..) (evn (by simp) (evb (evc (fun _ => rfl) (clone_eq hn)) (evb p1 (evb p2 (evb r1 (evb r2 (evp rfl (evp rfl (evb (same_self r.1 (by omega)) (evp rfl (evp rfl (evr (by simp)))))))))))))
end Go.Proofs.YtkolhpacpbhceaaDoor.Pure
namespace Go.Proofs.YtkolhpacpbhceaaDoor.X
open Go
variable {H : Type} {enc : TypeId × Value → H}
theorem wrap_shaped {a : Assume} {C : Checked} {os : Os} {f : FuncId} {fn : Func} {s : ChangeSpec} {conds : List PathCond} {apart fresh handsOn again : Bool} {X : World → Array Value → Prop}
    (hX : ∀ (w w' : World) (args : Array Value), w.heap = w'.heap → X w args → X w' args)
    (own : ownKnob C.prog.godebug = none) (started : os.Started) (noInit : C.prog.inits.idxOf? f = none) (hfn : C.prog.funcs[f]? = some fn)
    (witness : ∃ (w : World) (tape : Tape) (i : Input), w.os = os ∧ (w.forCall tape i).Shaped C.prog ∧ i.vars = [] ∧ Input.okWide C.prog (w.forCall tape i) .any w.heap.size f i ∧
      ((s.pre enc C.prog fn conds apart (w.forCall tape i).memory i.args ∧ X (w.forCall tape i).memory i.args) ∧ sizedMet enc C.prog fn (OpenSpec.ofChange s) apart (w.forCall tape i).memory i.args) ∧ a.holds C.prog (lone (Frame.enter C.prog f i.args .normal) [] (w.forCall tape i)))
    (walk : ∀ (W : World) (base : Nat) (args : Array Value) (ds gs : List (DataW H)) (before : List MemPlace),
      (∀ (j : Nat) t v, fn.params[j]? = some t → args[j]? = some v → Value.okWide C.prog W .any base t v) →
      DataW.Whole enc C.prog fn.params.toList s.vars apart W args.toList ds gs before → X W args → W.ShapedOpen C.prog →
      Calls C.prog f args W fun e W' => ∃ v, e = .returned v ∧ s.post enc C.prog fn apart fresh handsOn again W args v W') :
    ReturnsInHanded a C os f .any (fun w args => (s.pre enc C.prog fn conds apart w args ∧ X w args) ∧ sizedMet enc C.prog fn (OpenSpec.ofChange s) apart w args) (s.post enc C.prog fn apart fresh handsOn again) := by
  refine returnsInHanded_of_calls own started noInit witness ?_
  intro w tape i _ hsh _ hok hpre _
  obtain ⟨_, _, _, fn', hfn', _, _, _, _, hval⟩ := hok
  obtain rfl : fn' = fn := Option.some.inj (hfn'.symm.trans hfn)
  obtain ⟨⟨⟨ds, gs, before, hw, _⟩, hx⟩, _⟩ := hpre
  refine (walk (w.forCall tape i) w.heap.size i.args ds gs before hval (DataW.Whole.of_heap (w' := w.forCall tape i) (by rfl) hw) (hX _ _ _ (by rfl) hx) hsh).mono fun e W' ⟨v, he, hp⟩ => ?_
  subst he
  exact ChangeSpec.post_blind hp
end Go.Proofs.YtkolhpacpbhceaaDoor.X
namespace Go.Proofs.YtkolhpacpbhceaaDoor.rodTexts
open Go Go.ChangeShapes Go.WideShapes Go.ChangeAt Go.RowKit
open Go.ChangeMaps (open_string shut_string)
open Go.Proofs.YtkolhpacpbhceaaDoorW.PrintWords Go.Proofs.YtkolhpacpbhceaaDoor.O Go.Proofs.YtkolhpacpbhceaaDoor.Opn Go.Proofs.YtkolhpacpbhceaaDoor.Pr Go.Proofs.YtkolhpacpbhceaaDoor.X
theorem own : ownKnob Tryd.prog.godebug = none := by kernel_rfl
theorem laidOut : laidOutB Tryd.prog = true := by kernel_rfl
abbrev laidL : List (String × DataW Unit) := [("math/bits.deBruijn32tab", Rows.laid_math_bits_deBruijn32tab), ("math/bits.deBruijn64tab", Rows.laid_math_bits_deBruijn64tab), ("internal/strconv.uint64pow10", Rows.laid_internal_strconv_uint64pow10)]
set_option maxRecDepth 100000 in
theorem lifted (os : Os) (started : os.Started) (H : Type) (enc : TypeId × Value → H) :
    ReturnsInHanded {} Tryd.checked os 5 .any (fun w args => (Rows.rodTextsSpec.pre enc Tryd.prog Tryd.f5 [] false w args ∧ laidMetH Tryd.prog laidL w) ∧ sizedMet enc Tryd.prog Tryd.f5 (OpenSpec.ofChange Rows.rodTextsSpec) false w args)
      (Rows.rodTextsSpec.post enc Tryd.prog Tryd.f5 false true false false) := by
  refine wrap_shaped (C := Tryd.checked) (X := (fun w _ => laidMetH Tryd.prog laidL w)) (fun _ _ _ hh h => h.of_heap hh) own started (by kernel_rfl) Tryd.func5
    (ChangeSpec.witness_shaped (enc := enc) (C := Tryd.checked) (os := os) (X := (fun w _ => laidMetH Tryd.prog laidL w)) false (World.laidAll Tryd.prog os laidL) #[.slice none 0 0, .string ByteArray.empty] 8 (World.laidAll_os _ _ _) (World.shaped_of_ZipB (by kernel_rfl) (by kernel_rfl)) (by kernel_rfl) (by kernel_rfl) (by kernel_rfl) (by rw [MakeChecks.laidMetH_plain _ _ _ (by kernel_rfl)]; exact laidMet_laidAll _ (by kernel_rfl) (by kernel_rfl))) ?_
  intro W base args ds gs before hval0 hW hL hsh
  have hval : ∀ (j : Nat) t v, Tryd.f5.params[j]? = some t → args[j]? = some v → Value.okWide Tryd.prog W .any base t v := hval0
  have hW' := hW
  obtain ⟨p, q, hA0, hV, rfl, hfz, hnd⟩ := hW
  have hA : DataW.TrodAll enc Tryd.prog W 0 (fun _ => true) true Tryd.f5.params.toList args.toList ds p := hA0
  rw [Tryd.params5] at hA hval
  obtain ⟨v0, vs0, d0, ds0, p0, q0, hargs, rfl, rfl, h0, r0⟩ := trodAll_cons hA
  obtain ⟨v1, vs1, d1, ds1, p1, q1, rfl, rfl, rfl, h1, r1⟩ := trodAll_cons r0
  obtain ⟨rfl, rfl, rfl⟩ := trodAll_nil r1
  obtain rfl : args = #[v0, v1] := by cases args; simp_all
  obtain ⟨rfl, rfl⟩ := trodVars_none hV
  obtain ⟨a0_, len0_, cap0_, rfl⟩ := okWide_slice Tryd.underlying22 (hval 0 22 v0 rfl rfl)
  have k0 := h0
  have lt0 : ∀ x ∈ p0, x.block < W.heap.size := by obtain ⟨m, hm⟩ := k0; exact DataW.trod_lt m _ _ _ hm
  obtain ⟨l0, K0, ok0⟩ : ∃ x, (Kd.slice 39 k39).K W x [.slice a0_ len0_ cap0_] ∧ (x.length ≤ maxLen ∧ ∀ x0_, x0_ ∈ x → ok39 x0_) := by
    obtain ⟨fuel, hf⟩ := h0
    exact opens22.2 _ _ _ _ _ _ _ _ _ hf
  obtain ⟨A0, c0, e0, g0, hr0⟩ := K0
  simp only [List.cons.injEq, Value.slice.injEq, and_true] at e0
  obtain ⟨rfl, rfl, rfl⟩ := e0
  obtain ⟨a1, rfl, rfl, rfl, y1⟩ := open_string Tryd.underlying9 (hval 1 9 v1 rfl rfl) h1
  clear hA0 hval0
  obtain ⟨k, hp⟩ := Pure.RodTexts l0 a1 ok0 y1
  have hG : GI W := GI.of_laid laidL (by simp [laidL]) hL hsh
  refine (spilelaw14_RodTexts.calls k _ _ l0 a1 true W hr0 g0 hG rfl hp).mono fun e W' ⟨he, bel⟩ => ?_
  subst he
  exact ⟨_, rfl, _, _, _, [], _, [], hW', trodAll_mk1 (shut_bool Tryd.underlying4 _), (trodAll_cons_mk (Below.trod laidOut (by kernel_rfl) (of_decide_eq_true (by kernel_rfl)) k0 bel lt0) (trodAll_cons_mk (shut_string Tryd.underlying9 y1) trodAll_mk0)), rfl, bel.frame _, fun h => by cases h⟩
theorem holds : Rows.RodTextsSaid :=
  OpenClaim.holds_of_wide 5 Tryd.f5 rfl rfl rfl rfl rfl rfl rfl ⟨rfl, rfl, rfl, rfl, rfl⟩ rfl rfl rfl rfl rfl (by kernel_rfl) Tryd.func5 (by kernel_rfl)
    (of_decide_eq_true (by kernel_rfl)) (by unfold Func.isWrapper; first | (rw [if_pos (by decide +kernel)]; kernel_rfl) | (rw [if_neg (by decide +kernel)]; exact ⟨rfl, rfl⟩))
    (fun os started H enc _ => lifted os started H enc)
theorem card : Rows.RodTextsCardSaid :=
  Claim7.holds_tied_plain_at .later [] [.data, .data, .data] true (true, "ffac5e0cc8868b2e00f9950da871680f8663d7526cb1afae6a9e6c162e8ee000") false
    holds (fun _ h => by cases h) (by kernel_rfl) (fun _ h => by cases h) rodTexts_row_tie rfl ⟨rfl, rfl⟩ (by kernel_rfl) rfl
    (fun f fn hf hfn => by
      obtain rfl : f = 5 := Option.some.inj ((show Tryd.prog.funcNamed "spile/spilelaw14.RodTexts" = some 5 by kernel_rfl).symm.trans hf) |>.symm
      obtain rfl : fn = Tryd.f5 := (Option.some.inj (Tryd.func5.symm.trans hfn)).symm
      exact ⟨by kernel_rfl, fun j t ht => by
        rw [Tryd.params5] at ht
        have hm : t ∈ [22, 9] := by simpa using Array.mem_of_getElem? ht
        have hall : ([22, 9].all fun u => !Tryd.prog.wantsStandIn u) = true := by kernel_rfl
        exact (show Tryd.prog.wantsStandIn t = false by simpa using List.all_eq_true.1 hall t hm)⟩)
    (by kernel_rfl)
end Go.Proofs.YtkolhpacpbhceaaDoor.rodTexts
namespace Go.Proofs.YtkolhpacpbhceaaDoor
/-- The card, under a short name, for the claim. -/
theorem rodTexts_holds : Rows.RodTextsCardSaid := rodTexts.card
#print axioms rodTexts_holds
end Go.Proofs.YtkolhpacpbhceaaDoor
