/-
A part of what these laws rest on: contracts of the functions that they reach, and plain lemmas.
-/
import Derived.RangeFuncNested
import Derived.RangeFuncBound
import Derived.RangeFuncCalls
import Derived.RangeFuncLeaves
import Derived.RangeFuncBox
import Derived.Shelf.Abstract
import Derived.Shelf.RegionOpen
import Derived.OwnWalkIn
import Derived.TacticsInMore
import Derived.LoopNIn
import Derived.LoopIn
import Derived.Test.YtoofoicocfnfoaaDoorDensityTextsB
set_option linter.unusedVariables false
set_option linter.unusedSimpArgs false
namespace Go.Proofs.YtoofoicocfnfoaaDoor.Pr
open Go.RowKit Go.Proofs.YtoofoicocfnfoaaDoorW.PrintWords Go.Proofs.YtoofoicocfnfoaaDoorW.PrintLast Go.Proofs.YtoofoicocfnfoaaDoorW.PrintMore Go.Proofs.YtoofoicocfnfoaaDoor.X
attribute [local go_sem] max2_int min2_int max_two min_two max_three min_three max_four min_four   -- for this text's walks alone
set_option linter.unusedVariables false
set_option linter.unusedSimpArgs false
def spileref16_Decimal.f : Nat → Int → Option (ByteArray)
 | 0, _ => none
 | k + 1, a0 => if a0 < 10 then (if 0 ≤ a0 then (if a0 ≤ (wrap64 (a0 + 1)) then (if (wrap64 (a0 + 1)) ≤ 10 then (some ((⟨#[48, 49, 50, 51, 52, 53, 54, 55, 56, 57]⟩ : ByteArray).extract (a0 : Int).toNat ((wrap64 (a0 + 1)) : Int).toNat)) else (none)) else (none)) else (none)) else ((spileref16_Decimal.f k (wrap64 (Int.tdiv a0 10))).bind fun t325 => (if 0 ≤ (Int.tmod a0 10) then (if (Int.tmod a0 10) ≤ (wrap64 ((Int.tmod a0 10) + 1)) then (if (wrap64 ((Int.tmod a0 10) + 1)) ≤ 10 then (if t325.size + ((⟨#[48, 49, 50, 51, 52, 53, 54, 55, 56, 57]⟩ : ByteArray).extract ((Int.tmod a0 10) : Int).toNat ((wrap64 ((Int.tmod a0 10) + 1)) : Int).toNat).size ≤ 9223372036854775807 then (some (t325 ++ ((⟨#[48, 49, 50, 51, 52, 53, 54, 55, 56, 57]⟩ : ByteArray).extract ((Int.tmod a0 10) : Int).toNat ((wrap64 ((Int.tmod a0 10) + 1)) : Int).toNat))) else (none)) else (none)) else (none)) else (none)))
def spileref16_Decimal.T3 : Bool × List (List Nat × List Nat) := (true, [([], []), ([0], [0]), ([1], [1]), ([], []), ([3], [3]), ([], []), ([5], [5]), ([6], [6]), ([4, 7], [4, 7]), ([2, 8], [2, 8]), ([9, 2, 0, 1, 2, 3, 4, 5, 6, 7, 8, 9], [9])])
def spileref16_Decimal.B3 : List Nat := [0, 1, 3, 0, 8, 0, 32, 96, 248, 511, 1023]
theorem spileref16_Decimal.tab3 : rtab .any (opsOf Tryd.f43 3) = spileref16_Decimal.T3 := by kernel_rfl
theorem spileref16_Decimal.bits3 : waitsOk spileref16_Decimal.T3.2 spileref16_Decimal.B3 = true := by kernel_rfl
set_option maxHeartbeats 8000000 in
set_option maxRecDepth 100000 in
theorem spileref16_Decimal.calls (k : Nat) : ∀ (a0 : Int) (r : ByteArray) (w : World) (h : spileref16_Decimal.f k a0 = some r),
  Calls Tryd.prog 43 #[.int .i64 a0] w fun e w' => e = .returned (.string r) ∧ Below w.heap.size w w' := by
 induction k using Nat.strongRecOn with
 | _ k ih =>
 intro a0 r w h
 cases k with
 | zero => exact absurd h (by simp [spileref16_Decimal.f])
 | succ k =>
 simp only [spileref16_Decimal.f] at h
 have HB := Aside0.mk (Below.refl w.heap.size w)
 have H : (if a0 < 10 then (if 0 ≤ a0 then (if a0 ≤ (wrap64 (a0 + 1)) then (if (wrap64 (a0 + 1)) ≤ 10 then (some ((⟨#[48, 49, 50, 51, 52, 53, 54, 55, 56, 57]⟩ : ByteArray).extract (a0 : Int).toNat ((wrap64 (a0 + 1)) : Int).toNat)) else (none)) else (none)) else (none)) else ((spileref16_Decimal.f k (wrap64 (Int.tdiv a0 10))).bind fun t325 => (if 0 ≤ (Int.tmod a0 10) then (if (Int.tmod a0 10) ≤ (wrap64 ((Int.tmod a0 10) + 1)) then (if (wrap64 ((Int.tmod a0 10) + 1)) ≤ 10 then (if t325.size + ((⟨#[48, 49, 50, 51, 52, 53, 54, 55, 56, 57]⟩ : ByteArray).extract ((Int.tmod a0 10) : Int).toNat ((wrap64 ((Int.tmod a0 10) + 1)) : Int).toNat).size ≤ 9223372036854775807 then (some (t325 ++ ((⟨#[48, 49, 50, 51, 52, 53, 54, 55, 56, 57]⟩ : ByteArray).extract ((Int.tmod a0 10) : Int).toNat ((wrap64 ((Int.tmod a0 10) + 1)) : Int).toNat))) else (none)) else (none)) else (none)) else (none)))) = some r := h
 clear h
 by_cases c2 : a0 < 10
 ·
  rw [if_pos c2] at H
  have c2b0 : decide (a0 < 10) = true := decide_eq_true c2
  clear c2
  by_cases c3 : 0 ≤ a0
  ·
   rw [if_pos c3] at H
   have c3b0 := eq_true c3
   have c3b1 : decide (0 ≤ a0) = true := decide_eq_true c3
   clear c3
   by_cases c4 : a0 ≤ (wrap64 (a0 + 1))
   ·
    rw [if_pos c4] at H
    have c4b0 := eq_true c4
    have c4b1 : decide (a0 ≤ (wrap64 (a0 + 1))) = true := decide_eq_true c4
    by_cases c5 : (wrap64 (a0 + 1)) ≤ 10
    ·
     rw [if_pos c5] at H
     have c5b0 := eq_true c5
     have c5b1 : decide ((wrap64 (a0 + 1)) ≤ 10) = true := decide_eq_true c5
     obtain rfl := Option.some.inj H
     go_enter Tryd.func43, Tryd.ntmps43
     go_wp2
     go_ret
     exact ⟨by first | rfl | (simp [errW_none, errW_some] <;> rfl) | (simp [*, errW_none, errW_some] <;> rfl), by repeat (first | (with_reducible first | exact HB.out | apply below_alloc | apply pw_below_drewN | apply below_drew1) | exact HB.out)⟩
    ·
     rw [if_neg c5] at H
     exact absurd H (by simp)
   ·
    rw [if_neg c4] at H
    exact absurd H (by simp)
  ·
   rw [if_neg c3] at H
   exact absurd H (by simp)
 ·
  rw [if_neg c2] at H
  have c2b0 : decide (a0 < 10) = false := decide_eq_false c2
  clear c2
  replace H := Option.bind_eq_some_iff.mp H
  obtain ⟨t325, A60, H⟩ := H
  replace H : (if 0 ≤ (Int.tmod a0 10) then (if (Int.tmod a0 10) ≤ (wrap64 ((Int.tmod a0 10) + 1)) then (if (wrap64 ((Int.tmod a0 10) + 1)) ≤ 10 then (if t325.size + ((⟨#[48, 49, 50, 51, 52, 53, 54, 55, 56, 57]⟩ : ByteArray).extract ((Int.tmod a0 10) : Int).toNat ((wrap64 ((Int.tmod a0 10) + 1)) : Int).toNat).size ≤ 9223372036854775807 then (some (t325 ++ ((⟨#[48, 49, 50, 51, 52, 53, 54, 55, 56, 57]⟩ : ByteArray).extract ((Int.tmod a0 10) : Int).toNat ((wrap64 ((Int.tmod a0 10) + 1)) : Int).toNat))) else (none)) else (none)) else (none)) else (none)) = some r := H
  have A6 := Aside0.mk A60
  clear A60
  obtain ⟨ji7, hji7⟩ : ∃ j_ : Int, (Int.tmod a0 10) = j_ := ⟨_, rfl⟩
  replace H : (if 0 ≤ (ji7) then (if (ji7) ≤ (wrap64 ((ji7) + 1)) then (if (wrap64 ((ji7) + 1)) ≤ 10 then (if t325.size + ((⟨#[48, 49, 50, 51, 52, 53, 54, 55, 56, 57]⟩ : ByteArray).extract ((ji7) : Int).toNat ((wrap64 ((ji7) + 1)) : Int).toNat).size ≤ 9223372036854775807 then (some (t325 ++ ((⟨#[48, 49, 50, 51, 52, 53, 54, 55, 56, 57]⟩ : ByteArray).extract ((ji7) : Int).toNat ((wrap64 ((ji7) + 1)) : Int).toNat))) else (none)) else (none)) else (none)) else (none)) = some r := by first | (rw [hji7] at H; exact H) | (simp only [hji7] at H ⊢; exact H)
  (try rw [hji7] at A6)
  by_cases c8 : 0 ≤ (ji7)
  ·
   rw [if_pos c8] at H
   have c8b0 := eq_true c8
   have c8b1 : decide (0 ≤ (ji7)) = true := decide_eq_true c8
   clear c8
   by_cases c9 : (ji7) ≤ (wrap64 ((ji7) + 1))
   ·
    rw [if_pos c9] at H
    have c9b0 := eq_true c9
    have c9b1 : decide ((ji7) ≤ (wrap64 ((ji7) + 1))) = true := decide_eq_true c9
    by_cases c10 : (wrap64 ((ji7) + 1)) ≤ 10
    ·
     rw [if_pos c10] at H
     have c10b0 := eq_true c10
     have c10b1 : decide ((wrap64 ((ji7) + 1)) ≤ 10) = true := decide_eq_true c10
     by_cases c11 : t325.size + ((⟨#[48, 49, 50, 51, 52, 53, 54, 55, 56, 57]⟩ : ByteArray).extract ((ji7) : Int).toNat ((wrap64 ((ji7) + 1)) : Int).toNat).size ≤ 9223372036854775807
     ·
      rw [if_pos c11] at H
      have c11b0 := eq_true c11
      have c11b1 : decide (t325.size + ((⟨#[48, 49, 50, 51, 52, 53, 54, 55, 56, 57]⟩ : ByteArray).extract ((ji7) : Int).toNat ((wrap64 ((ji7) + 1)) : Int).toNat).size ≤ 9223372036854775807) = true := decide_eq_true c11
      try have c11b2 : (9223372036854775807 < t325.size + ((⟨#[48, 49, 50, 51, 52, 53, 54, 55, 56, 57]⟩ : ByteArray).extract ((ji7) : Int).toNat ((wrap64 ((ji7) + 1)) : Int).toNat).size) = False := eq_false (Nat.not_lt.2 c11)
      have c11b3 : (9223372036854775807 < t325.size + ((wrap64 (ji7 + 1)).toNat - ji7.toNat)) = False := eq_false (Nat.not_lt.2 (by have h_ := c11; rw [ByteArray.size_extract, show (⟨#[48, 49, 50, 51, 52, 53, 54, 55, 56, 57]⟩ : ByteArray).size = 10 from rfl] at h_; omega))
      obtain rfl := Option.some.inj H
      go_enter Tryd.func43, Tryd.ntmps43
      try go_wp2
      have n0_ := Aside0.mk (below_drew1 HB.out)
      clear HB
      have HB := n0_
      clear n0_
      refine start_ (n := 11) (S := fun w' => True) (ds := []) #[false, false, false, false, false, false, false, false, false, false, false] (by kernel_rfl) rfl rfl trivial (fun hHeld => ?_); refine with_tabW spileref16_Decimal.tab3 spileref16_Decimal.bits3 (fun HT_ HW_ => ?_)
      generalize w.drew = w12 at HB hHeld ⊢
      refine pure_ (i := 0) (N := some 9) (v := ?_) (a' := ?_) #[true, false, false, false, false, false, false, false, false, false, false] rfl rfl (any_of HT_.out (by kernel_rfl)) (fun _ _ _ h => h) (Or.inl ⟨by rfl, ?_⟩) ?_ ?_
      rotate_left
      ·
       intro w'
       go_simp
       with_reducible rfl
      rotate_left
      ·
       simp only [Act.put, List.setIfInBounds_toArray, List.set_cons_zero, List.set_cons_succ, i64_w, i32_w]
       rfl
      refine pure_ (i := 1) (N := some 10) (v := ?_) (a' := ?_) #[true, true, false, false, false, false, false, false, false, false, false] rfl rfl (any_of HT_.out (by kernel_rfl)) (fun _ _ _ h => h) (Or.inl ⟨by rfl, ?_⟩) ?_ ?_
      rotate_left
      ·
       intro w'
       go_simp
       with_reducible rfl
      rotate_left
      ·
       simp only [Act.put, List.setIfInBounds_toArray, List.set_cons_zero, List.set_cons_succ, i64_w, i32_w]
       rfl
      refine pure_ (i := 3) (N := some 12) (v := ?_) (a' := ?_) #[true, true, false, true, false, false, false, false, false, false, false] rfl rfl (any_of HT_.out (by kernel_rfl)) (fun _ _ _ h => h) (Or.inl ⟨by rfl, ?_⟩) ?_ ?_
      rotate_left
      ·
       intro w'
       go_simp
       with_reducible rfl
      rotate_left
      ·
       simp only [Act.put, List.setIfInBounds_toArray, List.set_cons_zero, List.set_cons_succ, i64_w, i32_w]
       rfl
      refine pure_ (i := 4) (N := some 13) (v := ?_) (a' := ?_) #[true, true, false, true, true, false, false, false, false, false, false] rfl rfl (any_of HT_.out (by kernel_rfl)) (fun _ _ _ h => h) (Or.inl ⟨by rfl, ?_⟩) ?_ ?_
      rotate_left
      ·
       intro w'
       go_simp
       with_reducible rfl
      rotate_left
      ·
       simp only [Act.put, List.setIfInBounds_toArray, List.set_cons_zero, List.set_cons_succ, i64_w, i32_w]
       rfl
      refine pure_ (i := 5) (N := some 14) (v := ?_) (a' := ?_) #[true, true, false, true, true, true, false, false, false, false, false] rfl rfl (any_of HT_.out (by kernel_rfl)) (fun _ _ _ h => h) (Or.inl ⟨by rfl, ?_⟩) ?_ ?_
      rotate_left
      ·
       intro w'
       go_simp
       with_reducible rfl
      rotate_left
      ·
       simp only [Act.put, List.setIfInBounds_toArray, List.set_cons_zero, List.set_cons_succ, i64_w, i32_w]
       rfl
      refine pure_ (i := 6) (N := some 15) (v := ?_) (a' := ?_) #[true, true, false, true, true, true, true, false, false, false, false] rfl rfl (any_of HT_.out (by kernel_rfl)) (fun _ _ _ h => h) (Or.inl ⟨by rfl, ?_⟩) ?_ ?_
      rotate_left
      ·
       intro w'
       go_simp
       with_reducible rfl
      rotate_left
      ·
       simp only [Act.put, List.setIfInBounds_toArray, List.set_cons_zero, List.set_cons_succ, i64_w, i32_w]
       rfl
      refine pure_ (i := 7) (N := some 16) (v := ?_) (a' := ?_) #[true, true, false, true, true, true, true, true, false, false, false] rfl rfl (any_of HT_.out (by kernel_rfl)) (fun _ _ _ h => h) (Or.inl ⟨by rfl, ?_⟩) ?_ ?_
      rotate_left
      ·
       intro w'
       go_simp
       with_reducible rfl
      rotate_left
      ·
       simp only [Act.put, List.setIfInBounds_toArray, List.set_cons_zero, List.set_cons_succ, i64_w, i32_w]
       rfl
      refine pure_ (i := 8) (N := some 17) (v := ?_) (a' := ?_) #[true, true, false, true, true, true, true, true, true, false, false] rfl rfl (any_of HT_.out (by kernel_rfl)) (fun _ _ _ h => h) (Or.inl ⟨by rfl, ?_⟩) ?_ ?_
      rotate_left
      ·
       intro w'
       go_simp
       with_reducible rfl
      rotate_left
      ·
       simp only [Act.put, List.setIfInBounds_toArray, List.set_cons_zero, List.set_cons_succ, i64_w, i32_w]
       rfl
      refine one_ (i := 2) (N := some 11) #[true, true, true, true, true, true, true, true, true, false, false] rfl rfl (one_of HT_.out (by kernel_rfl)) (by decide) (fun K hK => ?_)
      refine goes_ Tryd.func43 (by kernel_rfl) rfl #[.int .i64 (wrap64 (Int.tdiv a0 10))] (by rfl) rfl rfl (by (try simp only [List.map_toArray, List.map_cons, List.map_nil]); first | done | rfl | (simp only [List.length_drop, List.length_take]; rfl)) ?_
      with_reducible refine (ih k (by omega) (wrap64 (Int.tdiv a0 10)) t325 _ A6.out).mono ?_
      rintro e w13 ⟨rfl, hb⟩
      refine ⟨_, rfl, ?_⟩
      have n0_ := Aside0.mk (below_step (by repeat (first | (with_reducible first | exact HB.out | apply below_alloc | apply pw_below_drewN | apply below_drew1) | exact HB.out)) hb)
      clear HB
      have HB := n0_
      clear n0_
      (try clear hb)
      (try clear hb2)
      (try clear hk)
      (try clear hi)
      refine hK.out _ _ trivial (fun hHeld => ?_)
      clear hK K
      refine norm_ (a' := ?_) ?_ ?_
      rotate_left
      ·
       show Act.put _ (some 11) _ = _
       simp only [Act.put, List.setIfInBounds_toArray, List.set_cons_zero, List.set_cons_succ, i64_w, i32_w]
       rfl
      refine pure_ (i := 9) (N := some 18) (v := ?_) (a' := ?_) #[true, true, true, true, true, true, true, true, true, true, false] rfl rfl (any_of HT_.out (by kernel_rfl)) (fun _ _ _ h => h) (Or.inl ⟨by rfl, ?_⟩) ?_ ?_
      rotate_left
      ·
       intro w'
       go_simp
       with_reducible rfl
      rotate_left
      ·
       simp only [Act.put, List.setIfInBounds_toArray, List.set_cons_zero, List.set_cons_succ, i64_w, i32_w]
       rfl
      refine pure_ (i := 10) (N := some 2) (v := ?_) (a' := ?_) #[true, true, true, true, true, true, true, true, true, true, true] rfl rfl (any_of HT_.out (by kernel_rfl)) (fun _ _ _ h => h) (Or.inl ⟨by rfl, ?_⟩) ?_ ?_
      rotate_left
      ·
       intro w'
       go_simp
       with_reducible rfl
      rotate_left
      ·
       simp only [Act.put, List.setIfInBounds_toArray, List.set_cons_zero, List.set_cons_succ, i64_w, i32_w]
       rfl
      refine done_ (done_of HT_.out (by kernel_rfl)) ?_
      try go_wp2
      go_ret
      exact ⟨by first | rfl | (simp [errW_none, errW_some] <;> rfl) | (simp only [← hji7]; first | rfl | (simp [errW_none, errW_some] <;> rfl)) | (simp [*, errW_none, errW_some] <;> rfl), by repeat (first | (with_reducible first | exact HB.out | apply below_alloc | apply pw_below_drewN | apply below_drew1) | exact HB.out)⟩
     ·
      rw [if_neg c11] at H
      exact absurd H (by simp)
    ·
     rw [if_neg c10] at H
     exact absurd H (by simp)
   ·
    rw [if_neg c9] at H
    exact absurd H (by simp)
  ·
   rw [if_neg c8] at H
   exact absurd H (by simp)
def spileref16_Print.l0 : Nat → List (S30) → ByteArray → Int → Option (ByteArray × Int)
 | 0, _, _, _ => none
 | k + 1, x0, x4, x5 => if x5 < (x0.length : Int) then (if x4.size + 9 ≤ 9223372036854775807 then (if 0 ≤ x5 then ((spileref16_Decimal.f k ((rd_T30 x0 x5).f0)).bind fun t328 => (if (x4 ++ (⟨#[115, 116, 114, 101, 110, 103, 116, 104, 32]⟩ : ByteArray)).size + t328.size ≤ 9223372036854775807 then (if ((x4 ++ (⟨#[115, 116, 114, 101, 110, 103, 116, 104, 32]⟩ : ByteArray)) ++ t328).size + 9 ≤ 9223372036854775807 then ((spileref16_Decimal.f k ((rd_T30 x0 x5).f1)).bind fun t330 => (if (((x4 ++ (⟨#[115, 116, 114, 101, 110, 103, 116, 104, 32]⟩ : ByteArray)) ++ t328) ++ (⟨#[32, 100, 101, 110, 115, 105, 116, 121, 32]⟩ : ByteArray)).size + t330.size ≤ 9223372036854775807 then (if ((((x4 ++ (⟨#[115, 116, 114, 101, 110, 103, 116, 104, 32]⟩ : ByteArray)) ++ t328) ++ (⟨#[32, 100, 101, 110, 115, 105, 116, 121, 32]⟩ : ByteArray)) ++ t330).size + 1 ≤ 9223372036854775807 then (spileref16_Print.l0 k x0 (((((x4 ++ (⟨#[115, 116, 114, 101, 110, 103, 116, 104, 32]⟩ : ByteArray)) ++ t328) ++ (⟨#[32, 100, 101, 110, 115, 105, 116, 121, 32]⟩ : ByteArray)) ++ t330) ++ (⟨#[10]⟩ : ByteArray)) (wrap64 (x5 + 1))) else (none)) else (none))) else (none)) else (none))) else (none)) else (none)) else (some (x4, 0))
def spileref16_Print.f (k : Nat) (l0 : List (S30)) : Option (ByteArray × Int) := (spileref16_Right.f k l0).bind fun t326 => (if t326 = true then (spileref16_Print.l0 k l0 (⟨#[]⟩ : ByteArray) 0) else (some ((⟨#[]⟩ : ByteArray), 1)))
def spileref16_Print.T7 : Bool × List (List Nat × List Nat) := (true, [([], []), ([0], [0]), ([], []), ([], []), ([2, 3], [2, 3]), ([4], [4]), ([5], [5]), ([6], [6]), ([1, 7], [1, 7]), ([8], [8]), ([], []), ([], []), ([10, 11], [10, 11]), ([12], [12]), ([13], [13]), ([14, 7], [14]), ([9, 15], [9, 15]), ([16], [16]), ([17, 15, 0, 1, 2, 3, 4, 5, 6, 7, 8, 9, 10, 11, 12, 13, 14, 15, 16, 17], [0, 17])])
def spileref16_Print.B7 : List Nat := [0, 1, 0, 0, 12, 28, 60, 124, 255, 511, 0, 0, 3072, 7168, 15360, 31996, 65535, 131071, 262143]
theorem spileref16_Print.tab7 : rtab .any (opsOf Tryd.f28 7) = spileref16_Print.T7 := by kernel_rfl
theorem spileref16_Print.bits7 : waitsOk spileref16_Print.T7.2 spileref16_Print.B7 = true := by kernel_rfl
set_option maxHeartbeats 8000000 in
set_option maxRecDepth 100000 in
theorem spileref16_Print.calls (k : Nat) (A0 : Option Addr) (c0 : Nat) (l0 : List (S30)) (r1 : ByteArray) (r2 : Int) (w : World) (hr0 : Kd.C k30 w A0 l0.length l0) (hc0 : l0.length ≤ c0) (h : spileref16_Print.f k l0 = some (r1, r2)) :
  Calls Tryd.prog 28 #[.slice A0 l0.length c0] w fun e w' => e = .returned (.tuple #[.string r1, .int .i64 r2]) ∧ Below w.heap.size w w' := by
 have HR0 := Aside0.mk hr0
 have HC0 := Aside0.mk hc0
 clear hr0 hc0
 have HB := Aside0.mk (Below.refl w.heap.size w)
 have H : ((spileref16_Right.f k l0).bind fun t326 => (if t326 = true then (spileref16_Print.l0 k l0 (⟨#[]⟩ : ByteArray) 0) else (some ((⟨#[]⟩ : ByteArray), 1)))) = some (r1, r2) := h
 clear h
 replace H := Option.bind_eq_some_iff.mp H
 obtain ⟨t326, A20, H⟩ := H
 replace H : (if t326 = true then (spileref16_Print.l0 k l0 (⟨#[]⟩ : ByteArray) 0) else (some ((⟨#[]⟩ : ByteArray), 1))) = some (r1, r2) := H
 have A2 := Aside0.mk A20
 clear A20
 by_cases c3 : t326 = true
 ·
  subst c3
  have H1 : (spileref16_Print.l0 k l0 (⟨#[]⟩ : ByteArray) 0) = some (r1, r2) := by rw [if_pos rfl] at H; exact H
  clear H
  have H := H1
  clear H1
  have H' := Aside0.mk H
  clear H
  go_enter Tryd.func28, Tryd.ntmps28
  go_wp2_with (first | ((with_reducible refine gate_callee (f := 36) rfl ?_); refine goesL_ (some 7) rfl rfl Tryd.func36 (by kernel_rfl) rfl #[.slice A0 l0.length c0] rfl (by (try simp only [List.map_toArray, List.map_cons, List.map_nil]); first | done | rfl | (simp only [List.length_drop, List.length_take]; rfl)) ?_; (with_reducible refine (spileref16_Right.calls k _ _ l0 true _ ?side1 ?side2 A2.out).mono ?_); (case side1 => repeat (first | exact HR0.out | (with_reducible refine Kd.C_alloc ?_ _) | (with_reducible refine Kd.C_drewN ?_ _) | (with_reducible refine Kd.C_drew ?_))); (case side2 => exact HC0.out); rintro e w' ⟨rfl, ⟨nd, rfl⟩⟩; refine ⟨_, rfl, ?_⟩))
  go_loopg [4, 5] k (fun kq v4 v5 w' => ∃ (x4_1 : ByteArray) (x5_1 : Int), v4 = .string x4_1 ∧ v5 = .int .i64 x5_1 ∧ Aside0 (spileref16_Print.l0 kq l0 x4_1 x5_1 = some (r1, r2)) ∧ Aside0 (kq ≤ k) ∧ Aside0 (Below w.heap.size w w'))
  case atStart => exact ⟨((⟨#[]⟩ : ByteArray)), (0), (by first | rfl | (simp; done) | (simp [*]; done)), (by first | rfl | (simp; done) | (simp [*]; done)), H', ⟨Nat.le_refl _⟩, ⟨by repeat (first | (with_reducible first | exact HB.out | apply below_alloc | apply pw_below_drewN | apply below_drew1) | exact HB.out)⟩⟩
  case round =>
   clear H'
   try clear c2
   try clear p2
   try clear c3
   obtain ⟨x4_1, x5_1, rfl, rfl, HA, HK1, HB⟩ := hrel
   cases gk with
   | zero => exact absurd HA.out (by simp [spileref16_Print.l0])
   | succ k1 =>
    have H := HA.out
    clear HA
    simp only [spileref16_Print.l0] at H
    by_cases c4 : x5_1 < (l0.length : Int)
    ·
     rw [if_pos c4] at H
     have c4b0 : decide (x5_1 < (l0.length : Int)) = true := decide_eq_true c4
     clear c4
     by_cases c5 : x4_1.size + 9 ≤ 9223372036854775807
     ·
      rw [if_pos c5] at H
      have c5b0 := eq_true c5
      have c5b1 : decide (x4_1.size + 9 ≤ 9223372036854775807) = true := decide_eq_true c5
      try have c5b2 : (9223372036854775807 < x4_1.size + 9) = False := eq_false (Nat.not_lt.2 c5)
      by_cases c6 : 0 ≤ x5_1
      ·
       rw [if_pos c6] at H
       have c6b0 : decide (0 ≤ x5_1) = true := decide_eq_true c6
       clear c6
       replace H := Option.bind_eq_some_iff.mp H
       obtain ⟨t328, A70, H⟩ := H
       replace H : (if (x4_1 ++ (⟨#[115, 116, 114, 101, 110, 103, 116, 104, 32]⟩ : ByteArray)).size + t328.size ≤ 9223372036854775807 then (if ((x4_1 ++ (⟨#[115, 116, 114, 101, 110, 103, 116, 104, 32]⟩ : ByteArray)) ++ t328).size + 9 ≤ 9223372036854775807 then ((spileref16_Decimal.f k1 ((rd_T30 l0 x5_1).f1)).bind fun t330 => (if (((x4_1 ++ (⟨#[115, 116, 114, 101, 110, 103, 116, 104, 32]⟩ : ByteArray)) ++ t328) ++ (⟨#[32, 100, 101, 110, 115, 105, 116, 121, 32]⟩ : ByteArray)).size + t330.size ≤ 9223372036854775807 then (if ((((x4_1 ++ (⟨#[115, 116, 114, 101, 110, 103, 116, 104, 32]⟩ : ByteArray)) ++ t328) ++ (⟨#[32, 100, 101, 110, 115, 105, 116, 121, 32]⟩ : ByteArray)) ++ t330).size + 1 ≤ 9223372036854775807 then (spileref16_Print.l0 k1 l0 (((((x4_1 ++ (⟨#[115, 116, 114, 101, 110, 103, 116, 104, 32]⟩ : ByteArray)) ++ t328) ++ (⟨#[32, 100, 101, 110, 115, 105, 116, 121, 32]⟩ : ByteArray)) ++ t330) ++ (⟨#[10]⟩ : ByteArray)) (wrap64 (x5_1 + 1))) else (none)) else (none))) else (none)) else (none)) = some (r1, r2) := H
       have A7 := Aside0.mk A70
       clear A70
       by_cases c8 : (x4_1 ++ (⟨#[115, 116, 114, 101, 110, 103, 116, 104, 32]⟩ : ByteArray)).size + t328.size ≤ 9223372036854775807
       ·
        rw [if_pos c8] at H
        have c8b0 := eq_true c8
        have c8b1 : decide ((x4_1 ++ (⟨#[115, 116, 114, 101, 110, 103, 116, 104, 32]⟩ : ByteArray)).size + t328.size ≤ 9223372036854775807) = true := decide_eq_true c8
        try have c8b2 : (9223372036854775807 < (x4_1 ++ (⟨#[115, 116, 114, 101, 110, 103, 116, 104, 32]⟩ : ByteArray)).size + t328.size) = False := eq_false (Nat.not_lt.2 c8)
        try have c8b3 : (9223372036854775807 < x4_1.size + 9 + t328.size) = False := eq_false (Nat.not_lt.2 (by have h_ := c8; simp only [ByteArray.size_append] at h_; exact h_))
        by_cases c9 : ((x4_1 ++ (⟨#[115, 116, 114, 101, 110, 103, 116, 104, 32]⟩ : ByteArray)) ++ t328).size + 9 ≤ 9223372036854775807
        ·
         rw [if_pos c9] at H
         have c9b0 := eq_true c9
         have c9b1 : decide (((x4_1 ++ (⟨#[115, 116, 114, 101, 110, 103, 116, 104, 32]⟩ : ByteArray)) ++ t328).size + 9 ≤ 9223372036854775807) = true := decide_eq_true c9
         try have c9b2 : (9223372036854775807 < ((x4_1 ++ (⟨#[115, 116, 114, 101, 110, 103, 116, 104, 32]⟩ : ByteArray)) ++ t328).size + 9) = False := eq_false (Nat.not_lt.2 c9)
         try have c9b3 : (9223372036854775807 < x4_1.size + 9 + t328.size + 9) = False := eq_false (Nat.not_lt.2 (by have h_ := c9; simp only [ByteArray.size_append] at h_; exact h_))
         replace H := Option.bind_eq_some_iff.mp H
         obtain ⟨t330, A100, H⟩ := H
         replace H : (if (((x4_1 ++ (⟨#[115, 116, 114, 101, 110, 103, 116, 104, 32]⟩ : ByteArray)) ++ t328) ++ (⟨#[32, 100, 101, 110, 115, 105, 116, 121, 32]⟩ : ByteArray)).size + t330.size ≤ 9223372036854775807 then (if ((((x4_1 ++ (⟨#[115, 116, 114, 101, 110, 103, 116, 104, 32]⟩ : ByteArray)) ++ t328) ++ (⟨#[32, 100, 101, 110, 115, 105, 116, 121, 32]⟩ : ByteArray)) ++ t330).size + 1 ≤ 9223372036854775807 then (spileref16_Print.l0 k1 l0 (((((x4_1 ++ (⟨#[115, 116, 114, 101, 110, 103, 116, 104, 32]⟩ : ByteArray)) ++ t328) ++ (⟨#[32, 100, 101, 110, 115, 105, 116, 121, 32]⟩ : ByteArray)) ++ t330) ++ (⟨#[10]⟩ : ByteArray)) (wrap64 (x5_1 + 1))) else (none)) else (none)) = some (r1, r2) := H
         have A10 := Aside0.mk A100
         clear A100
         by_cases c11 : (((x4_1 ++ (⟨#[115, 116, 114, 101, 110, 103, 116, 104, 32]⟩ : ByteArray)) ++ t328) ++ (⟨#[32, 100, 101, 110, 115, 105, 116, 121, 32]⟩ : ByteArray)).size + t330.size ≤ 9223372036854775807
         ·
          rw [if_pos c11] at H
          have c11b0 := eq_true c11
          have c11b1 : decide ((((x4_1 ++ (⟨#[115, 116, 114, 101, 110, 103, 116, 104, 32]⟩ : ByteArray)) ++ t328) ++ (⟨#[32, 100, 101, 110, 115, 105, 116, 121, 32]⟩ : ByteArray)).size + t330.size ≤ 9223372036854775807) = true := decide_eq_true c11
          try have c11b2 : (9223372036854775807 < (((x4_1 ++ (⟨#[115, 116, 114, 101, 110, 103, 116, 104, 32]⟩ : ByteArray)) ++ t328) ++ (⟨#[32, 100, 101, 110, 115, 105, 116, 121, 32]⟩ : ByteArray)).size + t330.size) = False := eq_false (Nat.not_lt.2 c11)
          try have c11b3 : (9223372036854775807 < x4_1.size + 9 + t328.size + 9 + t330.size) = False := eq_false (Nat.not_lt.2 (by have h_ := c11; simp only [ByteArray.size_append] at h_; exact h_))
          by_cases c12 : ((((x4_1 ++ (⟨#[115, 116, 114, 101, 110, 103, 116, 104, 32]⟩ : ByteArray)) ++ t328) ++ (⟨#[32, 100, 101, 110, 115, 105, 116, 121, 32]⟩ : ByteArray)) ++ t330).size + 1 ≤ 9223372036854775807
          ·
           rw [if_pos c12] at H
           have c12b0 := eq_true c12
           have c12b1 : decide (((((x4_1 ++ (⟨#[115, 116, 114, 101, 110, 103, 116, 104, 32]⟩ : ByteArray)) ++ t328) ++ (⟨#[32, 100, 101, 110, 115, 105, 116, 121, 32]⟩ : ByteArray)) ++ t330).size + 1 ≤ 9223372036854775807) = true := decide_eq_true c12
           try have c12b2 : (9223372036854775807 < ((((x4_1 ++ (⟨#[115, 116, 114, 101, 110, 103, 116, 104, 32]⟩ : ByteArray)) ++ t328) ++ (⟨#[32, 100, 101, 110, 115, 105, 116, 121, 32]⟩ : ByteArray)) ++ t330).size + 1) = False := eq_false (Nat.not_lt.2 c12)
           try have c12b3 : (9223372036854775807 < x4_1.size + 9 + t328.size + 9 + t330.size + 1) = False := eq_false (Nat.not_lt.2 (by have h_ := c12; simp only [ByteArray.size_append] at h_; exact h_))
           have H' := Aside0.mk H
           clear H
           try go_wp2
           have n0_ := Aside0.mk (below_drew1 HB.out)
           clear HB
           have HB := n0_
           clear n0_
           have p327 : 0 ≤ (x5_1 : Int) := of_decide_eq_true (by first | (with_reducible assumption) | assumption)
           have q327 : x5_1 < (l0.length : Int) := of_decide_eq_true (by first | (with_reducible assumption) | assumption)
           obtain ⟨ad327, e327, hx327_0, hx327_1⟩ := at_T30 HR0.out x5_1 p327 q327
           have hw327_1 := hx327_1
           have hw327_0 := hx327_0
           cases e327
           replace hx327_0 := (HB.out.cell (World.block_lt_of_cell? w _ hx327_0)).trans hx327_0
           replace hx327_1 := (HB.out.cell (World.block_lt_of_cell? w _ hx327_1)).trans hx327_1
           replace p327 := eq_true p327
           replace q327 := eq_true q327
           have p329 : 0 ≤ (x5_1 : Int) := of_decide_eq_true (by first | (with_reducible assumption) | assumption)
           have q329 : x5_1 < (l0.length : Int) := of_decide_eq_true (by first | (with_reducible assumption) | assumption)
           obtain ⟨ad329, e329, hx329_0, hx329_1⟩ := at_T30 HR0.out x5_1 p329 q329
           have hw329_1 := hx329_1
           have hw329_0 := hx329_0
           obtain rfl : ad327 = ad329 := (by injection e329)
           replace hx329_0 := (HB.out.cell (World.block_lt_of_cell? w _ hx329_0)).trans hx329_0
           replace hx329_1 := (HB.out.cell (World.block_lt_of_cell? w _ hx329_1)).trans hx329_1
           replace p329 := eq_true p329
           replace q329 := eq_true q329
           refine start_ (n := 19) (S := fun w' => w'.cell? (ad327.add ((x5_1).toNat * 2)) = some (.int .i64 ((rd_T30 l0 x5_1).f0)) ∧ w'.cell? ⟨(ad327.add ((x5_1).toNat * 2)).block, (ad327.add ((x5_1).toNat * 2)).off + 1, none⟩ = some (.int .i64 ((rd_T30 l0 x5_1).f1)) ∧ w'.cell? (ad327.add ((x5_1).toNat * 2)) = some (.int .i64 ((rd_T30 l0 x5_1).f0)) ∧ w'.cell? ⟨(ad327.add ((x5_1).toNat * 2)).block, (ad327.add ((x5_1).toNat * 2)).off + 1, none⟩ = some (.int .i64 ((rd_T30 l0 x5_1).f1))) (ds := []) #[false, false, false, false, false, false, false, false, false, false, false, false, false, false, false, false, false, false, false] (by kernel_rfl) rfl rfl ⟨((HB.out.cell (World.block_lt_of_cell? w _ hw327_0)).trans hw327_0), ((HB.out.cell (World.block_lt_of_cell? w _ hw327_1)).trans hw327_1), ((HB.out.cell (World.block_lt_of_cell? w _ hw329_0)).trans hw329_0), ((HB.out.cell (World.block_lt_of_cell? w _ hw329_1)).trans hw329_1)⟩ (fun hHeld => ?_); refine with_tabW spileref16_Print.tab7 spileref16_Print.bits7 (fun HT_ HW_ => ?_)
           generalize wr.drew = w13 at HB hx327_0 hx327_1 hx329_0 hx329_1 hHeld ⊢
           refine pure_ (i := 0) (N := some 15) (v := ?_) (a' := ?_) #[true, false, false, false, false, false, false, false, false, false, false, false, false, false, false, false, false, false, false] rfl rfl (any_of HT_.out (by kernel_rfl)) (fun _ _ _ h => h) (Or.inl ⟨by rfl, ?_⟩) ?_ ?_
           rotate_left
           ·
            intro w'
            go_simp
            with_reducible rfl
           rotate_left
           ·
            simp only [Act.put, List.setIfInBounds_toArray, List.set_cons_zero, List.set_cons_succ, i64_w, i32_w]
            rfl
           refine pure_ (i := 1) (N := some 16) (v := ?_) (a' := ?_) #[true, true, false, false, false, false, false, false, false, false, false, false, false, false, false, false, false, false, false] rfl rfl (any_of HT_.out (by kernel_rfl)) (fun _ _ _ h => h) (Or.inl ⟨by rfl, ?_⟩) ?_ ?_
           rotate_left
           ·
            intro w'
            go_simp
            with_reducible rfl
           rotate_left
           ·
            simp only [Act.put, List.setIfInBounds_toArray, List.set_cons_zero, List.set_cons_succ, i64_w, i32_w]
            rfl
           refine pure_ (i := 2) (N := some 17) (v := ?_) (a' := ?_) #[true, true, true, false, false, false, false, false, false, false, false, false, false, false, false, false, false, false, false] rfl rfl (any_of HT_.out (by kernel_rfl)) (fun _ _ _ h => h) (Or.inl ⟨by rfl, ?_⟩) ?_ ?_
           rotate_left
           ·
            intro w'
            go_simp
            with_reducible rfl
           rotate_left
           ·
            simp only [Act.put, List.setIfInBounds_toArray, List.set_cons_zero, List.set_cons_succ, i64_w, i32_w]
            rfl
           refine pure_ (i := 3) (N := some 18) (v := ?_) (a' := ?_) #[true, true, true, true, false, false, false, false, false, false, false, false, false, false, false, false, false, false, false] rfl rfl (any_of HT_.out (by kernel_rfl)) (fun _ _ _ h => h) (Or.inl ⟨by rfl, ?_⟩) ?_ ?_
           rotate_left
           ·
            intro w'
            go_simp
            with_reducible rfl
           rotate_left
           ·
            simp only [Act.put, List.setIfInBounds_toArray, List.set_cons_zero, List.set_cons_succ, i64_w, i32_w]
            rfl
           refine pure_ (i := 4) (N := some 19) (v := ?_) (a' := ?_) #[true, true, true, true, true, false, false, false, false, false, false, false, false, false, false, false, false, false, false] rfl rfl (any_of HT_.out (by kernel_rfl)) (fun _ _ _ h => h) (Or.inl ⟨by rfl, ?_⟩) ?_ ?_
           rotate_left
           ·
            intro w'
            go_simp
            with_reducible rfl
           rotate_left
           ·
            simp only [Act.put, List.setIfInBounds_toArray, List.set_cons_zero, List.set_cons_succ, i64_w, i32_w]
            rfl
           refine pure_ (i := 5) (N := some 20) (v := ?_) (a' := ?_) #[true, true, true, true, true, true, false, false, false, false, false, false, false, false, false, false, false, false, false] rfl rfl (any_of HT_.out (by kernel_rfl)) (fun _ _ _ h => h) (Or.inl ⟨by rfl, ?_⟩) ?_ ?_
           rotate_left
           ·
            intro w'
            go_simp
            with_reducible rfl
           rotate_left
           ·
            simp only [Act.put, List.setIfInBounds_toArray, List.set_cons_zero, List.set_cons_succ, i64_w, i32_w]
            rfl
           refine pure_ (i := 10) (N := some 25) (v := ?_) (a' := ?_) #[true, true, true, true, true, true, false, false, false, false, true, false, false, false, false, false, false, false, false] rfl rfl (any_of HT_.out (by kernel_rfl)) (fun _ _ _ h => h) (Or.inl ⟨by rfl, ?_⟩) ?_ ?_
           rotate_left
           ·
            intro w'
            go_simp
            with_reducible rfl
           rotate_left
           ·
            simp only [Act.put, List.setIfInBounds_toArray, List.set_cons_zero, List.set_cons_succ, i64_w, i32_w]
            rfl
           refine pure_ (i := 11) (N := some 26) (v := ?_) (a' := ?_) #[true, true, true, true, true, true, false, false, false, false, true, true, false, false, false, false, false, false, false] rfl rfl (any_of HT_.out (by kernel_rfl)) (fun _ _ _ h => h) (Or.inl ⟨by rfl, ?_⟩) ?_ ?_
           rotate_left
           ·
            intro w'
            go_simp
            with_reducible rfl
           rotate_left
           ·
            simp only [Act.put, List.setIfInBounds_toArray, List.set_cons_zero, List.set_cons_succ, i64_w, i32_w]
            rfl
           refine pure_ (i := 12) (N := some 27) (v := ?_) (a' := ?_) #[true, true, true, true, true, true, false, false, false, false, true, true, true, false, false, false, false, false, false] rfl rfl (any_of HT_.out (by kernel_rfl)) (fun _ _ _ h => h) (Or.inl ⟨by rfl, ?_⟩) ?_ ?_
           rotate_left
           ·
            intro w'
            go_simp
            with_reducible rfl
           rotate_left
           ·
            simp only [Act.put, List.setIfInBounds_toArray, List.set_cons_zero, List.set_cons_succ, i64_w, i32_w]
            rfl
           refine pure_ (i := 13) (N := some 28) (v := ?_) (a' := ?_) #[true, true, true, true, true, true, false, false, false, false, true, true, true, true, false, false, false, false, false] rfl rfl (any_of HT_.out (by kernel_rfl)) (fun _ _ _ h => h) (Or.inl ⟨by rfl, ?_⟩) ?_ ?_
           rotate_left
           ·
            intro w'
            go_simp
            with_reducible rfl
           rotate_left
           ·
            simp only [Act.put, List.setIfInBounds_toArray, List.set_cons_zero, List.set_cons_succ, i64_w, i32_w]
            rfl
           refine take_ (i := 6) (N := some 21) (v := ?_) (a' := ?_) #[true, true, true, true, true, true, true, false, false, false, true, true, true, true, false, false, false, false, false] rfl rfl (take_ofW HT_.out HW_.out (by kernel_rfl)) (fun _ _ _ h => h) (Or.inl ⟨by rfl, ?_⟩) hHeld ?_ ?_
           rotate_left
           ·
            rintro w' ⟨s0, s1, s2, s3⟩
            go_simp
            with_reducible rfl
           rotate_left
           ·
            simp only [Act.put, List.setIfInBounds_toArray, List.set_cons_zero, List.set_cons_succ, i64_w, i32_w]
            rfl
           refine take_ (i := 14) (N := some 29) (v := ?_) (a' := ?_) #[true, true, true, true, true, true, true, false, false, false, true, true, true, true, true, false, false, false, false] rfl rfl (take_ofW HT_.out HW_.out (by kernel_rfl)) (fun _ _ _ h => h) (Or.inl ⟨by rfl, ?_⟩) hHeld ?_ ?_
           rotate_left
           ·
            rintro w' ⟨s0, s1, s2, s3⟩
            go_simp
            with_reducible rfl
           rotate_left
           ·
            simp only [Act.put, List.setIfInBounds_toArray, List.set_cons_zero, List.set_cons_succ, i64_w, i32_w]
            rfl
           refine one_ (i := 7) (N := some 22) #[true, true, true, true, true, true, true, true, false, false, true, true, true, true, true, false, false, false, false] rfl rfl (one_of HT_.out (by kernel_rfl)) (by decide) (fun K hK => ?_)
           refine goes_ Tryd.func43 (by kernel_rfl) rfl #[.int .i64 ((rd_T30 l0 x5_1).f0)] (by rfl) rfl rfl (by (try simp only [List.map_toArray, List.map_cons, List.map_nil]); first | done | rfl | (simp only [List.length_drop, List.length_take]; rfl)) ?_
           with_reducible refine (spileref16_Decimal.calls k1 ((rd_T30 l0 x5_1).f0) t328 _ A7.out).mono ?_
           rintro e w14 ⟨rfl, hb⟩
           refine ⟨_, rfl, ?_⟩
           have n0_ := Aside0.mk (below_step (by repeat (first | (with_reducible first | exact HB.out | apply below_alloc | apply pw_below_drewN | apply below_drew1) | exact HB.out)) hb)
           clear HB
           have HB := n0_
           clear n0_
           (try clear hb)
           (try clear hb2)
           (try clear hk)
           (try clear hi)
           refine hK.out _ _ ⟨((HB.out.cell (World.block_lt_of_cell? w _ hw327_0)).trans hw327_0), ((HB.out.cell (World.block_lt_of_cell? w _ hw327_1)).trans hw327_1), ((HB.out.cell (World.block_lt_of_cell? w _ hw329_0)).trans hw329_0), ((HB.out.cell (World.block_lt_of_cell? w _ hw329_1)).trans hw329_1)⟩ (fun hHeld => ?_)
           clear hK K
           refine norm_ (a' := ?_) ?_ ?_
           rotate_left
           ·
            show Act.put _ (some 22) _ = _
            simp only [Act.put, List.setIfInBounds_toArray, List.set_cons_zero, List.set_cons_succ, i64_w, i32_w]
            rfl
           refine pure_ (i := 8) (N := some 23) (v := ?_) (a' := ?_) #[true, true, true, true, true, true, true, true, true, false, true, true, true, true, true, false, false, false, false] rfl rfl (any_of HT_.out (by kernel_rfl)) (fun _ _ _ h => h) (Or.inl ⟨by rfl, ?_⟩) ?_ ?_
           rotate_left
           ·
            intro w'
            go_simp
            with_reducible rfl
           rotate_left
           ·
            simp only [Act.put, List.setIfInBounds_toArray, List.set_cons_zero, List.set_cons_succ, i64_w, i32_w]
            rfl
           refine pure_ (i := 9) (N := some 24) (v := ?_) (a' := ?_) #[true, true, true, true, true, true, true, true, true, true, true, true, true, true, true, false, false, false, false] rfl rfl (any_of HT_.out (by kernel_rfl)) (fun _ _ _ h => h) (Or.inl ⟨by rfl, ?_⟩) ?_ ?_
           rotate_left
           ·
            intro w'
            go_simp
            with_reducible rfl
           rotate_left
           ·
            simp only [Act.put, List.setIfInBounds_toArray, List.set_cons_zero, List.set_cons_succ, i64_w, i32_w]
            rfl
           refine one_ (i := 15) (N := some 30) #[true, true, true, true, true, true, true, true, true, true, true, true, true, true, true, true, false, false, false] rfl rfl (one_of HT_.out (by kernel_rfl)) (by decide) (fun K hK => ?_)
           refine goes_ Tryd.func43 (by kernel_rfl) rfl #[.int .i64 ((rd_T30 l0 x5_1).f1)] (by rfl) rfl rfl (by (try simp only [List.map_toArray, List.map_cons, List.map_nil]); first | done | rfl | (simp only [List.length_drop, List.length_take]; rfl)) ?_
           with_reducible refine (spileref16_Decimal.calls k1 ((rd_T30 l0 x5_1).f1) t330 _ A10.out).mono ?_
           rintro e w15 ⟨rfl, hb⟩
           refine ⟨_, rfl, ?_⟩
           have n0_ := Aside0.mk (below_step (by repeat (first | (with_reducible first | exact HB.out | apply below_alloc | apply pw_below_drewN | apply below_drew1) | exact HB.out)) hb)
           clear HB
           have HB := n0_
           clear n0_
           (try clear hb)
           (try clear hb2)
           (try clear hk)
           (try clear hi)
           refine hK.out _ _ ⟨((HB.out.cell (World.block_lt_of_cell? w _ hw327_0)).trans hw327_0), ((HB.out.cell (World.block_lt_of_cell? w _ hw327_1)).trans hw327_1), ((HB.out.cell (World.block_lt_of_cell? w _ hw329_0)).trans hw329_0), ((HB.out.cell (World.block_lt_of_cell? w _ hw329_1)).trans hw329_1)⟩ (fun hHeld => ?_)
           clear hK K
           refine norm_ (a' := ?_) ?_ ?_
           rotate_left
           ·
            show Act.put _ (some 30) _ = _
            simp only [Act.put, List.setIfInBounds_toArray, List.set_cons_zero, List.set_cons_succ, i64_w, i32_w]
            rfl
           refine pure_ (i := 16) (N := some 31) (v := ?_) (a' := ?_) #[true, true, true, true, true, true, true, true, true, true, true, true, true, true, true, true, true, false, false] rfl rfl (any_of HT_.out (by kernel_rfl)) (fun _ _ _ h => h) (Or.inl ⟨by rfl, ?_⟩) ?_ ?_
           rotate_left
           ·
            intro w'
            go_simp
            with_reducible rfl
           rotate_left
           ·
            simp only [Act.put, List.setIfInBounds_toArray, List.set_cons_zero, List.set_cons_succ, i64_w, i32_w]
            rfl
           refine pure_ (i := 17) (N := some 32) (v := ?_) (a' := ?_) #[true, true, true, true, true, true, true, true, true, true, true, true, true, true, true, true, true, true, false] rfl rfl (any_of HT_.out (by kernel_rfl)) (fun _ _ _ h => h) (Or.inl ⟨by rfl, ?_⟩) ?_ ?_
           rotate_left
           ·
            intro w'
            go_simp
            with_reducible rfl
           rotate_left
           ·
            simp only [Act.put, List.setIfInBounds_toArray, List.set_cons_zero, List.set_cons_succ, i64_w, i32_w]
            rfl
           refine pure_ (i := 18) (N := some 4) (v := ?_) (a' := ?_) #[true, true, true, true, true, true, true, true, true, true, true, true, true, true, true, true, true, true, true] rfl rfl (any_of HT_.out (by kernel_rfl)) (fun _ _ _ h => h) (Or.inl ⟨by rfl, ?_⟩) ?_ ?_
           rotate_left
           ·
            intro w'
            go_simp
            with_reducible rfl
           rotate_left
           ·
            simp only [Act.put, List.setIfInBounds_toArray, List.set_cons_zero, List.set_cons_succ, i64_w, i32_w]
            rfl
           refine done_ (done_of HT_.out (by kernel_rfl)) ?_
           try go_wp2
           go_roundg k1
           case measure => have := HK1.out; omega
           case rel => exact ⟨(((((x4_1 ++ (⟨#[115, 116, 114, 101, 110, 103, 116, 104, 32]⟩ : ByteArray)) ++ t328) ++ (⟨#[32, 100, 101, 110, 115, 105, 116, 121, 32]⟩ : ByteArray)) ++ t330) ++ (⟨#[10]⟩ : ByteArray)), (wrap64 (x5_1 + 1)), (by first | rfl | (simp; done) | (simp [*]; done)), (by first | rfl | (simp; done) | (simp [*]; done)), H', ⟨by have := HK1.out; omega⟩, ⟨by repeat (first | (with_reducible first | exact HB.out | apply below_alloc | apply pw_below_drewN | apply below_drew1) | exact HB.out)⟩⟩
          ·
           rw [if_neg c12] at H
           exact absurd H (by simp)
         ·
          rw [if_neg c11] at H
          exact absurd H (by simp)
        ·
         rw [if_neg c9] at H
         exact absurd H (by simp)
       ·
        rw [if_neg c8] at H
        exact absurd H (by simp)
      ·
       rw [if_neg c6] at H
       exact absurd H (by simp)
     ·
      rw [if_neg c5] at H
      exact absurd H (by simp)
    ·
     rw [if_neg c4] at H
     have c4b0 : decide (x5_1 < (l0.length : Int)) = false := decide_eq_false c4
     clear c4
     simp only [Option.some.injEq, Prod.mk.injEq] at H
     obtain ⟨rfl, rfl⟩ := H
     go_wp2
     go_ret2
     exact ⟨by first | rfl | (simp [errW_none, errW_some] <;> rfl) | (simp [*, errW_none, errW_some] <;> rfl), by repeat (first | (with_reducible first | exact HB.out | apply below_alloc | apply pw_below_drewN | apply below_drew1) | exact HB.out)⟩
 ·
  replace c3 := Bool.eq_false_iff.mpr c3
  subst c3
  have H1 : (some ((⟨#[]⟩ : ByteArray), 1)) = some (r1, r2) := by rw [if_neg (show ¬ (false = true) by decide)] at H; exact H
  clear H
  have H := H1
  clear H1
  simp only [Option.some.injEq, Prod.mk.injEq] at H
  obtain ⟨rfl, rfl⟩ := H
  go_enter Tryd.func28, Tryd.ntmps28
  go_wp2_with (first | ((with_reducible refine gate_callee (f := 36) rfl ?_); refine goesL_ (some 7) rfl rfl Tryd.func36 (by kernel_rfl) rfl #[.slice A0 l0.length c0] rfl (by (try simp only [List.map_toArray, List.map_cons, List.map_nil]); first | done | rfl | (simp only [List.length_drop, List.length_take]; rfl)) ?_; (with_reducible refine (spileref16_Right.calls k _ _ l0 false _ ?side1 ?side2 A2.out).mono ?_); (case side1 => repeat (first | exact HR0.out | (with_reducible refine Kd.C_alloc ?_ _) | (with_reducible refine Kd.C_drewN ?_ _) | (with_reducible refine Kd.C_drew ?_))); (case side2 => exact HC0.out); rintro e w' ⟨rfl, ⟨nd, rfl⟩⟩; refine ⟨_, rfl, ?_⟩))
  go_ret2
  exact ⟨by first | rfl | (simp [errW_none, errW_some] <;> rfl) | (simp [*, errW_none, errW_some] <;> rfl), by repeat (first | (with_reducible first | exact HB.out | apply below_alloc | apply pw_below_drewN | apply below_drew1) | exact HB.out)⟩
def density_number.f (a0 : ByteArray) : Option (Int × Bool) := (strconv_Atoi.f a0).bind fun bt331 => (if bt331.2.isNone = true then (if bt331.1 ≥ 0 then (if bt331.1 ≤ 999999 then ((strconv_Itoa.f bt331.1).bind fun t334 => (some (bt331.1, (t334.toList == a0.toList)))) else (some (bt331.1, false))) else (some (bt331.1, false))) else (some (bt331.1, false)))
set_option maxHeartbeats 8000000 in
set_option maxRecDepth 100000 in
theorem density_number.calls (a0 : ByteArray) (r1 : Int) (r2 : Bool) (w : World) (hG : GI w) (h : density_number.f a0 = some (r1, r2)) :
  Calls Tryd.prog 46 #[.string a0] w fun e w' => e = .returned (.tuple #[.int .i64 r1, .bool r2]) ∧ Below w.heap.size w w' := by
 have hu58 := Tryd.underlying58
 have HG := Aside0.mk hG
 clear hG
 have HB := Aside0.mk (Below.refl w.heap.size w)
 have H : ((strconv_Atoi.f a0).bind fun bt331 => (if bt331.2.isNone = true then (if bt331.1 ≥ 0 then (if bt331.1 ≤ 999999 then ((strconv_Itoa.f bt331.1).bind fun t334 => (some (bt331.1, (t334.toList == a0.toList)))) else (some (bt331.1, false))) else (some (bt331.1, false))) else (some (bt331.1, false)))) = some (r1, r2) := h
 clear h
 replace H := Option.bind_eq_some_iff.mp H
 obtain ⟨⟨t331, t332⟩, A20, H⟩ := H
 replace H : (if t332.isNone = true then (if t331 ≥ 0 then (if t331 ≤ 999999 then ((strconv_Itoa.f t331).bind fun t334 => (some (t331, (t334.toList == a0.toList)))) else (some (t331, false))) else (some (t331, false))) else (some (t331, false))) = some (r1, r2) := H
 have A2 := Aside0.mk A20
 clear A20
 rcases t332 with _ | q333
 ·
  have H1 : (if t331 ≥ 0 then (if t331 ≤ 999999 then ((strconv_Itoa.f t331).bind fun t334 => (some (t331, (t334.toList == a0.toList)))) else (some (t331, false))) else (some (t331, false))) = some (r1, r2) := by rw [if_pos (show (none : Option Int).isNone = true by rfl)] at H; exact H
  clear H
  have H := H1
  clear H1
  try simp only [errW_none, errW_some]
  by_cases c3 : t331 ≥ 0
  ·
   rw [if_pos c3] at H
   have c3b0 : decide (0 ≤ t331) = true := decide_eq_true c3
   clear c3
   by_cases c4 : t331 ≤ 999999
   ·
    rw [if_pos c4] at H
    have c4b0 : decide (t331 ≤ 999999) = true := decide_eq_true c4
    clear c4
    replace H := Option.bind_eq_some_iff.mp H
    obtain ⟨t334, A50, H⟩ := H
    replace H : (some (t331, (t334.toList == a0.toList))) = some (r1, r2) := H
    have A5 := Aside0.mk A50
    clear A50
    simp only [Option.some.injEq, Prod.mk.injEq] at H
    obtain ⟨rfl, rfl⟩ := H
    go_enter Tryd.func46, Tryd.ntmps46
    go_wp2_with (first | ((with_reducible refine gate_callee (f := 57) rfl ?_); refine goesL_ (some 8) rfl rfl Tryd.func57 (by kernel_rfl) rfl #[.string a0] rfl (by (try simp only [List.map_toArray, List.map_cons, List.map_nil]); first | done | rfl | (simp only [List.length_drop, List.length_take]; rfl)) ?_; (with_reducible refine (strconv_Atoi.oks a0 t331 _ ?side1 A2.out).mono ?_); (case side1 => exact GI.below HG.out (by repeat (first | (with_reducible first | exact HB.out | apply below_alloc | apply pw_below_drewN | apply below_drew1) | exact HB.out))); rintro e w6 ⟨rfl, hb⟩; refine ⟨_, rfl, ?_⟩; have n0_ := Aside0.mk (below_step (by repeat (first | (with_reducible first | exact HB.out | apply below_alloc | apply pw_below_drewN | apply below_drew1) | exact HB.out)) hb); clear HB; have HB := n0_; clear n0_; (try clear hb); (try clear hb2); (try clear hk); (try clear hi); (try simp only [errW_none, errW_some])) | (go_at_call 41; (with_reducible refine (strconv_Itoa.calls t331 t334 _ ?side1 A5.out).mono ?_); (case side1 => exact GI.below HG.out (by repeat (first | (with_reducible first | exact HB.out | apply below_alloc | apply pw_below_drewN | apply below_drew1) | exact HB.out))); rintro e w7 ⟨rfl, hb⟩; have n0_ := Aside0.mk (below_step (by repeat (first | (with_reducible first | exact HB.out | apply below_alloc | apply pw_below_drewN | apply below_drew1) | exact HB.out)) hb); clear HB; have HB := n0_; clear n0_; (try clear hb); (try clear hb2); (try clear hk); (try clear hi)))
    go_ret2
    exact ⟨by first | rfl | (simp [errW_none, errW_some] <;> rfl) | (simp [*, errW_none, errW_some] <;> rfl), by repeat (first | (with_reducible first | exact HB.out | apply below_alloc | apply pw_below_drewN | apply below_drew1) | exact HB.out)⟩
   ·
    rw [if_neg c4] at H
    have c4b0 : decide (t331 ≤ 999999) = false := decide_eq_false c4
    clear c4
    simp only [Option.some.injEq, Prod.mk.injEq] at H
    obtain ⟨rfl, rfl⟩ := H
    go_enter Tryd.func46, Tryd.ntmps46
    go_wp2_with (first | ((with_reducible refine gate_callee (f := 57) rfl ?_); refine goesL_ (some 8) rfl rfl Tryd.func57 (by kernel_rfl) rfl #[.string a0] rfl (by (try simp only [List.map_toArray, List.map_cons, List.map_nil]); first | done | rfl | (simp only [List.length_drop, List.length_take]; rfl)) ?_; (with_reducible refine (strconv_Atoi.oks a0 t331 _ ?side1 A2.out).mono ?_); (case side1 => exact GI.below HG.out (by repeat (first | (with_reducible first | exact HB.out | apply below_alloc | apply pw_below_drewN | apply below_drew1) | exact HB.out))); rintro e w8 ⟨rfl, hb⟩; refine ⟨_, rfl, ?_⟩; have n0_ := Aside0.mk (below_step (by repeat (first | (with_reducible first | exact HB.out | apply below_alloc | apply pw_below_drewN | apply below_drew1) | exact HB.out)) hb); clear HB; have HB := n0_; clear n0_; (try clear hb); (try clear hb2); (try clear hk); (try clear hi); (try simp only [errW_none, errW_some])))
    go_ret2
    exact ⟨by first | rfl | (simp [errW_none, errW_some] <;> rfl) | (simp [*, errW_none, errW_some] <;> rfl), by repeat (first | (with_reducible first | exact HB.out | apply below_alloc | apply pw_below_drewN | apply below_drew1) | exact HB.out)⟩
  ·
   rw [if_neg c3] at H
   have c3b0 : decide (0 ≤ t331) = false := decide_eq_false c3
   clear c3
   simp only [Option.some.injEq, Prod.mk.injEq] at H
   obtain ⟨rfl, rfl⟩ := H
   go_enter Tryd.func46, Tryd.ntmps46
   go_wp2_with (first | ((with_reducible refine gate_callee (f := 57) rfl ?_); refine goesL_ (some 8) rfl rfl Tryd.func57 (by kernel_rfl) rfl #[.string a0] rfl (by (try simp only [List.map_toArray, List.map_cons, List.map_nil]); first | done | rfl | (simp only [List.length_drop, List.length_take]; rfl)) ?_; (with_reducible refine (strconv_Atoi.oks a0 t331 _ ?side1 A2.out).mono ?_); (case side1 => exact GI.below HG.out (by repeat (first | (with_reducible first | exact HB.out | apply below_alloc | apply pw_below_drewN | apply below_drew1) | exact HB.out))); rintro e w9 ⟨rfl, hb⟩; refine ⟨_, rfl, ?_⟩; have n0_ := Aside0.mk (below_step (by repeat (first | (with_reducible first | exact HB.out | apply below_alloc | apply pw_below_drewN | apply below_drew1) | exact HB.out)) hb); clear HB; have HB := n0_; clear n0_; (try clear hb); (try clear hb2); (try clear hk); (try clear hi); (try simp only [errW_none, errW_some])))
   go_ret2
   exact ⟨by first | rfl | (simp [errW_none, errW_some] <;> rfl) | (simp [*, errW_none, errW_some] <;> rfl), by repeat (first | (with_reducible first | exact HB.out | apply below_alloc | apply pw_below_drewN | apply below_drew1) | exact HB.out)⟩
 ·
  have H1 : (some (t331, false)) = some (r1, r2) := by rw [if_neg (show ¬ (some q333).isNone = true by simp)] at H; exact H
  clear H
  have H := H1
  clear H1
  try simp only [errW_none, errW_some]
  simp only [Option.some.injEq, Prod.mk.injEq] at H
  obtain ⟨rfl, rfl⟩ := H
  go_enter Tryd.func46, Tryd.ntmps46
  go_wp2_with (first | ((with_reducible refine gate_callee (f := 57) rfl ?_); refine goesL_ (some 8) rfl rfl Tryd.func57 (by kernel_rfl) rfl #[.string a0] rfl (by (try simp only [List.map_toArray, List.map_cons, List.map_nil]); first | done | rfl | (simp only [List.length_drop, List.length_take]; rfl)) ?_; (with_reducible refine (strconv_Atoi.fails a0 t331 q333 _ ?side1 A2.out).mono ?_); (case side1 => exact GI.below HG.out (by repeat (first | (with_reducible first | exact HB.out | apply below_alloc | apply pw_below_drewN | apply below_drew1) | exact HB.out))); rintro e w10 ⟨bE, rfl, hb⟩; refine ⟨_, rfl, ?_⟩; have n0_ := Aside0.mk (below_step (by repeat (first | (with_reducible first | exact HB.out | apply below_alloc | apply pw_below_drewN | apply below_drew1) | exact HB.out)) hb); clear HB; have HB := n0_; clear n0_; (try clear hb); (try clear hb2); (try clear hk); (try clear hi); (try simp only [errW_none, errW_some])))
  go_ret2
  exact ⟨by first | rfl | (simp [errW_none, errW_some] <;> rfl) | (simp [*, errW_none, errW_some] <;> rfl), by repeat (first | (with_reducible first | exact HB.out | apply below_alloc | apply pw_below_drewN | apply below_drew1) | exact HB.out)⟩
end Go.Proofs.YtoofoicocfnfoaaDoor.Pr
namespace Go.Proofs.YtoofoicocfnfoaaDoor.X
open Go Go.RowKit Go.Lib Go.Proofs Go.Shelf
section
variable {F : Fence} {n : Nat} {P : Program}
/-- What abides the turn of block b, and new blocks. -/
def AbBox {β : Type} (b : Nat) (J : β → World → Prop) : Prop := ∀ s W W', J s W → W.grownBy W' (some b) → J s W'
/-- What abides the turn of block b, and of whatever is no cells and lies at or beyond B. -/
def AbFrom {β : Type} (B b : Nat) (I : β → World → Prop) : Prop :=
  ∀ s W W' row, I s W → W.grownBy W' row → (∀ r, row = some r → r = b ∨ (B ≤ r ∧ ∃ o : Obj, W.heap[r]? = some o ∧ o.isCells = false)) → I s W'
/-- An iterator's contract: it hands out L, in its order; a round that goes on leaves its box as it was. -/
def SeqBox {α : Type} (F : Fence) (n : Nat) (P : Program) (g : Nat) (lb : Array Value) (encs : α → Array Value) (b : Nat) (G : World → Prop) (L : List α) (w : World) : Prop :=
  ∀ (l : Nat) (J Jx : List α → World → Prop) (W : World), Below w.heap.size w W → (∀ pre W1, J pre W1 → G W1) → AbBox b J → AbBox b Jx →
    (∀ pre x W1, J pre W1 → pre ++ [x] <+: L → YieldAt F (n - 1) P l (encs x) W1 fun e W' =>
      (e = .returned (.bool true) ∧ J (pre ++ [x]) W' ∧ W'.heap[b]? = W1.heap[b]?) ∨ (e = .returned (.bool false) ∧ Jx (pre ++ [x]) W')) →
    J [] W →
    CallsIn F n P g (#[.func (.yield l) #[] #[]] ++ lb) W fun e W' => (∃ v, e = .returned v) ∧ (J L W' ∨ (∃ pre, pre <+: L ∧ Jx pre W'))
/-- A loop's record in its three states. -/
def recAt (fn : FuncId) (tmps : Array Value) (ps : Array Tmp) (assign body : Code) (D : Nat) (st : LoopState) (pe : Option Code) : Loop := { state := st, pending := pe, fn, tmps, params := ps, assign, body, defers := D }
/-- How a round may be left. -/
def boxPost {α : Type} (B b : Nat) (I : List α → World → Prop) (Ix : List α → World → Prop) (xs : List α) (W : World) : Exit → Act → World → Prop
  | .normal, _, W' => KeepsFrom B W W' ∧ W'.heap[b]? = W.heap[b]? ∧ I xs W'
  | .ret, _, W' => KeepsFrom B W W' ∧ Ix xs W'
  | _, _, _ => False
/-- The statement, where a round goes on or returns from the function. -/
theorem wpIn_rangeFunc_box {α : Type} {g : Operand} {ps : Array Tmp} {assign body : Code} {Q : Exit → Act → World → Prop} {a : Act} {w : World}
    (hro : F.round = none) (h1 : 1 ≤ n) {gf : Nat} {lb : Array Value} (hg : a.eval g = .func (.func gf) #[] lb) (hFg : F.fn gf) (eg : ∀ args w, (callFunc gf args).run P w = .ok (.enter gf args) w)
    {encs : α → Array Value} {b : Nat} {G : World → Prop} {L : List α} {w0 : World} (hseq : SeqBox F (n - 1) P gf lb encs b G L w0) (hbw : b < w.heap.size)
    (hb0 : Below w0.heap.size w0 w) (hps : ∀ x, (encs x).size = ps.size)
    (I Ix : List α → World → Prop) (hIG : ∀ pre W, I pre W → G W) (hI : AbFrom w.heap.size b I) (hIx : AbFrom w.heap.size b Ix) (h0 : I [] w) (a₁ : α → Act)
    (hassign : ∀ (l : Nat) (x : α) (W : World) (K : Act → World → Prop), K (a₁ x) W →
      assign.wpIn (F.inRound l) (n - 1 - 1) P (Exit.then K (fun _ _ _ => False)) { tmps := (ps.zip (encs x)).foldl (fun t (p, v) => t.setIfInBounds p v) a.tmps, defers := [] } W)
    (hbody : ∀ (l : Nat) (pre : List α) (x : α) (W : World), I pre W → pre ++ [x] <+: L → body.wpIn (F.inRound l) (n - 1 - 1) P (boxPost w.heap.size b I Ix (pre ++ [x]) W) (a₁ x) W)
    (hdone : ∀ (W : World), I L W → W.heap[w.heap.size]? = some (.deferred (some [])) → Q .normal { a with defers := { target := .collected w.heap.size, args := #[] } :: a.defers } W)
    (hstop : ∀ (pre : List α) (W : World), pre <+: L → Ix pre W → W.heap[w.heap.size]? = some (.deferred (some [])) → Code.ret.wpIn F n P Q { a with defers := { target := .collected w.heap.size, args := #[] } :: a.defers } W) :
    (Code.rangeFunc g ps assign body).wpIn F n P Q a w := by
  refine wpIn_rangeFunc fun fn hfn => ?_
  rw [hro]
  let D := w.heap.size
  let rc := recAt fn a.tmps ps assign body D
  let W1 := (w.alloc (.deferred (some []))).alloc (.loop (rc .ready none))
  have s1 : (w.alloc (.deferred (some []))).heap.size = D + 1 := World.size_alloc ..
  have dW1 : W1.heap[D]? = some (.deferred (some [])) := (Below.heap_alloc _ _ _ (by rw [s1]; omega)).trans (World.alloc_heap_new w _)
  have lW1 : W1.heap[D + 1]? = some (.loop (rc .ready none)) := by have := World.alloc_heap_new (w.alloc (.deferred (some []))) (.loop (rc .ready none)); rwa [s1] at this
  have gW1 : w.grownBy W1 none := ⟨rfl, rfl, rfl, by show w.heap.size ≤ W1.heap.size; have := (Array.getElem?_eq_some_iff.1 lW1).1; omega, fun k hk _ => ((Below.heap_alloc _ _ _ (by rw [s1]; omega)).trans (Below.heap_alloc _ _ _ hk))⟩
  have bk : ∀ (st : LoopState) (pe : Option Code) {A B : World}, A.heap[D + 1]? = some (.loop (rc st pe)) → A.heap[D]? = some (.deferred (some [])) → A.grownBy B (some b) → B.heap[D + 1]? = some (.loop (rc st pe)) ∧ B.heap[D]? = some (.deferred (some [])) :=
    fun st pe A B h2 h3 hg2 => ⟨(hg2.block _ (Array.getElem?_eq_some_iff.1 h2).1 (fun e => by have := Option.some.inj e; omega)).trans h2, (hg2.block _ (Array.getElem?_eq_some_iff.1 h3).1 (fun e => by have := Option.some.inj e; omega)).trans h3⟩
  have turn : ∀ {J : List α → World → Prop}, AbFrom D b J → ∀ {s A} (o o' : Obj), A.heap[D + 1]? = some o → o.isCells = false → J s A → J s (A.putObj (D + 1) o') := fun hJ s A o o' h2 h3 hj =>
    hJ s A _ (some (D + 1)) hj (grownBy_putObj' A (D + 1) o') (fun r e => .inr ⟨by have := Option.some.inj e; omega, o, by have := Option.some.inj e; subst this; exact h2, h3⟩)
  have one : ∀ {J : List α → World → Prop}, AbFrom D b J → AbBox b J := fun hJ s A B hj hg2 => hJ s A B (some b) hj hg2 (fun r e => .inl (Option.some.inj e).symm)
  refine ⟨D + 1, [{ target := .collected D, args := #[] }], W1, { target := .fn (.func gf) lb, args := #[.func (.yield (D + 1)) #[] #[]] }, W1, gf, #[.func (.yield (D + 1)) #[] #[]] ++ lb, W1,
    run_enterLoop_outer _ _ _ _ _, ?_, ?_, ?_, fun _ => h1, ?_⟩
  · simp only [resolve, hg]
    simp [go_sem]
  · intro f' hf'
    simp [Target.leads] at hf'
    exact hf' ▸ hFg
  · simp [invoke, go_sem, eg]
  refine (hseq (D + 1) (fun pre W => I pre W ∧ W.heap[D + 1]? = some (.loop (rc .ready none)) ∧ W.heap[D]? = some (.deferred (some [])))
    (fun pre W => Ix pre W ∧ W.heap[D + 1]? = some (.loop (rc .done (some .ret))) ∧ W.heap[D]? = some (.deferred (some []))) W1 ?_ (fun pre W h => hIG pre W h.1) ?_ ?_ ?_ ⟨hI [] w W1 none h0 gW1 (fun r e => by cases e), lW1, dW1⟩).mono ?_
  · exact hb0.trans ⟨gW1.os, gW1.tape, gW1.output, gW1.size, fun k hk => gW1.block k (Nat.lt_of_lt_of_le hk hb0.size) (by simp)⟩
  · exact fun s A B hs hg2 => ⟨one hI s A B hs.1 hg2, bk _ _ hs.2.1 hs.2.2 hg2⟩
  · exact fun s A B hs hg2 => ⟨one hIx s A B hs.1 hg2, bk _ _ hs.2.1 hs.2.2 hg2⟩
  · rintro pre x W ⟨hi, hl, hd⟩ hlen
    have hlt := (Array.getElem?_eq_some_iff.1 hl).1
    refine ⟨fn, _, assign, body, run_yield (P := P) (args := encs x) hl (hps x), roundIn_of_wpIn hfn (hassign _ x W _ ⟨_, run_beginRound hl rfl, ?_⟩)⟩
    have hl2 : (W.putObj (D + 1) (.loop (rc .busy none))).heap[D + 1]? = some (.loop (rc .busy none)) := World.putObj_heap_same hlt
    have hd2 : (W.putObj (D + 1) (.loop (rc .busy none))).heap[D]? = some (.deferred (some [])) := (World.putObj_heap_other (by omega)).trans hd
    have hb2 : (W.putObj (D + 1) (.loop (rc .busy none))).heap[b]? = W.heap[b]? := World.putObj_heap_other (by omega)
    refine wpIn_mono (hbody _ pre x _ (turn hI _ _ hl rfl hi) hlen) ?_
    rintro e a3 W3 hp
    cases e with
    | normal =>
      obtain ⟨hk, hbx, hi3⟩ := hp
      have hl3 := hk.same _ _ (by omega) hl2 rfl
      have hd3 := hk.same _ _ (Nat.le_refl _) hd2 rfl
      exact ⟨_, _, run_endRound none hl3, .inl ⟨rfl, ⟨turn hI _ _ hl3 rfl hi3, World.putObj_heap_same (Array.getElem?_eq_some_iff.1 hl3).1, (World.putObj_heap_other (by omega)).trans hd3⟩, ((World.putObj_heap_other (by omega)).trans hbx).trans hb2⟩⟩
    | ret =>
      obtain ⟨hk, hi3⟩ := hp
      have hl3 := hk.same _ _ (by omega) hl2 rfl
      have hd3 := hk.same _ _ (Nat.le_refl _) hd2 rfl
      exact ⟨_, _, run_endRound (some .ret) hl3, .inr ⟨rfl, turn hIx _ _ hl3 rfl hi3, World.putObj_heap_same (Array.getElem?_eq_some_iff.1 hl3).1, (World.putObj_heap_other (by omega)).trans hd3⟩⟩
    | exit id => exact hp.elim
    | goto t => exact hp.elim
    | panic ch => exact hp.elim
    | outgrown => exact hp.elim
  · rintro e W2 ⟨⟨v, rfl⟩, (⟨hi, hl, hd⟩ | ⟨pre, hSp, hi, hl, hd⟩)⟩
    · exact ⟨none, _, run_endLoop hl (by simp [rc, recAt]), hdone _ (turn hI _ _ hl rfl hi) ((World.putObj_heap_other (by omega)).trans hd)⟩
    · exact ⟨some .ret, _, run_endLoop hl (by simp [rc, recAt]), hstop pre _ hSp (turn hIx _ _ hl rfl hi) ((World.putObj_heap_other (by omega)).trans hd)⟩
end
end Go.Proofs.YtoofoicocfnfoaaDoor.X
namespace Go.Proofs.YtoofoicocfnfoaaDoor.X
open Go Go.RowKit Go.Lib Go.Proofs Go.Shelf Go.Proofs.YtoofoicocfnfoaaDoor.TX Go.Proofs.YtoofoicocfnfoaaDoorW.PrintWords Go.Proofs.YtoofoicocfnfoaaDoorW.PrintLast Go.Proofs.YtoofoicocfnfoaaDoorW.PrintMore
attribute [local go_sem] Oper.semAt_some
/-- The lines of a text, and whether each has its line feed. -/
def lns (s : ByteArray) : List (ByteArray × Bool) := if h : s.size = 0 then [] else (⟨(cut1 10 s.data.toList).1.toArray⟩, (cut1 10 s.data.toList).2.2) :: lns ⟨(cut1 10 s.data.toList).2.1.toArray⟩
termination_by s.size
decreasing_by
  have h1 : s.data.toList.length = s.size := Array.length_toList
  show ((cut1 10 s.data.toList).2.1.toArray).size < s.size
  rw [List.size_toArray, ← h1]
  cases hb : (cut1 10 s.data.toList).2.2 with
  | true => exact cut1_len 10 _ hb
  | false => rw [(cut1_no 10 _ hb).2]; show 0 < _; omega
theorem lns_nil {s : ByteArray} (h : s.size = 0) : lns s = [] := by rw [lns, dif_pos h]
theorem lns_cons {s : ByteArray} (h : ¬ s.size = 0) : lns s = (⟨(cut1 10 s.data.toList).1.toArray⟩, (cut1 10 s.data.toList).2.2) :: lns ⟨(cut1 10 s.data.toList).2.1.toArray⟩ := by rw [lns, dif_neg h]
theorem rest_lt {s : ByteArray} (h : ¬ s.size = 0) : (⟨(cut1 10 s.data.toList).2.1.toArray⟩ : ByteArray).size < s.size := by
  have h1 : s.data.toList.length = s.size := Array.length_toList
  show ((cut1 10 s.data.toList).2.1.toArray).size < s.size
  rw [List.size_toArray, ← h1]
  cases hb : (cut1 10 s.data.toList).2.2 with
  | true => exact cut1_len 10 _ hb
  | false => rw [(cut1_no 10 _ hb).2]; show 0 < _; omega
def lencs (x : ByteArray × Bool) : Array Value := #[.string x.1, .bool x.2]
/-- What is left, read off the world. -/
def leftB (b : Nat) (W : World) : Nat := match W.cell? ⟨b, 0, none⟩ with
  | some (.string s) => s.size
  | _ => 0
set_option maxRecDepth 100000 in
set_option maxHeartbeats 2000000 in
theorem lines1_in (l b : Nat) (L : List (ByteArray × Bool)) (J Jx : List (ByteArray × Bool) → World → Prop) (text : ByteArray) (hs : text.size < 4294967281) (hL : lns text = L) (W : World) (hGI : ∀ pre W, J pre W → GI W)
    (hJ : AbBox b J) (hJx : AbBox b Jx) (hbx : Boxed W b 9 (.string text))
    (hY : ∀ pre x W1, J pre W1 → pre ++ [x] <+: L → YieldAt Fence.wide (4 - 1) Tryd.prog l (lencs x) W1 fun e W' =>
      (e = .returned (.bool true) ∧ J (pre ++ [x]) W' ∧ W'.heap[b]? = W1.heap[b]?) ∨ (e = .returned (.bool false) ∧ Jx (pre ++ [x]) W'))
    (h0 : J [] W) :
    CallsIn Fence.wide 4 Tryd.prog 54 #[.func (.yield l) #[] #[], .pointer (some ⟨b, 0, none⟩)] W fun e W' => (∃ v, e = .returned v) ∧ (J L W' ∨ (∃ pre, pre <+: L ∧ Jx pre W')) := by
  refine callsIn_of_wp Tryd.func54 rfl trivial ?_ rfl
  simp only [Tryd.ntmps54, List.size_toArray, List.length_cons, List.length_nil, Nat.reduceAdd, Nat.reduceSub, Array.replicate_succ, Array.replicate_zero, List.push_toArray, List.append_toArray, List.nil_append, List.cons_append]
  gi_wp2
  gi_loopw [] (fun wr => ∃ (pre rest : List (ByteArray × Bool)) (s : ByteArray), s.size < 4294967281 ∧ Boxed wr b 9 (.string s) ∧ lns s = rest ∧ L = pre ++ rest ∧ J pre wr)
    (fun wr => leftB b wr)
  case atStart =>
    exact ⟨[], L, text, hs, hbx, hL, rfl, h0⟩
  case round =>
    obtain ⟨pre, rest, s, hsz, hbw, hr, hx, hJs⟩ := hrel
    have hc := hbw.cell
    have hf := hbw.frozen
    have e1 : s.data.toList.length = s.size := Array.length_toList
    by_cases hz : s.size = 0
    · have tE : s.toList.isEmpty = true := by rw [ByteArray.toList_eq, show s.data.toList = [] from List.eq_nil_of_length_eq_zero (by omega)]; rfl
      rw [lns_nil hz] at hr
      subst hr
      gi_wp2
      go_end0
      exact ⟨⟨_, rfl⟩, .inl (by rw [hx, List.append_nil]; exact hJs)⟩
    · have tE : s.toList.isEmpty = false := by
        rw [ByteArray.toList_eq]
        cases hd : s.data.toList with
        | nil => rw [hd] at e1; exact absurd e1.symm hz
        | cons a t => rfl
      rw [lns_cons hz] at hr
      have hcut : strings_Cut.f s ⟨#[10]⟩ = some (⟨(cut1 10 s.data.toList).1.toArray⟩, ⟨(cut1 10 s.data.toList).2.1.toArray⟩, (cut1 10 s.data.toList).2.2) := by
        unfold strings_Cut.f
        rw [if_pos hsz]
        have e : Lib.cut s.data.toList (⟨#[10]⟩ : ByteArray).data.toList = cut1 10 s.data.toList := cut_eq 10 s.data.toList
        rw [e]
      have hrl := rest_lt hz
      generalize (⟨(cut1 10 s.data.toList).1.toArray⟩ : ByteArray) = line at hcut hr
      generalize (⟨(cut1 10 s.data.toList).2.1.toArray⟩ : ByteArray) = left at hcut hr hrl
      generalize (cut1 10 s.data.toList).2.2 = ok at hcut hr
      have HY := hY pre (line, ok)
      have hpre : pre ++ [(line, ok)] <+: L := ⟨lns left, by rw [hx, ← hr]; simp⟩
      gi_wp2_with (refine ⟨trivial, ?_⟩; gi_at_call 55; refine (callsIn_wide.2 (strings_Cut.calls s ⟨#[10]⟩ line left ok wr (hGI pre wr hJs) hcut)).mono ?_; rintro e w1 ⟨rfl, hb1⟩; have hg1 : wr.grownBy w1 (some b) := ⟨hb1.os, hb1.tape, hb1.output, hb1.size, fun k hk _ => hb1.block k hk⟩; have hJ1 := hJ pre wr w1 hJs hg1; have hb1w : Boxed w1 b 9 (.string s) := (hb1.block b hbw.lt).trans hbw; obtain ⟨fn, tmps, assign, body, hy, hR⟩ := HY w1 hJ1 hpre; dsimp only [lencs] at hy)
      refine hR.mono ?_
      rintro e W3 (⟨rfl, hJ3, hk3⟩ | ⟨rfl, hJx3⟩)
      · have hb3 : Boxed W3 b 9 (.string s) := hk3.trans hb1w
        have hc3 := hb3.cell
        have hf3 := hb3.frozen
        gi_wp2
        go_roundw
        case rel => exact ⟨pre ++ [(line, ok)], lns left, left, by omega, hb3.set _, rfl, by rw [hx, ← hr]; simp, hJ _ _ _ hJ3 (grownBy_setCell' W3 b _)⟩
        case measure =>
          have m1 : leftB b (W3.setCell ⟨b, 0, none⟩ (.string left)) = left.size := by unfold leftB; rw [(hb3.set (.string left)).cell]
          have m2 : leftB b wr = s.size := by unfold leftB; rw [hc]
          rw [m1, m2]
          exact hrl
      · gi_wp2
        refine bodyPost_ret (results_none rfl _ _ _) rfl ?_
        exact ⟨⟨_, rfl⟩, .inr ⟨pre ++ [(line, ok)], hpre, hJx3⟩⟩
/-- What 'lines' hands back captures a new box. -/
theorem lines_calls (text : ByteArray) (w : World) : CallsIn Fence.wide 4 Tryd.prog 44 #[.string text] w fun e w' => e = .returned (.func (.func 54) #[] #[.pointer (some ⟨w.heap.size, 0, none⟩)]) ∧ w' = w.alloc (.cells #[.string text] 9) := by
  refine callsIn_of_wp Tryd.func44 rfl trivial ?_ rfl
  simp only [Tryd.ntmps44, List.size_toArray, List.length_cons, List.length_nil, Nat.reduceAdd, Nat.reduceSub, Array.replicate_succ, Array.replicate_zero, List.push_toArray, List.append_toArray, List.nil_append, List.cons_append]
  gi_wp2
  go_ret
  exact ⟨rfl, rfl⟩
theorem lines_box (b : Nat) (text : ByteArray) (hs : text.size < 4294967281) (w : World) (hbx : Boxed w b 9 (.string text)) :
    SeqBox Fence.wide 4 Tryd.prog 54 #[.pointer (some ⟨b, 0, none⟩)] lencs b GI (lns text) w := by
  intro l J Jx W hW hG hJ hJx hY h0
  exact lines1_in l b (lns text) J Jx text hs rfl W hG hJ hJx ((hW.block b hbx.lt).trans hbx) hY h0
end Go.Proofs.YtoofoicocfnfoaaDoor.X
namespace Go.Proofs.YtoofoicocfnfoaaDoor.Pr
open Go.RowKit Go.Proofs.YtoofoicocfnfoaaDoorW.PrintWords Go.Proofs.YtoofoicocfnfoaaDoorW.PrintLast Go.Proofs.YtoofoicocfnfoaaDoorW.PrintMore Go.Proofs.YtoofoicocfnfoaaDoor.X
attribute [local go_sem] max2_int min2_int max_two min_two max_three min_three max_four min_four   -- for this text's walks alone
set_option linter.unusedVariables false
set_option linter.unusedSimpArgs false
def density_Parse.line (x : ByteArray × Bool) : Option (Option S30) := (strings_Split.f x.1 ⟨#[32]⟩).bind fun ws =>
 if x.2 = true ∧ ws.length = 4 ∧ (ws.getD 0 ⟨#[]⟩).toList = [115, 116, 114, 101, 110, 103, 116, 104] ∧ (ws.getD 2 ⟨#[]⟩).toList = [100, 101, 110, 115, 105, 116, 121] then
  (density_number.f (ws.getD 1 ⟨#[]⟩)).bind fun s => (density_number.f (ws.getD 3 ⟨#[]⟩)).bind fun d => if s.2 = true ∧ d.2 = true then some (some ⟨s.1, d.1⟩) else some none
 else some none
def density_Parse.rows (k : Nat) : List (ByteArray × Bool) → List S30 → Option (List S30 × Int × Int)
 | [], acc => (density_Check.f k acc).bind fun c => if c.2 = 0 then some (acc, -1, 0) else some ([], -1, c.2)
 | x :: r, acc => if acc.length < 4294967296 then (density_Parse.line x).bind fun y => match y with
  | none => some ([], (acc.length : Int), 3)
  | some g => density_Parse.rows k r (acc ++ [g]) else none
def density_Parse.f (k : Nat) (a0 : ByteArray) : Option (List S30 × Int × Int) := if (a0.size : Int) > 65536 then some ([], -1, 8) else density_Parse.rows k (lns a0) []
def flat30 (l : List S30) : List Value := l.flatMap fun x => [Value.int .i64 x.f0, Value.int .i64 x.f1]
theorem flat30_len (l : List S30) : (flat30 l).length = l.length * 2 := by
 induction l with
 | nil => rfl
 | cons x r ih => show (_ :: _ :: flat30 r).length = _; simp only [List.length_cons, ih]; omega
theorem flat30_get (ys : List S30) : ∀ (j : Nat) (p : S30), ys[j]? = some p → ((flat30 ys).drop (j * 2)).take 2 = [.int .i64 p.f0, .int .i64 p.f1] := by
 induction ys with
 | nil => intro j p hp; simp at hp
 | cons y r ih =>
  intro j p hp
  cases j with
  | zero => obtain rfl := Option.some.inj hp; rfl
  | succ j =>
   have := ih j p (by simpa using hp)
   rw [show (j + 1) * 2 = j * 2 + 1 + 1 from by omega]
   exact this
theorem own_R30 {w : World} {base : Nat} {v : Value} {xs : List S30} (h : w.ownsRow base 30 2 v xs.length (flat30 xs)) : Kd.R k30 30 w base (fun _ => True) v xs :=
 ⟨fun _ _ => trivial, flat30 xs, h, flat30_len xs, fun j p hp => by
  have e := flat30_get xs j p hp
  show k30.M _ _ _ p (((flat30 xs).drop (j * 2)).take 2)
  rw [e]
  exact k30_mkM _ _ _ p⟩
section
attribute [local go_sem] Oper.semAt_some
/-- What stands between two rounds. -/
def density_Parse.I (k : Nat) (a0 : ByteArray) (r : List S30 × Int × Int) (w : World) (pre : List (ByteArray × Bool)) (W : World) : Prop :=
 ∃ (acc : List S30) (v : Value) (rest : List (ByteArray × Bool)), lns a0 = pre ++ rest ∧ density_Parse.rows k rest acc = some r ∧ Boxed W (w.heap.size + 3) 22 v ∧ W.ownsRow (w.heap.size + 5) 30 2 v acc.length (flat30 acc) ∧
  (Boxed W w.heap.size 22 (.slice none 0 0) ∧ Boxed W (w.heap.size + 1) 3 (.int .i64 0) ∧ Boxed W (w.heap.size + 2) 25 (.int .i64 0)) ∧ Below w.heap.size w W ∧ w.heap.size + 5 ≤ W.heap.size
def density_Parse.Ix (r : List S30 × Int × Int) (w : World) (pre : List (ByteArray × Bool)) (W : World) : Prop :=
 r.1 = [] ∧ (Boxed W w.heap.size 22 (.slice none 0 0) ∧ Boxed W (w.heap.size + 1) 3 (.int .i64 r.2.1) ∧ Boxed W (w.heap.size + 2) 25 (.int .i64 r.2.2)) ∧ Below w.heap.size w W
theorem box_turn {W W' : World} {row : Option Nat} {bt B k : Nat} {t : TypeId} {v : Value} (h : Boxed W k t v) (hg : W.grownBy W' row) (hr : ∀ r, row = some r → r = bt ∨ (B ≤ r ∧ ∃ o : Obj, W.heap[r]? = some o ∧ o.isCells = false)) (h1 : k ≠ bt) (h2 : k < B) : Boxed W' k t v :=
 h.kept hg (fun e => by rcases hr k e.symm with h3 | h3 <;> omega)
theorem own_turn {W W' : World} {row : Option Nat} {bt B : Nat} {v : Value} {n : Nat} {xs : List Value} (h : W.ownsRow B 30 2 v n xs) (hg : W.grownBy W' row) (hr : ∀ r, row = some r → r = bt ∨ (B ≤ r ∧ ∃ o : Obj, W.heap[r]? = some o ∧ o.isCells = false)) (h1 : bt < B) : W'.ownsRow B 30 2 v n xs := by
 refine own_other h hg ?_
 rcases h.2 with ⟨rfl, _⟩ | ⟨g, cap, cur, rfl, hb, hh, _⟩
 ·
  exact .inl rfl
 ·
  refine .inr fun e => ?_
  rcases hr g e.symm with h3 | ⟨_, o, ho, hc⟩
  ·
   omega
  ·
   rw [hh] at ho; cases ho; cases hc
theorem one_of_take {l : List Value} {j : Nat} {v : Value} (h : (l.drop (j * 1)).take 1 = [v]) : l[j]? = some v := by
 have := congrArg (·[0]?) h
 rw [List.getElem?_take, List.getElem?_drop] at this
 simpa using this
theorem split_row {w1 : World} {base : Nat} {vw : Value} {ws : List ByteArray} (hR : Kd.R Kd.string 9 w1 base (fun _ => True) vw ws) : ∃ A c, vw = .slice A ws.length c ∧ ws.length ≤ c ∧ (0 < ws.length → ∃ g, A = some ⟨g, 0, none⟩ ∧ ∀ j s, ws[j]? = some s → w1.cell? ⟨g, j, none⟩ = some (.string s)) := by
 obtain ⟨_, inner, ho, hr⟩ := hR
 rcases ho.2 with ⟨rfl, h0⟩ | ⟨g, cap, cur, rfl, hb, hh, hn, hm, hs, ht⟩
 ·
  exact ⟨none, 0, by rw [h0], by omega, fun h => absurd h (by omega)⟩
 ·
  refine ⟨_, cap, rfl, hn, fun _ => ⟨g, rfl, fun j s hj => ?_⟩⟩
  have e : (inner.drop (j * 1)).take 1 = [.string s] := hr.2 j s hj
  have e2 := one_of_take e
  rw [← ht, List.getElem?_take] at e2
  split at e2
  ·
   rw [cell_of_row w1 g j cur 9 (0, 0) hh, ← Array.getElem?_toList]; exact e2
  ·
   cases e2
theorem split_row4 {w1 : World} {base : Nat} {vw : Value} {ws : List ByteArray} (hR : Kd.R Kd.string 9 w1 base (fun _ => True) vw ws) (h4 : ws.length = 4) : ∃ g c, vw = .slice (some ⟨g, 0, none⟩) 4 c ∧ 4 ≤ c ∧
  w1.cell? ⟨g, 0, none⟩ = some (.string (ws.getD 0 ⟨#[]⟩)) ∧ w1.cell? ⟨g, 1, none⟩ = some (.string (ws.getD 1 ⟨#[]⟩)) ∧ w1.cell? ⟨g, 2, none⟩ = some (.string (ws.getD 2 ⟨#[]⟩)) ∧ w1.cell? ⟨g, 3, none⟩ = some (.string (ws.getD 3 ⟨#[]⟩)) := by
 obtain ⟨A, c, rfl, hc, h⟩ := split_row hR
 replace h := h (by omega)
 obtain ⟨g, rfl, h⟩ := h
 match ws, h4 with
 | [a, b, d, e], _ => exact ⟨g, c, rfl, hc, h 0 a rfl, h 1 b rfl, h 2 d rfl, h 3 e rfl⟩
theorem box_facts {W w1 : World} {b : Nat} {t : TypeId} {v : Value} (h : Boxed W b t v) (hb : Below W.heap.size W w1) : w1.cell? ⟨b, 0, none⟩ = some v ∧ w1.frozen? ⟨b, 0, none⟩ = false :=
 have k : Boxed w1 b t v := (hb.block b h.lt).trans h
 ⟨k.cell, k.frozen⟩
theorem density_Parse.failed {w W w1 : World} {B : Nat} (n : Nat) (xs : List (ByteArray × Bool)) (hB : Below w.heap.size w W) (hb1 : Below W.heap.size W w1) (hBw : w.heap.size + 5 ≤ B)
  (y0 : Boxed W w.heap.size 22 (.slice none 0 0)) (y1 : Boxed W (w.heap.size + 1) 3 (.int .i64 0)) (y2 : Boxed W (w.heap.size + 2) 25 (.int .i64 0)) :
  KeepsFrom B W ((((w1.setCell ⟨w.heap.size, 0, none⟩ (.slice none 0 0)).setCell ⟨w.heap.size + 1, 0, none⟩ (.int .i64 n)).setCell ⟨w.heap.size + 1 + 1, 0, none⟩ (.int .i64 3)).drew) ∧
  density_Parse.Ix ([], (n : Int), 3) w xs ((((w1.setCell ⟨w.heap.size, 0, none⟩ (.slice none 0 0)).setCell ⟨w.heap.size + 1, 0, none⟩ (.int .i64 n)).setCell ⟨w.heap.size + 1 + 1, 0, none⟩ (.int .i64 3)).drew) := by
 have b0 : Boxed w1 w.heap.size 22 (.slice none 0 0) := (hb1.block _ y0.lt).trans y0
 have b1 : Boxed w1 (w.heap.size + 1) 3 (.int .i64 0) := (hb1.block _ y1.lt).trans y1
 have b2 : Boxed w1 (w.heap.size + 2) 25 (.int .i64 0) := (hb1.block _ y2.lt).trans y2
 refine ⟨⟨?_, fun k o hk ho hc => ?_⟩, rfl, ⟨?_, ?_, ?_⟩, ?_⟩
 ·
  have := hb1.size
  simpa using this
 ·
  have h1 := (hb1.block k (Array.getElem?_eq_some_iff.1 ho).1).trans ho
  refine (Below.heap_setCell _ _ _ k (by show k ≠ w.heap.size + 1 + 1; omega)).trans ((Below.heap_setCell _ _ _ k (by show k ≠ w.heap.size + 1; omega)).trans ((Below.heap_setCell _ _ _ k (by show k ≠ w.heap.size; omega)).trans h1))
 ·
  exact ((b0.set (.slice none 0 0)).other (by omega) _).other (by omega) _
 ·
  exact ((b1.other (by omega) _).set (.int .i64 n)).other (by omega) _
 ·
  exact ((b2.other (by omega) _).other (by omega) _).set (.int .i64 3)
 ·
  exact ((((below_step hB hb1).setCell (p := ⟨w.heap.size, 0, none⟩) (Nat.le_refl _) _).setCell (p := ⟨w.heap.size + 1, 0, none⟩) (by show w.heap.size ≤ w.heap.size + 1; omega) _).setCell (p := ⟨w.heap.size + 1 + 1, 0, none⟩) (by show w.heap.size ≤ w.heap.size + 1 + 1; omega) _).drew
theorem flat30_snoc (acc : List S30) (g : S30) : flat30 (acc ++ [g]) = flat30 acc ++ [.int .i64 g.f0, .int .i64 g.f1] := by simp [flat30]
theorem box_grown {W w3 w4 : World} {tmp : Obj} {base b : Nat} {t : TypeId} {u v : Value} {n : Nat} {xs : List Value} (h : Boxed W b t u) (h3 : Below W.heap.size W w3) (ht : t ≠ 30) (ho : w3.ownsRow base 30 2 v n xs) (hg : (w3.alloc tmp).grownBy w4 v.ownBlock) : Boxed w4 b t u :=
 have k : Boxed w3 b t u := (h3.block b h.lt).trans h
 (k.alloc tmp).kept hg (k.not_row ht ho)
theorem density_Parse.went {k : Nat} {a0 : ByteArray} {r : List S30 × Int × Int} {w W w3 w4 : World} {B : Nat} {acc : List S30} {v v' : Value} {g : S30} {pre more : List (ByteArray × Bool)} {x : ByteArray × Bool} {tmp : Obj}
  (hBw : B = w.heap.size + 5) (hl : lns a0 = (pre ++ [x]) ++ more) (hq : density_Parse.rows k more (acc ++ [g]) = some r) (hB : Below w.heap.size w W) (h3 : Below W.heap.size W w3)
  (hv : Boxed W (w.heap.size + 3) 22 v) (ho : W.ownsRow (w.heap.size + 5) 30 2 v acc.length (flat30 acc)) (hbt : w.heap.size + 4 < W.heap.size)
  (y0 : Boxed W w.heap.size 22 (.slice none 0 0)) (y1 : Boxed W (w.heap.size + 1) 3 (.int .i64 0)) (y2 : Boxed W (w.heap.size + 2) 25 (.int .i64 0))
  (hown' : w4.ownsRow (w.heap.size + 5) 30 2 v' (acc.length + 1) (flat30 acc ++ [.int .i64 g.f0, .int .i64 g.f1])) (hgrow : (w3.alloc tmp).grownBy w4 v.ownBlock) :
  KeepsFrom B W (w4.setCell ⟨w.heap.size + 3, 0, none⟩ v') ∧ (w4.setCell ⟨w.heap.size + 3, 0, none⟩ v').heap[w.heap.size + 4]? = W.heap[w.heap.size + 4]? ∧ density_Parse.I k a0 r w (pre ++ [x]) (w4.setCell ⟨w.heap.size + 3, 0, none⟩ v') := by
 have ho3 : w3.ownsRow (w.heap.size + 5) 30 2 v acc.length (flat30 acc) := pw_own_below ho h3
 have hv3 : Boxed w3 (w.heap.size + 3) 22 v := (h3.block _ hv.lt).trans hv
 have hw3 : Below w.heap.size w w3 := below_step hB h3
 obtain ⟨hv4, hv5, _, hk, hb⟩ := hv3.appended (n₀ := w.heap.size) (by decide) (own_weaken ho3 (by omega)) hw3.size (by omega) (own_weaken hown' (by omega)) hgrow
 have hr5 : (w4.setCell ⟨w.heap.size + 3, 0, none⟩ v').ownsRow (w.heap.size + 5) 30 2 v' (acc.length + 1) (flat30 acc ++ [.int .i64 g.f0, .int .i64 g.f1]) := hown'.kept (grownBy_setCell' w4 _ v') (.inr (hv4.not_row (by decide) hown').symm)
 refine ⟨KeepsFrom.trans ⟨h3.size, fun i o _ hi _ => (h3.block i (Array.getElem?_eq_some_iff.1 hi).1).trans hi⟩ (hk.from B), ?_, acc ++ [g], v', more, hl, hq, hv5, ?_, ⟨?_, ?_, ?_⟩, hw3.trans hb, ?_⟩
 ·
  refine (Below.heap_setCell _ _ _ _ (by show w.heap.size + 4 ≠ w.heap.size + 3; omega)).trans ?_
  have h4 : w.heap.size + 4 < w3.heap.size := Nat.lt_of_lt_of_le hbt h3.size
  refine (hgrow.block _ (by rw [World.size_alloc]; omega) (fun e => ?_)).trans ((Below.heap_alloc w3 tmp _ h4).trans (h3.block _ hbt))
  have := own_base ho3 _ e.symm
  omega
 ·
  rw [flat30_snoc, List.length_append]; exact hr5
 ·
  exact (box_grown y0 h3 (by decide) ho3 hgrow).other (by omega) _
 ·
  exact (box_grown y1 h3 (by decide) ho3 hgrow).other (by omega) _
 ·
  exact (box_grown y2 h3 (by decide) ho3 hgrow).other (by omega) _
 ·
  have e1 := h3.size
  have e2 := hk.size
  omega
theorem two_cells (w : World) (a b : Value) (t : TypeId) : ∀ (j : Nat) (u : Value), [a, b][j]? = some u → (w.alloc (.cells #[a, b] t)).cell? ((⟨w.heap.size, 0, none⟩ : Addr).add j) = some u := by
 intro j u hj
 rw [Addr.add_lit, Nat.zero_add, World.cell?_alloc_at (w := w) _ _ w.heap.size j rfl]
 simpa using hj
theorem results_boxes {W : World} {tmps : Array Value} {g1 g2 g3 : Nat} {v1 v2 v3 : Value} (h1 : tmps.getD 2 undef = .pointer (some ⟨g1, 0, none⟩)) (h2 : tmps.getD 3 undef = .pointer (some ⟨g2, 0, none⟩)) (h3 : tmps.getD 4 undef = .pointer (some ⟨g3, 0, none⟩))
  (b1 : Boxed W g1 22 v1) (b2 : Boxed W g2 3 v2) (b3 : Boxed W g3 25 v3) : (results Tryd.f29 tmps).run Tryd.prog W = .ok (.tuple #[v1, v2, v3]) W := by
 have a22 : ∀ W : World, (isAgg 22).run Tryd.prog W = .ok false W := fun W => by kernel_rfl
 have a3 : ∀ W : World, (isAgg 3).run Tryd.prog W = .ok false W := fun W => by kernel_rfl
 have a25 : ∀ W : World, (isAgg 25).run Tryd.prog W = .ok false W := fun W => by kernel_rfl
 have c1 := b1.cell
 have c2 := b2.cell
 have c3 := b3.cell
 have h1' : tmps[2]?.getD undef = .pointer (some ⟨g1, 0, none⟩) := by simpa using h1
 have h2' : tmps[3]?.getD undef = .pointer (some ⟨g2, 0, none⟩) := by simpa using h2
 have h3' : tmps[4]?.getD undef = .pointer (some ⟨g3, 0, none⟩) := by simpa using h3
 unfold results
 rw [show Tryd.f29.results = [ResultVar.cell 2 22, ResultVar.cell 3 3, ResultVar.cell 4 25].toArray from rfl, List.mapM_toArray]
 simp only [Sem.run_bind, Sem.run_map]
 simp [List.mapM_cons, h1', h2', h3', asAddr, loadVar, a22, a3, a25, c1, c2, c3]
theorem density_Parse.leave {n : Nat} {w W : World} {D : Nat} {v1 : Value} {r2 r3 : Int} {tmps : Array Value} {xs : List S30} (hK : W.heap[D]? = some (.deferred (some []))) (hD : w.heap.size + 5 ≤ D)
  (y0 : Boxed W w.heap.size 22 v1) (y1 : Boxed W (w.heap.size + 1) 3 (.int .i64 r2)) (y2 : Boxed W (w.heap.size + 2) 25 (.int .i64 r3)) (hB : Below w.heap.size w W) (hrow : W.ownsRow (w.heap.size + 5) 30 2 v1 xs.length (flat30 xs))
  (t2 : tmps.getD 2 undef = .pointer (some ⟨w.heap.size, 0, none⟩)) (t3 : tmps.getD 3 undef = .pointer (some ⟨w.heap.size + 1, 0, none⟩)) (t4 : tmps.getD 4 undef = .pointer (some ⟨w.heap.size + 1 + 1, 0, none⟩)) :
  LeavesInM Fence.wide n Tryd.prog Tryd.f29 tmps (fun e w' => ∃ v0_, e = .returned (.tuple #[v0_, .int .i64 r2, .int .i64 r3]) ∧ Kd.R k30 30 w' w.heap.size (fun _ => True) v0_ xs ∧ Below w.heap.size w w') [{ target := .collected D, args := #[] }] .returning W := by
 have hg := grownBy_putObj' W D (.deferred none)
 have ne : ∀ b, b < w.heap.size + 5 → some b ≠ some D := fun b hb e => by have := Option.some.inj e; omega
 refine ⟨by simp, .inl ⟨_, _, rfl, run_takeDeferred hK, ⟨_, results_boxes t2 t3 t4 (y0.kept hg (ne _ (by omega))) (y1.kept hg (ne _ (by omega))) (y2.kept hg (ne _ (by omega))), v1, rfl, own_R30 (own_weaken (ownsRow_putObj hrow _ hK rfl) (by omega)), ?_⟩⟩⟩
 exact hB.grown hg hB.size (fun k e => by cases e; omega)
theorem density_Parse.stored {w W W1 : World} {D : Nat} {u1 u2 u3 : Value} (v1 v2 v3 : Value) {n : Nat} {xs : List Value} (hK : W.heap[D]? = some (.deferred (some []))) (h1 : Below W.heap.size W W1) (hD : w.heap.size + 5 ≤ D)
  (y0 : Boxed W w.heap.size 22 u1) (y1 : Boxed W (w.heap.size + 1) 3 u2) (y2 : Boxed W (w.heap.size + 2) 25 u3) (hB : Below w.heap.size w W) (hrow : W.ownsRow (w.heap.size + 5) 30 2 v1 n xs) :
  (((W1.setCell ⟨w.heap.size, 0, none⟩ v1).setCell ⟨w.heap.size + 1, 0, none⟩ v2).setCell ⟨w.heap.size + 1 + 1, 0, none⟩ v3).heap[D]? = some (.deferred (some [])) ∧
  Boxed (((W1.setCell ⟨w.heap.size, 0, none⟩ v1).setCell ⟨w.heap.size + 1, 0, none⟩ v2).setCell ⟨w.heap.size + 1 + 1, 0, none⟩ v3) w.heap.size 22 v1 ∧
  Boxed (((W1.setCell ⟨w.heap.size, 0, none⟩ v1).setCell ⟨w.heap.size + 1, 0, none⟩ v2).setCell ⟨w.heap.size + 1 + 1, 0, none⟩ v3) (w.heap.size + 1) 3 v2 ∧
  Boxed (((W1.setCell ⟨w.heap.size, 0, none⟩ v1).setCell ⟨w.heap.size + 1, 0, none⟩ v2).setCell ⟨w.heap.size + 1 + 1, 0, none⟩ v3) (w.heap.size + 2) 25 v3 ∧
  Below w.heap.size w (((W1.setCell ⟨w.heap.size, 0, none⟩ v1).setCell ⟨w.heap.size + 1, 0, none⟩ v2).setCell ⟨w.heap.size + 1 + 1, 0, none⟩ v3) ∧
  (((W1.setCell ⟨w.heap.size, 0, none⟩ v1).setCell ⟨w.heap.size + 1, 0, none⟩ v2).setCell ⟨w.heap.size + 1 + 1, 0, none⟩ v3).ownsRow (w.heap.size + 5) 30 2 v1 n xs := by
 have b0 : Boxed W1 w.heap.size 22 u1 := (h1.block _ y0.lt).trans y0
 have b1 : Boxed W1 (w.heap.size + 1) 3 u2 := (h1.block _ y1.lt).trans y1
 have b2 : Boxed W1 (w.heap.size + 2) 25 u3 := (h1.block _ y2.lt).trans y2
 have ho1 := pw_own_below hrow h1
 have no : ∀ b, b < w.heap.size + 5 → some b ≠ v1.ownBlock := fun b hb e => by have := own_base ho1 b e.symm; omega
 refine ⟨?_, ?_, ?_, ?_, ?_, ?_⟩
 ·
  have hd := (h1.block _ (Array.getElem?_eq_some_iff.1 hK).1).trans hK
  exact (Below.heap_setCell _ _ _ _ (by show D ≠ w.heap.size + 1 + 1; omega)).trans ((Below.heap_setCell _ _ _ _ (by show D ≠ w.heap.size + 1; omega)).trans ((Below.heap_setCell _ _ _ _ (by show D ≠ w.heap.size; omega)).trans hd))
 ·
  exact ((b0.set v1).other (by omega) _).other (by omega) _
 ·
  exact ((b1.other (by omega) _).set v2).other (by omega) _
 ·
  exact ((b2.other (by omega) _).other (by omega) _).set v3
 ·
  exact (((below_step hB h1).setCell (p := ⟨w.heap.size, 0, none⟩) (Nat.le_refl _) _).setCell (p := ⟨w.heap.size + 1, 0, none⟩) (by show w.heap.size ≤ w.heap.size + 1; omega) _).setCell (p := ⟨w.heap.size + 1 + 1, 0, none⟩) (by show w.heap.size ≤ w.heap.size + 1 + 1; omega) _
 ·
  exact own_setCell (own_setCell (own_setCell ho1 (no _ (by show w.heap.size < _; omega)) _) (no _ (by show w.heap.size + 1 < _; omega)) _) (no _ (by show w.heap.size + 1 + 1 < _; omega)) _
set_option maxHeartbeats 8000000 in
set_option maxRecDepth 100000 in
theorem density_Parse.calls (k : Nat) (a0 : ByteArray) (r1 : List (S30)) (r2 : Int) (r3 : Int) (w : World) (hG : GI w) (h : density_Parse.f k a0 = some (r1, r2, r3)) :
  Calls Tryd.prog 29 #[.string a0] w fun e w' => ∃ v0_ : Value, e = .returned (.tuple #[v0_, .int .i64 r2, .int .i64 r3]) ∧ Kd.R k30 30 w' w.heap.size (fun _ => True) v0_ r1 ∧ Below w.heap.size w w' := by
 have hu22 := Tryd.underlying22
 unfold density_Parse.f at h
 refine (callsIn_wide (n := 5)).1 ?_
 refine callsIn_of_wp_marks Tryd.func29 rfl trivial ?_ rfl
 simp only [Tryd.ntmps29, List.size_toArray, List.length_cons, List.length_nil, Nat.reduceAdd, Nat.reduceSub, Array.replicate_succ, Array.replicate_zero, List.push_toArray, List.append_toArray, List.nil_append, List.cons_append]
 by_cases hbig : (a0.size : Int) > 65536
 ·
  rw [if_pos hbig] at h
  cases h
  gi_wp2
  refine ⟨_, results_boxes (g1 := w.heap.size) (g2 := w.heap.size + 1) (g3 := w.heap.size + 1 + 1) rfl rfl rfl (((Boxed.new w 22 _).alloc _).alloc _) ?_ ?_, ⟨_, rfl, Kd.R_nil _ _ _ _ _, ?_⟩⟩
  ·
   have := (Boxed.new (w.alloc (.cells #[.slice none 0 0] 22)) 3 (.int .i64 (-1))).alloc (.cells #[.int .i64 8] 25)
   rwa [World.size_alloc] at this
  ·
   have := Boxed.new ((w.alloc (.cells #[.slice none 0 0] 22)).alloc (.cells #[.int .i64 (-1)] 3)) 25 (.int .i64 8)
   rwa [World.size_alloc, World.size_alloc] at this
  ·
   exact below_alloc (below_alloc (below_alloc (Below.refl _ _) _) _) _
 ·
  rw [if_neg hbig] at h
  obtain ⟨W0, hW0⟩ : ∃ W0, W0 = ((((w.alloc (.cells #[.slice none 0 0] 22)).alloc (.cells #[.int .i64 0] 3)).alloc (.cells #[.int .i64 0] 25)).alloc (.cells #[.slice none 0 0] 22)).alloc (.cells #[.string a0] 9) := ⟨_, rfl⟩
  have hsz : W0.heap.size = w.heap.size + 5 := by rw [hW0]; simp [World.size_alloc]
  have hB0 : Below w.heap.size w W0 := by rw [hW0]; exact below_alloc (below_alloc (below_alloc (below_alloc (below_alloc (Below.refl _ _) _) _) _) _) _
  have x0 : Boxed W0 w.heap.size 22 (.slice none 0 0) := by rw [hW0]; exact ((((Boxed.new w 22 _).alloc _).alloc _).alloc _).alloc _
  have x1 : Boxed W0 (w.heap.size + 1) 3 (.int .i64 0) := by
   rw [hW0]
   have := (((Boxed.new (w.alloc (.cells #[.slice none 0 0] 22)) 3 (.int .i64 0)).alloc (.cells #[.int .i64 0] 25)).alloc (.cells #[.slice none 0 0] 22)).alloc (.cells #[.string a0] 9)
   simpa only [World.size_alloc] using this
  have x2 : Boxed W0 (w.heap.size + 2) 25 (.int .i64 0) := by
   rw [hW0]
   have := ((Boxed.new ((w.alloc (.cells #[.slice none 0 0] 22)).alloc (.cells #[.int .i64 0] 3)) 25 (.int .i64 0)).alloc (.cells #[.slice none 0 0] 22)).alloc (.cells #[.string a0] 9)
   simpa only [World.size_alloc] using this
  have x3 : Boxed W0 (w.heap.size + 3) 22 (.slice none 0 0) := by
   rw [hW0]
   have := (Boxed.new (((w.alloc (.cells #[.slice none 0 0] 22)).alloc (.cells #[.int .i64 0] 3)).alloc (.cells #[.int .i64 0] 25)) 22 (.slice none 0 0)).alloc (.cells #[.string a0] 9)
   simpa only [World.size_alloc] using this
  have x4 : Boxed W0 (w.heap.size + 4) 9 (.string a0) := by
   rw [hW0]
   have := Boxed.new ((((w.alloc (.cells #[.slice none 0 0] 22)).alloc (.cells #[.int .i64 0] 3)).alloc (.cells #[.int .i64 0] 25)).alloc (.cells #[.slice none 0 0] 22)) 9 (.string a0)
   simpa only [World.size_alloc] using this
  gi_wp2_with (refine ⟨trivial, ?_⟩; gi_at_call 44; refine (lines_calls a0 _).mono ?_; rintro e w' ⟨rfl, rfl⟩)
  have hseq := lines_box (w.heap.size + 4) a0 (by omega) W0 x4
  try simp only [World.size_alloc]
  rw [← hW0]
  refine wpIn_rangeFunc_box (F := Fence.wide) (n := 5) (b := w.heap.size + 4) rfl (by decide) (gf := 54) (lb := #[.pointer (some ⟨w.heap.size + 4, 0, none⟩)]) rfl trivial (enters_of Tryd.func54 (by kernel_rfl) rfl) hseq (by omega) (Below.refl _ _) (fun _ => rfl)
   (density_Parse.I k a0 (r1, r2, r3) w) (density_Parse.Ix (r1, r2, r3) w) ?hIG ?hI ?hIx ?h0
   (fun x => { tmps := #[.string a0, undef, .pointer (some ⟨w.heap.size, 0, none⟩), .pointer (some ⟨w.heap.size + 1, 0, none⟩), .pointer (some ⟨w.heap.size + 1 + 1, 0, none⟩), .pointer (some ⟨w.heap.size + 1 + 1 + 1, 0, none⟩), .string x.1, .bool x.2, undef, undef, undef, undef, undef, undef, undef, .string a0, .int .i64 (a0.size : Int), .bool false, .string a0, .func (.func 54) #[] #[.pointer (some ⟨w.heap.size + 1 + 1 + 1 + 1, 0, none⟩)], .string x.1, .bool x.2, undef, undef, undef, undef, undef, undef, undef, undef, undef, undef, undef, undef, undef, undef, undef, undef, undef, undef, undef, undef, undef, undef, undef, undef, undef, undef, undef, undef, undef, undef, undef, undef, undef, undef, undef, undef, undef, undef, undef, undef, undef, undef, undef, undef, undef, undef, undef, undef, undef, undef, undef, undef, undef, undef, undef, undef, undef, undef, undef, undef], defers := [] }) ?assign ?body ?done ?stop
  case hIG =>
   rintro pre W ⟨_, _, _, _, _, _, _, _, hB, _⟩
   exact GI.below hG hB
  case hI =>
   rintro s W W' row ⟨acc, v, rest, q1, q2, hv, ho, ⟨y0, y1, y2⟩, hB, hW5⟩ hg hr
   rw [hsz] at hr
   exact ⟨acc, v, rest, q1, q2, box_turn hv hg hr (by omega) (by omega), own_turn ho hg hr (by omega), ⟨box_turn y0 hg hr (by omega) (by omega), box_turn y1 hg hr (by omega) (by omega), box_turn y2 hg hr (by omega) (by omega)⟩, hB.grown hg hB.size (fun k e => by rcases hr k e with q | q <;> omega), Nat.le_trans hW5 hg.size⟩
  case hIx =>
   rintro s W W' row ⟨q1, ⟨y0, y1, y2⟩, hB⟩ hg hr
   rw [hsz] at hr
   exact ⟨q1, ⟨box_turn y0 hg hr (by omega) (by omega), box_turn y1 hg hr (by omega) (by omega), box_turn y2 hg hr (by omega) (by omega)⟩, hB.grown hg hB.size (fun k e => by rcases hr k e with q | q <;> omega)⟩
  case h0 => exact ⟨[], _, lns a0, rfl, h, x3, World.ownsRow_nil _ _ _ _, ⟨x0, x1, x2⟩, hB0, by omega⟩
  case assign =>
   intro l x W K hK
   dsimp only [lencs]
   gi_wp2
   exact hK
  case body =>
   rintro l pre x W ⟨acc, v, rest, q1, q2, hv, ho, ⟨y0, y1, y2⟩, hB, hW5⟩ hpre
   obtain ⟨more, hmore⟩ := hpre
   have hrest : rest = x :: more := by
    rw [← hmore, List.append_assoc] at q1
    exact (List.append_cancel_left q1).symm
   subst hrest
   unfold density_Parse.rows at q2
   by_cases hacc : acc.length < 4294967296
   case neg => rw [if_neg hacc] at q2; cases q2
   rw [if_pos hacc] at q2
   replace q2 := Option.bind_eq_some_iff.mp q2
   obtain ⟨y, hy, q2⟩ := q2
   unfold density_Parse.line at hy
   replace hy := Option.bind_eq_some_iff.mp hy
   obtain ⟨ws, hws, hy⟩ := hy
   obtain ⟨Av, cv, rfl⟩ := own_slice ho
   have hGW := GI.below hG hB
   have mixed : Tryd.prog.follows Departure.mixedOrders = true := by kernel_rfl
   have hc := hv.cell
   have c0 := y0.cell
   have c1 := y1.cell
   have c2 := y2.cell
   have f0 := y0.frozen
   have f1 := y1.frozen
   have f2 := y2.frozen
   obtain ⟨xs, xb⟩ := x
   dsimp only at hws hy ⊢
   cases xb with
   | false =>
    rw [if_neg (fun q => by cases q.1)] at hy
    cases hy
    cases q2
    gi_wp2_with (refine ⟨trivial, ?_⟩; gi_at_call 45; refine (CallsIn.inRound l (callsIn_wide.2 (strings_Split.calls xs ⟨#[32]⟩ ws W hGW hws))).mono ?_; rintro e w1 ⟨vw, rfl, hRw, hb1⟩; have z0 : w1.cell? ⟨w.heap.size, 0, none⟩ = some (.slice none 0 0) := (box_facts y0 hb1).1; have z1 : w1.cell? ⟨w.heap.size + 1, 0, none⟩ = some (.int .i64 0) := (box_facts y1 hb1).1; have z2 : w1.cell? ⟨w.heap.size + 1 + 1, 0, none⟩ = some (.int .i64 0) := (box_facts y2 hb1).1; have z3 : w1.cell? ⟨w.heap.size + 1 + 1 + 1, 0, none⟩ = some (.slice Av acc.length cv) := (box_facts hv hb1).1; have g0 : w1.frozen? ⟨w.heap.size, 0, none⟩ = false := (box_facts y0 hb1).2; have g1 : w1.frozen? ⟨w.heap.size + 1, 0, none⟩ = false := (box_facts y1 hb1).2; have g2 : w1.frozen? ⟨w.heap.size + 1 + 1, 0, none⟩ = false := (box_facts y2 hb1).2)
    gi_region_o
    all_goals gi_wp2
    all_goals exact density_Parse.failed acc.length _ hB hb1 (by omega) y0 y1 y2
   | true =>
    by_cases hlen : ws.length = 4
    case neg =>
     have hl4 : ¬ ((ws.length : Int) = 4) := by omega
     rw [if_neg (fun q => hlen q.2.1)] at hy
     cases hy
     cases q2
     gi_wp2_with (refine ⟨trivial, ?_⟩; gi_at_call 45; refine (CallsIn.inRound l (callsIn_wide.2 (strings_Split.calls xs ⟨#[32]⟩ ws W hGW hws))).mono ?_; rintro e w1 ⟨vw, rfl, hRw, hb1⟩; obtain ⟨A, cw, rfl, hcw, _⟩ := split_row hRw; have z0 : w1.cell? ⟨w.heap.size, 0, none⟩ = some (.slice none 0 0) := (box_facts y0 hb1).1; have z1 : w1.cell? ⟨w.heap.size + 1, 0, none⟩ = some (.int .i64 0) := (box_facts y1 hb1).1; have z2 : w1.cell? ⟨w.heap.size + 1 + 1, 0, none⟩ = some (.int .i64 0) := (box_facts y2 hb1).1; have z3 : w1.cell? ⟨w.heap.size + 1 + 1 + 1, 0, none⟩ = some (.slice Av acc.length cv) := (box_facts hv hb1).1; have g0 : w1.frozen? ⟨w.heap.size, 0, none⟩ = false := (box_facts y0 hb1).2; have g1 : w1.frozen? ⟨w.heap.size + 1, 0, none⟩ = false := (box_facts y1 hb1).2; have g2 : w1.frozen? ⟨w.heap.size + 1 + 1, 0, none⟩ = false := (box_facts y2 hb1).2)
     gi_region_o
     all_goals gi_wp2
     all_goals exact density_Parse.failed acc.length _ hB hb1 (by omega) y0 y1 y2
    case pos =>
     obtain ⟨s0, s1, s2, s3, rfl⟩ : ∃ a b c d, ws = [a, b, c, d] := by
      match ws, hlen with
      | [a, b, d, e], _ => exact ⟨a, b, d, e, rfl⟩
     replace hy : (if True ∧ True ∧ s0.toList = [115, 116, 114, 101, 110, 103, 116, 104] ∧ s2.toList = [100, 101, 110, 115, 105, 116, 121] then (density_number.f s1).bind fun s => (density_number.f s3).bind fun d => if s.2 = true ∧ d.2 = true then some (some (⟨s.1, d.1⟩ : S30)) else some none else some none) = some y := by
      rw [← hy]
      congr 1
      simp
     by_cases hs0 : s0.toList = [115, 116, 114, 101, 110, 103, 116, 104]
     case neg =>
      rw [if_neg (fun q => hs0 q.2.2.1)] at hy
      cases hy
      cases q2
      gi_wp2_with (refine ⟨trivial, ?_⟩; gi_at_call 45; refine (CallsIn.inRound l (callsIn_wide.2 (strings_Split.calls xs ⟨#[32]⟩ [s0, s1, s2, s3] W hGW hws))).mono ?_; rintro e w1 ⟨vw, rfl, hRw, hb1⟩; obtain ⟨gw, cw, rfl, hcw, k0, k1, k2, k3⟩ := split_row4 hRw rfl; have z0 : w1.cell? ⟨w.heap.size, 0, none⟩ = some (.slice none 0 0) := (box_facts y0 hb1).1; have z1 : w1.cell? ⟨w.heap.size + 1, 0, none⟩ = some (.int .i64 0) := (box_facts y1 hb1).1; have z2 : w1.cell? ⟨w.heap.size + 1 + 1, 0, none⟩ = some (.int .i64 0) := (box_facts y2 hb1).1; have z3 : w1.cell? ⟨w.heap.size + 1 + 1 + 1, 0, none⟩ = some (.slice Av acc.length cv) := (box_facts hv hb1).1; have g0 : w1.frozen? ⟨w.heap.size, 0, none⟩ = false := (box_facts y0 hb1).2; have g1 : w1.frozen? ⟨w.heap.size + 1, 0, none⟩ = false := (box_facts y1 hb1).2; have g2 : w1.frozen? ⟨w.heap.size + 1 + 1, 0, none⟩ = false := (box_facts y2 hb1).2)
      gi_region_o
      all_goals gi_wp2
      all_goals exact density_Parse.failed acc.length _ hB hb1 (by omega) y0 y1 y2
     by_cases hs2 : s2.toList = [100, 101, 110, 115, 105, 116, 121]
     case neg =>
      have hx2 : (s2.toList == [100, 101, 110, 115, 105, 116, 121]) = false := beq_eq_false_iff_ne.mpr hs2
      rw [if_neg (fun q => hs2 q.2.2.2)] at hy
      cases hy
      cases q2
      gi_wp2_with (refine ⟨trivial, ?_⟩; gi_at_call 45; refine (CallsIn.inRound l (callsIn_wide.2 (strings_Split.calls xs ⟨#[32]⟩ [s0, s1, s2, s3] W hGW hws))).mono ?_; rintro e w1 ⟨vw, rfl, hRw, hb1⟩; obtain ⟨gw, cw, rfl, hcw, k0, k1, k2, k3⟩ := split_row4 hRw rfl; have z0 : w1.cell? ⟨w.heap.size, 0, none⟩ = some (.slice none 0 0) := (box_facts y0 hb1).1; have z1 : w1.cell? ⟨w.heap.size + 1, 0, none⟩ = some (.int .i64 0) := (box_facts y1 hb1).1; have z2 : w1.cell? ⟨w.heap.size + 1 + 1, 0, none⟩ = some (.int .i64 0) := (box_facts y2 hb1).1; have z3 : w1.cell? ⟨w.heap.size + 1 + 1 + 1, 0, none⟩ = some (.slice Av acc.length cv) := (box_facts hv hb1).1; have g0 : w1.frozen? ⟨w.heap.size, 0, none⟩ = false := (box_facts y0 hb1).2; have g1 : w1.frozen? ⟨w.heap.size + 1, 0, none⟩ = false := (box_facts y1 hb1).2; have g2 : w1.frozen? ⟨w.heap.size + 1 + 1, 0, none⟩ = false := (box_facts y2 hb1).2)
      gi_region_o
      all_goals gi_wp2
      all_goals exact density_Parse.failed acc.length _ hB hb1 (by omega) y0 y1 y2
     rw [if_pos ⟨trivial, trivial, hs0, hs2⟩] at hy
     replace hy := Option.bind_eq_some_iff.mp hy
     obtain ⟨⟨n1, o1⟩, hn1, hy⟩ := hy
     replace hy := Option.bind_eq_some_iff.mp hy
     obtain ⟨⟨n3, o3⟩, hn3, hy⟩ := hy
     obtain ⟨i0, hi0, hz0, hzs, hzb⟩ := info_parts info30
     cases o1 with
     | false =>
      rw [if_neg (fun q => by cases q.1)] at hy
      cases hy
      cases q2
      gi_wp2_with (first | (refine ⟨trivial, ?_⟩; gi_at_call 45; refine (CallsIn.inRound l (callsIn_wide.2 (strings_Split.calls xs ⟨#[32]⟩ [s0, s1, s2, s3] W hGW hws))).mono ?_; rintro e w1 ⟨vw, rfl, hRw, hb1⟩; obtain ⟨gw, cw, rfl, hcw, k0, k1, k2, k3⟩ := split_row4 hRw rfl; have lw1 := block_lt_of_cell k3; have hGW1 := GI.below hGW hb1) | (refine ⟨trivial, ?_⟩; gi_at_call 46; refine (CallsIn.inRound l (callsIn_wide.2 (density_number.calls s1 n1 false w1 hGW1 hn1))).mono ?_; rintro e w2 ⟨rfl, hb2⟩; have k3' : w2.cell? ⟨gw, 3, none⟩ = some (.string s3) := (hb2.cell (p := ⟨gw, 3, none⟩) lw1).trans k3; have hGW2 := GI.below hGW1 hb2; clear hn1) | (refine ⟨trivial, ?_⟩; gi_at_call 46; refine (CallsIn.inRound l (callsIn_wide.2 (density_number.calls s3 n3 o3 w2 hGW2 hn3))).mono ?_; rintro e w3 ⟨rfl, hb3⟩; have hb13 := below_step (below_step hb1 hb2) hb3; have z0 : w3.cell? ⟨w.heap.size, 0, none⟩ = some (.slice none 0 0) := (box_facts y0 hb13).1; have z1 : w3.cell? ⟨w.heap.size + 1, 0, none⟩ = some (.int .i64 0) := (box_facts y1 hb13).1; have z2 : w3.cell? ⟨w.heap.size + 1 + 1, 0, none⟩ = some (.int .i64 0) := (box_facts y2 hb13).1; have z3 : w3.cell? ⟨w.heap.size + 1 + 1 + 1, 0, none⟩ = some (.slice Av acc.length cv) := (box_facts hv hb13).1; have g0 : w3.frozen? ⟨w.heap.size, 0, none⟩ = false := (box_facts y0 hb13).2; have g1 : w3.frozen? ⟨w.heap.size + 1, 0, none⟩ = false := (box_facts y1 hb13).2; have g2 : w3.frozen? ⟨w.heap.size + 1 + 1, 0, none⟩ = false := (box_facts y2 hb13).2))
      gi_region_o
      all_goals gi_wp2
      all_goals exact density_Parse.failed acc.length _ hB hb13 (by omega) y0 y1 y2
     | true =>
      cases o3 with
      | false =>
       rw [if_neg (fun q => by cases q.2)] at hy
       cases hy
       cases q2
       gi_wp2_with (first | (refine ⟨trivial, ?_⟩; gi_at_call 45; refine (CallsIn.inRound l (callsIn_wide.2 (strings_Split.calls xs ⟨#[32]⟩ [s0, s1, s2, s3] W hGW hws))).mono ?_; rintro e w1 ⟨vw, rfl, hRw, hb1⟩; obtain ⟨gw, cw, rfl, hcw, k0, k1, k2, k3⟩ := split_row4 hRw rfl; have lw1 := block_lt_of_cell k3; have hGW1 := GI.below hGW hb1) | (refine ⟨trivial, ?_⟩; gi_at_call 46; refine (CallsIn.inRound l (callsIn_wide.2 (density_number.calls s1 n1 true w1 hGW1 hn1))).mono ?_; rintro e w2 ⟨rfl, hb2⟩; have k3' : w2.cell? ⟨gw, 3, none⟩ = some (.string s3) := (hb2.cell (p := ⟨gw, 3, none⟩) lw1).trans k3; have hGW2 := GI.below hGW1 hb2; clear hn1) | (refine ⟨trivial, ?_⟩; gi_at_call 46; refine (CallsIn.inRound l (callsIn_wide.2 (density_number.calls s3 n3 false w2 hGW2 hn3))).mono ?_; rintro e w3 ⟨rfl, hb3⟩; have hb13 := below_step (below_step hb1 hb2) hb3; have z0 : w3.cell? ⟨w.heap.size, 0, none⟩ = some (.slice none 0 0) := (box_facts y0 hb13).1; have z1 : w3.cell? ⟨w.heap.size + 1, 0, none⟩ = some (.int .i64 0) := (box_facts y1 hb13).1; have z2 : w3.cell? ⟨w.heap.size + 1 + 1, 0, none⟩ = some (.int .i64 0) := (box_facts y2 hb13).1; have z3 : w3.cell? ⟨w.heap.size + 1 + 1 + 1, 0, none⟩ = some (.slice Av acc.length cv) := (box_facts hv hb13).1; have g0 : w3.frozen? ⟨w.heap.size, 0, none⟩ = false := (box_facts y0 hb13).2; have g1 : w3.frozen? ⟨w.heap.size + 1, 0, none⟩ = false := (box_facts y1 hb13).2; have g2 : w3.frozen? ⟨w.heap.size + 1 + 1, 0, none⟩ = false := (box_facts y2 hb13).2))
       gi_region_o
       all_goals gi_wp2
       all_goals exact density_Parse.failed acc.length _ hB hb13 (by omega) y0 y1 y2
      | true =>
       rw [if_pos ⟨rfl, rfl⟩] at hy
       cases hy
       gi_wp2_with (first | (refine ⟨trivial, ?_⟩; gi_at_call 45; refine (CallsIn.inRound l (callsIn_wide.2 (strings_Split.calls xs ⟨#[32]⟩ [s0, s1, s2, s3] W hGW hws))).mono ?_; rintro e w1 ⟨vw, rfl, hRw, hb1⟩; obtain ⟨gw, cw, rfl, hcw, k0, k1, k2, k3⟩ := split_row4 hRw rfl; have lw1 := block_lt_of_cell k3; have hGW1 := GI.below hGW hb1) | (refine ⟨trivial, ?_⟩; gi_at_call 46; refine (CallsIn.inRound l (callsIn_wide.2 (density_number.calls s1 n1 true w1 hGW1 hn1))).mono ?_; rintro e w2 ⟨rfl, hb2⟩; have k3' : w2.cell? ⟨gw, 3, none⟩ = some (.string s3) := (hb2.cell (p := ⟨gw, 3, none⟩) lw1).trans k3; have hGW2 := GI.below hGW1 hb2; clear hn1) | (refine ⟨trivial, ?_⟩; gi_at_call 46; refine (CallsIn.inRound l (callsIn_wide.2 (density_number.calls s3 n3 true w2 hGW2 hn3))).mono ?_; rintro e w3 ⟨rfl, hb3⟩; have hb13 := below_step (below_step hb1 hb2) hb3; have z0 : w3.cell? ⟨w.heap.size, 0, none⟩ = some (.slice none 0 0) := (box_facts y0 hb13).1; have z1 : w3.cell? ⟨w.heap.size + 1, 0, none⟩ = some (.int .i64 0) := (box_facts y1 hb13).1; have z2 : w3.cell? ⟨w.heap.size + 1 + 1, 0, none⟩ = some (.int .i64 0) := (box_facts y2 hb13).1; have z3 : w3.cell? ⟨w.heap.size + 1 + 1 + 1, 0, none⟩ = some (.slice Av acc.length cv) := (box_facts hv hb13).1; have g0 : w3.frozen? ⟨w.heap.size, 0, none⟩ = false := (box_facts y0 hb13).2; have g1 : w3.frozen? ⟨w.heap.size + 1, 0, none⟩ = false := (box_facts y1 hb13).2; have g2 : w3.frozen? ⟨w.heap.size + 1 + 1, 0, none⟩ = false := (box_facts y2 hb13).2) | (gi_at_builtin; refine wpListIn_append_own _ rfl _ _ 22 rfl (w.heap.size + 5) 30 i0 (.agg #[(.int .i64 0), (.int .i64 0)]) 2 16 Tryd.underlying22 hi0 hz0 hzs hzb rfl (by decide) _ _ _ rfl (own_alloc (pw_own_below ho hb13) _) ⟨w3.heap.size, 0, none⟩ 1 1 [.int .i64 n1, .int .i64 n3] rfl rfl (two_cells _ _ _ _) (by simp [Value.oneCell']) (by unfold maxLen; omega) (by omega) (by have := hb13.size; rw [World.size_alloc]; omega) ?_; intro v' w4 hown' hgrow _; obtain ⟨g', cap', rfl⟩ := ownsRow_succ hown'; have hc4 : w4.cell? ⟨w.heap.size + 1 + 1 + 1, 0, none⟩ = some (.slice Av acc.length cv) := (box_grown hv hb13 (by decide) (pw_own_below ho hb13) hgrow).cell; have hf4 : w4.frozen? ⟨w.heap.size + 1 + 1 + 1, 0, none⟩ = false := (box_grown hv hb13 (by decide) (pw_own_below ho hb13) hgrow).frozen))
       exact density_Parse.went hsz (by rw [q1, List.append_assoc]; rfl) q2 hB hb13 hv ho (by omega) y0 y1 y2 hown' hgrow
  case done =>
   rintro W ⟨acc, v, rest, q1, q2, hv, ho, ⟨y0, y1, y2⟩, hB, hW5⟩ hD
   have hrest : rest = [] := by simpa using q1
   subst hrest
   unfold density_Parse.rows at q2
   replace q2 := Option.bind_eq_some_iff.mp q2
   obtain ⟨⟨d1, d2⟩, hck, q2⟩ := q2
   obtain ⟨Av, cv, hse, hle, hC⟩ := Kd.R_reads (own_R30 ho)
   subst hse
   have hc : W.cell? ⟨w.heap.size + 1 + 1 + 1, 0, none⟩ = some (.slice Av acc.length cv) := hv.cell
   have hDs : w.heap.size + 5 ≤ W0.heap.size := by omega
   by_cases hd : d2 = 0
   ·
    rw [if_pos hd] at q2
    cases q2
    subst hd
    gi_wp2_with (refine ⟨trivial, ?_⟩; gi_at_call 12; refine (callsIn_wide.2 (density_Check.calls k Av cv r1 d1 0 W hC hle hck)).mono ?_; rintro e w1 ⟨rfl, hb1⟩; have z0 : w1.cell? ⟨w.heap.size, 0, none⟩ = some (.slice none 0 0) := (box_facts y0 hb1).1; have z1 : w1.cell? ⟨w.heap.size + 1, 0, none⟩ = some (.int .i64 0) := (box_facts y1 hb1).1; have z2 : w1.cell? ⟨w.heap.size + 1 + 1, 0, none⟩ = some (.int .i64 0) := (box_facts y2 hb1).1; have z3 : w1.cell? ⟨w.heap.size + 1 + 1 + 1, 0, none⟩ = some (.slice Av r1.length cv) := (box_facts hv hb1).1; have g0 : w1.frozen? ⟨w.heap.size, 0, none⟩ = false := (box_facts y0 hb1).2; have g1 : w1.frozen? ⟨w.heap.size + 1, 0, none⟩ = false := (box_facts y1 hb1).2; have g2 : w1.frozen? ⟨w.heap.size + 1 + 1, 0, none⟩ = false := (box_facts y2 hb1).2)
    have hDD : W0.heap.size = w.heap.size + 1 + 1 + 1 + 1 + 1 := by omega
    rw [hDD] at hD hDs
    obtain ⟨hK, b0, b1, b2, hB', hrow⟩ := density_Parse.stored (.slice Av r1.length cv) (.int .i64 (-1)) (.int .i64 0) hD hb1 hDs y0 y1 y2 hB ho
    exact density_Parse.leave hK hDs b0 b1 b2 hB' hrow rfl rfl rfl
   ·
    rw [if_neg hd] at q2
    cases q2
    have hdd : ¬ (d2 = 0) := hd
    gi_wp2_with (refine ⟨trivial, ?_⟩; gi_at_call 12; refine (callsIn_wide.2 (density_Check.calls k Av cv acc d1 d2 W hC hle hck)).mono ?_; rintro e w1 ⟨rfl, hb1⟩; have z0 : w1.cell? ⟨w.heap.size, 0, none⟩ = some (.slice none 0 0) := (box_facts y0 hb1).1; have z1 : w1.cell? ⟨w.heap.size + 1, 0, none⟩ = some (.int .i64 0) := (box_facts y1 hb1).1; have z2 : w1.cell? ⟨w.heap.size + 1 + 1, 0, none⟩ = some (.int .i64 0) := (box_facts y2 hb1).1; have z3 : w1.cell? ⟨w.heap.size + 1 + 1 + 1, 0, none⟩ = some (.slice Av acc.length cv) := (box_facts hv hb1).1; have g0 : w1.frozen? ⟨w.heap.size, 0, none⟩ = false := (box_facts y0 hb1).2; have g1 : w1.frozen? ⟨w.heap.size + 1, 0, none⟩ = false := (box_facts y1 hb1).2; have g2 : w1.frozen? ⟨w.heap.size + 1 + 1, 0, none⟩ = false := (box_facts y2 hb1).2)
    have hDD : W0.heap.size = w.heap.size + 1 + 1 + 1 + 1 + 1 := by omega
    rw [hDD] at hD hDs
    obtain ⟨hK, b0, b1, b2, hB', hrow⟩ := density_Parse.stored (.slice none 0 0) (.int .i64 (-1)) (.int .i64 d2) hD hb1 hDs y0 y1 y2 hB (World.ownsRow_nil _ _ _ _ : W.ownsRow (w.heap.size + 5) 30 2 (.slice none 0 0) 0 [])
    exact density_Parse.leave (xs := []) hK hDs b0 b1 b2 hB' hrow rfl rfl rfl
  case stop =>
   rintro pre W _ ⟨hr1, ⟨y0, y1, y2⟩, hB⟩ hD
   dsimp only at hr1 y1 y2
   subst hr1
   gi_wp2
   exact density_Parse.leave hD (by omega) y0 y1 y2 hB (World.ownsRow_nil _ _ _ _) rfl rfl rfl
end
def spileref16_Lines.l0 : Nat → ByteArray → List ByteArray → Int → Int → Option (List ByteArray × Bool)
 | 0, _, _, _, _ => none
 | k + 1, x0, x4, x5, x6 => if x6 < (x0.size : Int) then (if 0 ≤ x6 then (if (bt x0 x6) = 10 then (if 0 ≤ x5 then (if x5 ≤ x6 then (if x6 ≤ (x0.size : Int) then (if x4.length < 8796093022208 then (spileref16_Lines.l0 k x0 (x4 ++ [x0.extract (x5 : Int).toNat (x6 : Int).toNat]) (wrap64 (x6 + 1)) (wrap64 (x6 + 1))) else (none)) else (none)) else (none)) else (none)) else (spileref16_Lines.l0 k x0 x4 x5 (wrap64 (x6 + 1)))) else (none)) else (if x5 < (x0.size : Int) then (if 0 ≤ x5 then (if x5 ≤ (x0.size : Int) then (if x4.length < 8796093022208 then (some ((x4 ++ [x0.extract (x5 : Int).toNat x0.size]), false)) else (none)) else (none)) else (none)) else (some (x4, true)))
def spileref16_Lines.f (k : Nat) (a0 : ByteArray) : Option (List ByteArray × Bool) := spileref16_Lines.l0 k a0 (([] : List ByteArray)) 0 0
set_option maxHeartbeats 8000000 in
set_option maxRecDepth 100000 in
theorem spileref16_Lines.calls (k : Nat) (a0 : ByteArray) (r1 : List ByteArray) (r2 : Bool) (w : World) (h : spileref16_Lines.f k a0 = some (r1, r2)) :
  Calls Tryd.prog 47 #[.string a0] w fun e w' => ∃ v0_ : Value, e = .returned (.tuple #[v0_, .bool r2]) ∧ Kd.R Kd.string 9 w' w.heap.size (fun _ => True) v0_ r1 ∧ Below w.heap.size w w' := by
 have HB := Aside0.mk (Below.refl w.heap.size w)
 have H : (spileref16_Lines.l0 k a0 (([] : List ByteArray)) 0 0) = some (r1, r2) := h
 clear h
 obtain ⟨y335, hy335⟩ : ∃ y_ : List ByteArray, y_ = (([] : List ByteArray)) := ⟨_, rfl⟩
 replace H : (spileref16_Lines.l0 k a0 y335 0 0) = some (r1, r2) := by first | (rw [hy335]; with_reducible exact H) | (have H2_ := (Option.bind_some _ _).symm.trans H; rw [hy335]; with_reducible exact H2_) | (have H2_ := (Option.bind_some _ _).symm.trans H; with_reducible exact H2_) | with_reducible exact H | (rw [hy335]; exact H) | exact H
 have Ny335 := Aside0.mk hy335
 clear hy335
 have H' := Aside0.mk H
 clear H
 go_enter Tryd.func47, Tryd.ntmps47
 go_wp2_with (first | ((with_reducible refine gate_dst (N := 7) rfl ?_); refine Kd.R_lit Kd.string _ 9 ?hg (N := 7) ?hd (xs := ([] : List ByteArray)) (inner := []) (ok := fun _ => True) (okp := fun _ => True) ?hr ?hp (fun _ hk => hk) trivial (Below.refl _ _) (Nat.le_refl _) (by simp) ?_; (case hd => rfl); (case hg => rfl); (case hr => first | (go_simp; done) | (go_simp; rfl)); (case hp => exact (Reps.none _ _)); intro v336 w2 ho3 hb hg_ hnew_; clear hg_ hnew_; (first | rw [← Ny335.out] at ho3 | (simp only [Int.reduceToNat] at ho3; rw [← Ny335.out] at ho3)); have n0_ := Aside0.mk (Kd.R_lower ho3 (below_size (by repeat (first | (with_reducible first | exact HB.out | apply below_alloc | apply pw_below_drewN | apply below_drew1) | exact HB.out)))); have n1_ := Aside0.mk (below_step (by repeat (first | (with_reducible first | exact HB.out | apply below_alloc | apply pw_below_drewN | apply below_drew1) | exact HB.out)) hb); clear HB; have HO337 := n0_; have HB := n1_; clear n0_ n1_; clear hb ho3))
 go_loopg [4, 5, 6] k (fun kq v4 v5 v6 w' => ∃ (x4_1 : List ByteArray) (x5_1 : Int) (x6_1 : Int), v5 = .int .i64 x5_1 ∧ v6 = .int .i64 x6_1 ∧ Aside0 (spileref16_Lines.l0 kq a0 x4_1 x5_1 x6_1 = some (r1, r2)) ∧ Aside0 (kq ≤ k) ∧ Aside0 (Kd.R Kd.string 9 w' w.heap.size (fun _ => True) v4 x4_1) ∧ Aside0 (Below w.heap.size w w'))
 case atStart => exact ⟨(y335), (0), (0), (by first | rfl | (simp; done) | (simp [*]; done)), (by first | rfl | (simp; done) | (simp [*]; done)), H', ⟨Nat.le_refl _⟩, ⟨by (with_reducible repeat (first | apply Kd.R_alloc | apply Kd.R_drewN | apply Kd.R_drew)); exact HO337.out⟩, ⟨by repeat (first | (with_reducible first | exact HB.out | apply below_alloc | apply pw_below_drewN | apply below_drew1) | exact HB.out)⟩⟩
 case round =>
  clear H'
  try clear p2
  obtain ⟨x4_1, x5_1, x6_1, rfl, rfl, HA, HK1, HO_4, HB⟩ := hrel
  cases gk with
  | zero => exact absurd HA.out (by simp [spileref16_Lines.l0])
  | succ k1 =>
   have H := HA.out
   clear HA
   simp only [spileref16_Lines.l0] at H
   by_cases c4 : x6_1 < (a0.size : Int)
   ·
    rw [if_pos c4] at H
    have c4b0 : decide (x6_1 < (a0.size : Int)) = true := decide_eq_true c4
    clear c4
    by_cases c5 : 0 ≤ x6_1
    ·
     rw [if_pos c5] at H
     have c5b0 : decide (0 ≤ x6_1) = true := decide_eq_true c5
     clear c5
     by_cases c7 : (bt a0 x6_1) = 10
     ·
      rw [if_pos c7] at H
      have c7b0 : ((bt a0 x6_1) == 10) = true := beq_iff_eq.mpr c7
      have c7b1 : ((bt a0 x6_1) != 10) = false := bne_eq_false_iff_eq.mpr c7
      clear c7
      by_cases c8 : 0 ≤ x5_1
      ·
       rw [if_pos c8] at H
       have c8b0 := eq_true c8
       have c8b1 : decide (0 ≤ x5_1) = true := decide_eq_true c8
       clear c8
       by_cases c9 : x5_1 ≤ x6_1
       ·
        rw [if_pos c9] at H
        have c9b0 := eq_true c9
        have c9b1 : decide (x5_1 ≤ x6_1) = true := decide_eq_true c9
        clear c9
        by_cases c10 : x6_1 ≤ (a0.size : Int)
        ·
         rw [if_pos c10] at H
         have c10b0 := eq_true c10
         have c10b1 : decide (x6_1 ≤ (a0.size : Int)) = true := decide_eq_true c10
         clear c10
         by_cases c11 : x4_1.length < 8796093022208
         ·
          rw [if_pos c11] at H
          have LMc11 := Aside0.mk c11
          clear c11
          obtain ⟨y338, hy338⟩ : ∃ y_ : List ByteArray, y_ = (x4_1 ++ [a0.extract (x5_1 : Int).toNat (x6_1 : Int).toNat]) := ⟨_, rfl⟩
          replace H : (spileref16_Lines.l0 k1 a0 y338 (wrap64 (x6_1 + 1)) (wrap64 (x6_1 + 1))) = some (r1, r2) := by first | (rw [hy338]; with_reducible exact H) | (have H2_ := (Option.bind_some _ _).symm.trans H; rw [hy338]; with_reducible exact H2_) | (have H2_ := (Option.bind_some _ _).symm.trans H; with_reducible exact H2_) | with_reducible exact H | (rw [hy338]; exact H) | exact H
          have Ny338 := Aside0.mk hy338
          clear hy338
          have H' := Aside0.mk H
          clear H
          have p6 : 0 ≤ (x6_1 : Int) := of_decide_eq_true (by first | (with_reducible assumption) | assumption)
          have q6 : x6_1 < (a0.size : Int) := of_decide_eq_true (by first | (with_reducible assumption) | assumption)
          have hx6 := bt_at a0 x6_1
          replace p6 := eq_true p6
          replace q6 := eq_true q6
          go_wp2_with (first | ((with_reducible refine gate_builtin (b := .append) (xs := #[.tmp 18, .tmp 23]) rfl ?_); at_builtin; refine Kd.R_append Kd.string (w0 := w) w.heap.size rfl (.tmp 18) (.tmp 23) 66 9 (.string ⟨#[]⟩) 16 rfl Tryd.underlying66 info9 rfl (by decide) (by omega) u4 x4_1 (a0.extract (x5_1 : Int).toNat (x6_1 : Int).toNat) [.string (a0.extract (x5_1 : Int).toNat (x6_1 : Int).toNat)] (fun _ => True) (fun _ => False) rfl rfl ?aP (fun _ hk => hk.elim) ?aF ?aO ?aB ?aS ?aL ?_; (case aP => exact rfl); (case aB => exact (by repeat (first | (with_reducible first | exact HB.out | apply below_alloc | apply pw_below_drewN | apply below_drew1) | exact HB.out))); (case aF => exact (fun _ _ => trivial)); (case aO => exact (by (with_reducible repeat (first | apply Kd.R_alloc | apply Kd.R_drewN | apply Kd.R_drew)); exact HO_4.out)); (case aS => exact (below_size (by repeat (first | (with_reducible first | exact HB.out | apply below_alloc | apply pw_below_drewN | apply below_drew1) | exact HB.out)))); (case aL => have := LMc11.out; omega); intro v339 w12 ho hb hg hat; rw [← Ny338.out] at ho; have n0_ := Aside0.mk (hb); have n1_ := Aside0.mk (ho); clear HB; clear HO_4; have HB := n0_; have HO340 := n1_; clear n0_ n1_; clear ho hb hg hat))
          go_roundg k1
          case measure => have := HK1.out; omega
          case rel => exact ⟨(y338), (wrap64 (x6_1 + 1)), (wrap64 (x6_1 + 1)), (by first | rfl | (simp; done) | (simp [*]; done)), (by first | rfl | (simp; done) | (simp [*]; done)), H', ⟨by have := HK1.out; omega⟩, ⟨by (with_reducible repeat (first | apply Kd.R_alloc | apply Kd.R_drewN | apply Kd.R_drew)); exact HO340.out⟩, ⟨by repeat (first | (with_reducible first | exact HB.out | apply below_alloc | apply pw_below_drewN | apply below_drew1) | exact HB.out)⟩⟩
         ·
          rw [if_neg c11] at H
          exact absurd H (by simp)
        ·
         rw [if_neg c10] at H
         exact absurd H (by simp)
       ·
        rw [if_neg c9] at H
        exact absurd H (by simp)
      ·
       rw [if_neg c8] at H
       exact absurd H (by simp)
     ·
      rw [if_neg c7] at H
      have c7b0 : ((bt a0 x6_1) == 10) = false := beq_eq_false_iff_ne.mpr c7
      have c7b1 : ((bt a0 x6_1) != 10) = true := bne_iff_ne.mpr c7
      have H' := Aside0.mk H
      clear H
      have p6 : 0 ≤ (x6_1 : Int) := of_decide_eq_true (by first | (with_reducible assumption) | assumption)
      have q6 : x6_1 < (a0.size : Int) := of_decide_eq_true (by first | (with_reducible assumption) | assumption)
      have hx6 := bt_at a0 x6_1
      replace p6 := eq_true p6
      replace q6 := eq_true q6
      go_wp2
      go_roundg k1
      case measure => have := HK1.out; omega
      case rel => exact ⟨(x4_1), (x5_1), (wrap64 (x6_1 + 1)), (by first | rfl | (simp; done) | (simp [*]; done)), (by first | rfl | (simp; done) | (simp [*]; done)), H', ⟨by have := HK1.out; omega⟩, ⟨by (with_reducible repeat (first | apply Kd.R_alloc | apply Kd.R_drewN | apply Kd.R_drew)); exact HO_4.out⟩, ⟨by repeat (first | (with_reducible first | exact HB.out | apply below_alloc | apply pw_below_drewN | apply below_drew1) | exact HB.out)⟩⟩
    ·
     rw [if_neg c5] at H
     exact absurd H (by simp)
   ·
    rw [if_neg c4] at H
    have c4b0 : decide (x6_1 < (a0.size : Int)) = false := decide_eq_false c4
    clear c4
    by_cases c13 : x5_1 < (a0.size : Int)
    ·
     rw [if_pos c13] at H
     have c13b0 : decide (x5_1 < (a0.size : Int)) = true := decide_eq_true c13
     clear c13
     by_cases c14 : 0 ≤ x5_1
     ·
      rw [if_pos c14] at H
      have c14b0 := eq_true c14
      have c14b1 : decide (0 ≤ x5_1) = true := decide_eq_true c14
      clear c14
      by_cases c15 : x5_1 ≤ (a0.size : Int)
      ·
       rw [if_pos c15] at H
       have c15b0 := eq_true c15
       have c15b1 : decide (x5_1 ≤ (a0.size : Int)) = true := decide_eq_true c15
       clear c15
       by_cases c16 : x4_1.length < 8796093022208
       ·
        rw [if_pos c16] at H
        have LMc16 := Aside0.mk c16
        clear c16
        obtain ⟨y341, hy341⟩ : ∃ y_ : List ByteArray, y_ = (x4_1 ++ [a0.extract (x5_1 : Int).toNat a0.size]) := ⟨_, rfl⟩
        replace H : (some (y341, false)) = some (r1, r2) := by first | (rw [hy341]; with_reducible exact H) | (have H2_ := (Option.bind_some _ _).symm.trans H; rw [hy341]; with_reducible exact H2_) | (have H2_ := (Option.bind_some _ _).symm.trans H; with_reducible exact H2_) | with_reducible exact H | (rw [hy341]; exact H) | exact H
        have Ny341 := Aside0.mk hy341
        clear hy341
        simp only [Option.some.injEq, Prod.mk.injEq] at H
        obtain ⟨rfl, rfl⟩ := H
        go_wp2_with (first | ((with_reducible refine gate_builtin (b := .append) (xs := #[.tmp 31, .tmp 35]) rfl ?_); at_builtin; refine Kd.R_append Kd.string (w0 := w) w.heap.size rfl (.tmp 31) (.tmp 35) 66 9 (.string ⟨#[]⟩) 16 rfl Tryd.underlying66 info9 rfl (by decide) (by omega) u4 x4_1 (a0.extract (x5_1 : Int).toNat a0.size) [.string (a0.extract (x5_1 : Int).toNat a0.size)] (fun _ => True) (fun _ => False) rfl rfl ?aP (fun _ hk => hk.elim) ?aF ?aO ?aB ?aS ?aL ?_; (case aP => exact rfl); (case aB => exact (by repeat (first | (with_reducible first | exact HB.out | apply below_alloc | apply pw_below_drewN | apply below_drew1) | exact HB.out))); (case aF => exact (fun _ _ => trivial)); (case aO => exact (by (with_reducible repeat (first | apply Kd.R_alloc | apply Kd.R_drewN | apply Kd.R_drew)); exact HO_4.out)); (case aS => exact (below_size (by repeat (first | (with_reducible first | exact HB.out | apply below_alloc | apply pw_below_drewN | apply below_drew1) | exact HB.out)))); (case aL => have := LMc16.out; omega); intro v342 w17 ho hb hg hat; rw [← Ny341.out] at ho; have n0_ := Aside0.mk (hb); have n1_ := Aside0.mk (ho); clear HB; clear HO_4; have HB := n0_; have HO343 := n1_; clear n0_ n1_; clear ho hb hg hat))
        go_ret2
        exact ⟨_, by first | rfl | (simp [errW_none, errW_some] <;> rfl) | (simp [*, errW_none, errW_some] <;> rfl), by (with_reducible repeat (first | apply Kd.R_alloc | apply Kd.R_drewN | apply Kd.R_drew)); exact HO343.out, by repeat (first | (with_reducible first | exact HB.out | apply below_alloc | apply pw_below_drewN | apply below_drew1) | exact HB.out)⟩
       ·
        rw [if_neg c16] at H
        exact absurd H (by simp)
      ·
       rw [if_neg c15] at H
       exact absurd H (by simp)
     ·
      rw [if_neg c14] at H
      exact absurd H (by simp)
    ·
     rw [if_neg c13] at H
     have c13b0 : decide (x5_1 < (a0.size : Int)) = false := decide_eq_false c13
     clear c13
     simp only [Option.some.injEq, Prod.mk.injEq] at H
     obtain ⟨rfl, rfl⟩ := H
     go_wp2
     go_ret2
     exact ⟨_, by first | rfl | (simp [errW_none, errW_some] <;> rfl) | (simp [*, errW_none, errW_some] <;> rfl), by (with_reducible repeat (first | apply Kd.R_alloc | apply Kd.R_drewN | apply Kd.R_drew)); exact HO_4.out, by repeat (first | (with_reducible first | exact HB.out | apply below_alloc | apply pw_below_drewN | apply below_drew1) | exact HB.out)⟩
def spileref16_Words.l0 : Nat → ByteArray → List ByteArray → Int → Int → Option (List ByteArray)
 | 0, _, _, _, _ => none
 | k + 1, x0, x3, x4, x5 => if x5 ≤ (x0.size : Int) then (if x5 = (x0.size : Int) then (if 0 ≤ x4 then (if x4 ≤ x5 then (if x3.length < 8796093022208 then (spileref16_Words.l0 k x0 (x3 ++ [x0.extract (x4 : Int).toNat (x5 : Int).toNat]) (wrap64 (x5 + 1)) (wrap64 (x5 + 1))) else (none)) else (none)) else (none)) else (if 0 ≤ x5 then (if x5 < (x0.size : Int) then (if (bt x0 x5) = 32 then (if 0 ≤ x4 then (if x4 ≤ x5 then (if x3.length < 8796093022208 then (spileref16_Words.l0 k x0 (x3 ++ [x0.extract (x4 : Int).toNat (x5 : Int).toNat]) (wrap64 (x5 + 1)) (wrap64 (x5 + 1))) else (none)) else (none)) else (none)) else (spileref16_Words.l0 k x0 x3 x4 (wrap64 (x5 + 1)))) else (none)) else (none))) else (some x3)
def spileref16_Words.f (k : Nat) (a0 : ByteArray) : Option (List ByteArray) := spileref16_Words.l0 k a0 (([] : List ByteArray)) 0 0
set_option maxHeartbeats 8000000 in
set_option maxRecDepth 100000 in
theorem spileref16_Words.calls (k : Nat) (a0 : ByteArray) (r : List ByteArray) (w : World) (h : spileref16_Words.f k a0 = some r) :
  Calls Tryd.prog 48 #[.string a0] w fun e w' => ∃ v0_ : Value, e = .returned (v0_) ∧ Kd.R Kd.string 9 w' w.heap.size (fun _ => True) v0_ r ∧ Below w.heap.size w w' := by
 have HB := Aside0.mk (Below.refl w.heap.size w)
 have H : (spileref16_Words.l0 k a0 (([] : List ByteArray)) 0 0) = some r := h
 clear h
 obtain ⟨y344, hy344⟩ : ∃ y_ : List ByteArray, y_ = (([] : List ByteArray)) := ⟨_, rfl⟩
 replace H : (spileref16_Words.l0 k a0 y344 0 0) = some r := by first | (rw [hy344]; with_reducible exact H) | (have H2_ := (Option.bind_some _ _).symm.trans H; rw [hy344]; with_reducible exact H2_) | (have H2_ := (Option.bind_some _ _).symm.trans H; with_reducible exact H2_) | with_reducible exact H | (rw [hy344]; exact H) | exact H
 have Ny344 := Aside0.mk hy344
 clear hy344
 have H' := Aside0.mk H
 clear H
 go_enter Tryd.func48, Tryd.ntmps48
 go_wp2_with (first | ((with_reducible refine gate_dst (N := 6) rfl ?_); refine Kd.R_lit Kd.string _ 9 ?hg (N := 6) ?hd (xs := ([] : List ByteArray)) (inner := []) (ok := fun _ => True) (okp := fun _ => True) ?hr ?hp (fun _ hk => hk) trivial (Below.refl _ _) (Nat.le_refl _) (by simp) ?_; (case hd => rfl); (case hg => rfl); (case hr => first | (go_simp; done) | (go_simp; rfl)); (case hp => exact (Reps.none _ _)); intro v345 w2 ho3 hb hg_ hnew_; clear hg_ hnew_; (first | rw [← Ny344.out] at ho3 | (simp only [Int.reduceToNat] at ho3; rw [← Ny344.out] at ho3)); have n0_ := Aside0.mk (Kd.R_lower ho3 (below_size (by repeat (first | (with_reducible first | exact HB.out | apply below_alloc | apply pw_below_drewN | apply below_drew1) | exact HB.out)))); have n1_ := Aside0.mk (below_step (by repeat (first | (with_reducible first | exact HB.out | apply below_alloc | apply pw_below_drewN | apply below_drew1) | exact HB.out)) hb); clear HB; have HO346 := n0_; have HB := n1_; clear n0_ n1_; clear hb ho3))
 go_loopg [3, 4, 5] k (fun kq v3 v4 v5 w' => ∃ (x3_1 : List ByteArray) (x4_1 : Int) (x5_1 : Int), v4 = .int .i64 x4_1 ∧ v5 = .int .i64 x5_1 ∧ Aside0 (spileref16_Words.l0 kq a0 x3_1 x4_1 x5_1 = some r) ∧ Aside0 (kq ≤ k) ∧ Aside0 (Kd.R Kd.string 9 w' w.heap.size (fun _ => True) v3 x3_1) ∧ Aside0 (Below w.heap.size w w'))
 case atStart => exact ⟨(y344), (0), (0), (by first | rfl | (simp; done) | (simp [*]; done)), (by first | rfl | (simp; done) | (simp [*]; done)), H', ⟨Nat.le_refl _⟩, ⟨by (with_reducible repeat (first | apply Kd.R_alloc | apply Kd.R_drewN | apply Kd.R_drew)); exact HO346.out⟩, ⟨by repeat (first | (with_reducible first | exact HB.out | apply below_alloc | apply pw_below_drewN | apply below_drew1) | exact HB.out)⟩⟩
 case round =>
  clear H'
  try clear p2
  obtain ⟨x3_1, x4_1, x5_1, rfl, rfl, HA, HK1, HO_3, HB⟩ := hrel
  cases gk with
  | zero => exact absurd HA.out (by simp [spileref16_Words.l0])
  | succ k1 =>
   have H := HA.out
   clear HA
   simp only [spileref16_Words.l0] at H
   by_cases c4 : x5_1 ≤ (a0.size : Int)
   ·
    rw [if_pos c4] at H
    have c4b0 : decide (x5_1 ≤ (a0.size : Int)) = true := decide_eq_true c4
    clear c4
    by_cases c5 : x5_1 = (a0.size : Int)
    ·
     rw [if_pos c5] at H
     have c5b0 : (x5_1 == (a0.size : Int)) = true := beq_iff_eq.mpr c5
     have c5b1 : (x5_1 != (a0.size : Int)) = false := bne_eq_false_iff_eq.mpr c5
     clear c5
     by_cases c6 : 0 ≤ x4_1
     ·
      rw [if_pos c6] at H
      have c6b0 := eq_true c6
      have c6b1 : decide (0 ≤ x4_1) = true := decide_eq_true c6
      clear c6
      by_cases c7 : x4_1 ≤ x5_1
      ·
       rw [if_pos c7] at H
       have c7b0 := eq_true c7
       have c7b1 : decide (x4_1 ≤ x5_1) = true := decide_eq_true c7
       clear c7
       have c8b0 := eq_true (of_decide_eq_true (by first | (with_reducible assumption) | assumption) : x5_1 ≤ (a0.size : Int))
       by_cases c9 : x3_1.length < 8796093022208
       ·
        rw [if_pos c9] at H
        have LMc9 := Aside0.mk c9
        clear c9
        obtain ⟨y347, hy347⟩ : ∃ y_ : List ByteArray, y_ = (x3_1 ++ [a0.extract (x4_1 : Int).toNat (x5_1 : Int).toNat]) := ⟨_, rfl⟩
        replace H : (spileref16_Words.l0 k1 a0 y347 (wrap64 (x5_1 + 1)) (wrap64 (x5_1 + 1))) = some r := by first | (rw [hy347]; with_reducible exact H) | (have H2_ := (Option.bind_some _ _).symm.trans H; rw [hy347]; with_reducible exact H2_) | (have H2_ := (Option.bind_some _ _).symm.trans H; with_reducible exact H2_) | with_reducible exact H | (rw [hy347]; exact H) | exact H
        have Ny347 := Aside0.mk hy347
        clear hy347
        have H' := Aside0.mk H
        clear H
        go_wp2_with (first | ((with_reducible refine gate_builtin (b := .append) (xs := #[.tmp 23, .tmp 28]) rfl ?_); at_builtin; refine Kd.R_append Kd.string (w0 := w) w.heap.size rfl (.tmp 23) (.tmp 28) 66 9 (.string ⟨#[]⟩) 16 rfl Tryd.underlying66 info9 rfl (by decide) (by omega) u3 x3_1 (a0.extract (x4_1 : Int).toNat (x5_1 : Int).toNat) [.string (a0.extract (x4_1 : Int).toNat (x5_1 : Int).toNat)] (fun _ => True) (fun _ => False) rfl rfl ?aP (fun _ hk => hk.elim) ?aF ?aO ?aB ?aS ?aL ?_; (case aP => exact rfl); (case aB => exact (by repeat (first | (with_reducible first | exact HB.out | apply below_alloc | apply pw_below_drewN | apply below_drew1) | exact HB.out))); (case aF => exact (fun _ _ => trivial)); (case aO => exact (by (with_reducible repeat (first | apply Kd.R_alloc | apply Kd.R_drewN | apply Kd.R_drew)); exact HO_3.out)); (case aS => exact (below_size (by repeat (first | (with_reducible first | exact HB.out | apply below_alloc | apply pw_below_drewN | apply below_drew1) | exact HB.out)))); (case aL => have := LMc9.out; omega); intro v348 w10 ho hb hg hat; rw [← Ny347.out] at ho; have n0_ := Aside0.mk (hb); have n1_ := Aside0.mk (ho); clear HB; clear HO_3; have HB := n0_; have HO349 := n1_; clear n0_ n1_; clear ho hb hg hat))
        go_roundg k1
        case measure => have := HK1.out; omega
        case rel => exact ⟨(y347), (wrap64 (x5_1 + 1)), (wrap64 (x5_1 + 1)), (by first | rfl | (simp; done) | (simp [*]; done)), (by first | rfl | (simp; done) | (simp [*]; done)), H', ⟨by have := HK1.out; omega⟩, ⟨by (with_reducible repeat (first | apply Kd.R_alloc | apply Kd.R_drewN | apply Kd.R_drew)); exact HO349.out⟩, ⟨by repeat (first | (with_reducible first | exact HB.out | apply below_alloc | apply pw_below_drewN | apply below_drew1) | exact HB.out)⟩⟩
       ·
        rw [if_neg c9] at H
        exact absurd H (by simp)
      ·
       rw [if_neg c7] at H
       exact absurd H (by simp)
     ·
      rw [if_neg c6] at H
      exact absurd H (by simp)
    ·
     rw [if_neg c5] at H
     have c5b0 : (x5_1 == (a0.size : Int)) = false := beq_eq_false_iff_ne.mpr c5
     have c5b1 : (x5_1 != (a0.size : Int)) = true := bne_iff_ne.mpr c5
     by_cases c11 : 0 ≤ x5_1
     ·
      rw [if_pos c11] at H
      have c11b0 : decide (0 ≤ x5_1) = true := decide_eq_true c11
      clear c11
      by_cases c12 : x5_1 < (a0.size : Int)
      ·
       rw [if_pos c12] at H
       have c12b0 : decide (x5_1 < (a0.size : Int)) = true := decide_eq_true c12
       clear c12
       by_cases c14 : (bt a0 x5_1) = 32
       ·
        rw [if_pos c14] at H
        have c14b0 : ((bt a0 x5_1) == 32) = true := beq_iff_eq.mpr c14
        have c14b1 : ((bt a0 x5_1) != 32) = false := bne_eq_false_iff_eq.mpr c14
        clear c14
        by_cases c15 : 0 ≤ x4_1
        ·
         rw [if_pos c15] at H
         have c15b0 := eq_true c15
         have c15b1 : decide (0 ≤ x4_1) = true := decide_eq_true c15
         clear c15
         by_cases c16 : x4_1 ≤ x5_1
         ·
          rw [if_pos c16] at H
          have c16b0 := eq_true c16
          have c16b1 : decide (x4_1 ≤ x5_1) = true := decide_eq_true c16
          clear c16
          have c17b0 := eq_true (of_decide_eq_true (by first | (with_reducible assumption) | assumption) : x5_1 ≤ (a0.size : Int))
          by_cases c18 : x3_1.length < 8796093022208
          ·
           rw [if_pos c18] at H
           have LMc18 := Aside0.mk c18
           clear c18
           obtain ⟨y350, hy350⟩ : ∃ y_ : List ByteArray, y_ = (x3_1 ++ [a0.extract (x4_1 : Int).toNat (x5_1 : Int).toNat]) := ⟨_, rfl⟩
           replace H : (spileref16_Words.l0 k1 a0 y350 (wrap64 (x5_1 + 1)) (wrap64 (x5_1 + 1))) = some r := by first | (rw [hy350]; with_reducible exact H) | (have H2_ := (Option.bind_some _ _).symm.trans H; rw [hy350]; with_reducible exact H2_) | (have H2_ := (Option.bind_some _ _).symm.trans H; with_reducible exact H2_) | with_reducible exact H | (rw [hy350]; exact H) | exact H
           have Ny350 := Aside0.mk hy350
           clear hy350
           have H' := Aside0.mk H
           clear H
           have p13 : 0 ≤ (x5_1 : Int) := of_decide_eq_true (by first | (with_reducible assumption) | assumption)
           have q13 : x5_1 < (a0.size : Int) := of_decide_eq_true (by first | (with_reducible assumption) | assumption)
           have hx13 := bt_at a0 x5_1
           replace p13 := eq_true p13
           replace q13 := eq_true q13
           go_wp2_with (first | ((with_reducible refine gate_builtin (b := .append) (xs := #[.tmp 23, .tmp 28]) rfl ?_); at_builtin; refine Kd.R_append Kd.string (w0 := w) w.heap.size rfl (.tmp 23) (.tmp 28) 66 9 (.string ⟨#[]⟩) 16 rfl Tryd.underlying66 info9 rfl (by decide) (by omega) u3 x3_1 (a0.extract (x4_1 : Int).toNat (x5_1 : Int).toNat) [.string (a0.extract (x4_1 : Int).toNat (x5_1 : Int).toNat)] (fun _ => True) (fun _ => False) rfl rfl ?aP (fun _ hk => hk.elim) ?aF ?aO ?aB ?aS ?aL ?_; (case aP => exact rfl); (case aB => exact (by repeat (first | (with_reducible first | exact HB.out | apply below_alloc | apply pw_below_drewN | apply below_drew1) | exact HB.out))); (case aF => exact (fun _ _ => trivial)); (case aO => exact (by (with_reducible repeat (first | apply Kd.R_alloc | apply Kd.R_drewN | apply Kd.R_drew)); exact HO_3.out)); (case aS => exact (below_size (by repeat (first | (with_reducible first | exact HB.out | apply below_alloc | apply pw_below_drewN | apply below_drew1) | exact HB.out)))); (case aL => have := LMc18.out; omega); intro v351 w19 ho hb hg hat; rw [← Ny350.out] at ho; have n0_ := Aside0.mk (hb); have n1_ := Aside0.mk (ho); clear HB; clear HO_3; have HB := n0_; have HO352 := n1_; clear n0_ n1_; clear ho hb hg hat))
           go_roundg k1
           case measure => have := HK1.out; omega
           case rel => exact ⟨(y350), (wrap64 (x5_1 + 1)), (wrap64 (x5_1 + 1)), (by first | rfl | (simp; done) | (simp [*]; done)), (by first | rfl | (simp; done) | (simp [*]; done)), H', ⟨by have := HK1.out; omega⟩, ⟨by (with_reducible repeat (first | apply Kd.R_alloc | apply Kd.R_drewN | apply Kd.R_drew)); exact HO352.out⟩, ⟨by repeat (first | (with_reducible first | exact HB.out | apply below_alloc | apply pw_below_drewN | apply below_drew1) | exact HB.out)⟩⟩
          ·
           rw [if_neg c18] at H
           exact absurd H (by simp)
         ·
          rw [if_neg c16] at H
          exact absurd H (by simp)
        ·
         rw [if_neg c15] at H
         exact absurd H (by simp)
       ·
        rw [if_neg c14] at H
        have c14b0 : ((bt a0 x5_1) == 32) = false := beq_eq_false_iff_ne.mpr c14
        have c14b1 : ((bt a0 x5_1) != 32) = true := bne_iff_ne.mpr c14
        have H' := Aside0.mk H
        clear H
        have p13 : 0 ≤ (x5_1 : Int) := of_decide_eq_true (by first | (with_reducible assumption) | assumption)
        have q13 : x5_1 < (a0.size : Int) := of_decide_eq_true (by first | (with_reducible assumption) | assumption)
        have hx13 := bt_at a0 x5_1
        replace p13 := eq_true p13
        replace q13 := eq_true q13
        go_wp2
        go_roundg k1
        case measure => have := HK1.out; omega
        case rel => exact ⟨(x3_1), (x4_1), (wrap64 (x5_1 + 1)), (by first | rfl | (simp; done) | (simp [*]; done)), (by first | rfl | (simp; done) | (simp [*]; done)), H', ⟨by have := HK1.out; omega⟩, ⟨by (with_reducible repeat (first | apply Kd.R_alloc | apply Kd.R_drewN | apply Kd.R_drew)); exact HO_3.out⟩, ⟨by repeat (first | (with_reducible first | exact HB.out | apply below_alloc | apply pw_below_drewN | apply below_drew1) | exact HB.out)⟩⟩
      ·
       rw [if_neg c12] at H
       exact absurd H (by simp)
     ·
      rw [if_neg c11] at H
      exact absurd H (by simp)
   ·
    rw [if_neg c4] at H
    have c4b0 : decide (x5_1 ≤ (a0.size : Int)) = false := decide_eq_false c4
    clear c4
    obtain rfl := Option.some.inj H
    go_wp2
    go_ret
    exact ⟨_, by first | rfl | (simp [errW_none, errW_some] <;> rfl) | (simp [*, errW_none, errW_some] <;> rfl), by (with_reducible repeat (first | apply Kd.R_alloc | apply Kd.R_drewN | apply Kd.R_drew)); exact HO_3.out, by repeat (first | (with_reducible first | exact HB.out | apply below_alloc | apply pw_below_drewN | apply below_drew1) | exact HB.out)⟩
end Go.Proofs.YtoofoicocfnfoaaDoor.Pr
namespace Go.Proofs.YtoofoicocfnfoaaDoor.Pr
open Go.RowKit Go.Proofs.YtoofoicocfnfoaaDoorW.PrintWords Go.Proofs.YtoofoicocfnfoaaDoorW.PrintLast Go.Proofs.YtoofoicocfnfoaaDoorW.PrintMore Go.Proofs.YtoofoicocfnfoaaDoor.X
attribute [local go_sem] max2_int min2_int max_two min_two max_three min_three max_four min_four   -- for this text's walks alone
set_option linter.unusedVariables false
set_option linter.unusedSimpArgs false
mutual
def spileref16_Number.j0 : Nat → ByteArray → Bool → Option (Int × Bool)
 | 0, _, _ => none
 | k + 1, x0, x26 => if x26 = true then (some (0, false)) else (spileref16_Number.l0 k x0 0 0)
def spileref16_Number.l0 : Nat → ByteArray → Int → Int → Option (Int × Bool)
 | 0, _, _, _ => none
 | k + 1, x0, x6, x7 => if x7 < (x0.size : Int) then (if 0 ≤ x7 then (if (bt x0 x7) < 48 then (some (0, false)) else (if (bt x0 x7) > 57 then (some (0, false)) else (spileref16_Number.l0 k x0 (wrap64 ((wrap64 (10 * x6)) + (((bt x0 x7) - 48) % 256))) (wrap64 (x7 + 1))))) else (none)) else (some (x6, true))
end
def spileref16_Number.f (k : Nat) (a0 : ByteArray) (a1 : Int) : Option (Int × Bool) := if (a0.size : Int) < 1 then (spileref16_Number.j0 k a0 true) else (if (a0.size : Int) > a1 then (spileref16_Number.j0 k a0 true) else (if (a0.size : Int) > 1 then (if 0 < (a0.size : Int) then (spileref16_Number.j0 k a0 ((bt a0 0) == 48)) else (none)) else (spileref16_Number.j0 k a0 false)))
set_option maxHeartbeats 8000000 in
set_option maxRecDepth 100000 in
theorem spileref16_Number.calls (k : Nat) (a0 : ByteArray) (a1 : Int) (r1 : Int) (r2 : Bool) (w : World) (h : spileref16_Number.f k a0 a1 = some (r1, r2)) :
  Calls Tryd.prog 49 #[.string a0, .int .i64 a1] w fun e w' => e = .returned (.tuple #[.int .i64 r1, .bool r2]) ∧ Drawn0 w w' := by
 have H : (if (a0.size : Int) < 1 then (spileref16_Number.j0 k a0 true) else (if (a0.size : Int) > a1 then (spileref16_Number.j0 k a0 true) else (if (a0.size : Int) > 1 then (if 0 < (a0.size : Int) then (spileref16_Number.j0 k a0 ((bt a0 0) == 48)) else (none)) else (spileref16_Number.j0 k a0 false)))) = some (r1, r2) := h
 clear h
 have HC3 := Aside0.mk H
 clear H
 go_enter Tryd.func49, Tryd.ntmps49
 go_upto_region 1 with (fail)
 go_cut [26] (fun v26 wc => ∃ (kq : Nat) (x26_2 : Bool), v26 = .bool x26_2 ∧ Aside0 (spileref16_Number.j0 kq a0 x26_2 = some (r1, r2)) ∧ Aside0 (kq ≤ k) ∧ Drawn0 w wc)
 case first =>
  have H := HC3.out
  clear HC3
  by_cases c4 : (a0.size : Int) < 1
  ·
   rw [if_pos c4] at H
   have c4b0 : decide ((a0.size : Int) < 1) = true := decide_eq_true c4
   have c4b1 : decide (a0.size < 1) = true := decide_eq_true (by omega)
   clear c4
   (first | rw [c4b0] | (simp only [i64_w, i32_w]; rw [c4b0]) | skip)
   have H' := Aside0.mk H
   clear H
   go_wp2
   go_meet
   case rel => exact ⟨_, (true), (by first | rfl | (simp; done) | (simp [*]; done)), H', ⟨by first | omega | exact Nat.le_refl _⟩, by repeat (first | exact Drawn0.refl _ | apply Drawn0.step)⟩
  ·
   rw [if_neg c4] at H
   have c4b0 : decide ((a0.size : Int) < 1) = false := decide_eq_false c4
   have c4b1 : decide (a0.size < 1) = false := decide_eq_false (by omega)
   clear c4
   (first | rw [c4b0] | (simp only [i64_w, i32_w]; rw [c4b0]) | skip)
   by_cases c5 : (a0.size : Int) > a1
   ·
    rw [if_pos c5] at H
    have c5b0 : decide (a1 < (a0.size : Int)) = true := decide_eq_true c5
    clear c5
    have H' := Aside0.mk H
    clear H
    go_wp2
    go_meet
    case rel => exact ⟨_, (true), (by first | rfl | (simp; done) | (simp [*]; done)), H', ⟨by first | omega | exact Nat.le_refl _⟩, by repeat (first | exact Drawn0.refl _ | apply Drawn0.step)⟩
   ·
    rw [if_neg c5] at H
    have c5b0 : decide (a1 < (a0.size : Int)) = false := decide_eq_false c5
    clear c5
    by_cases c6 : (a0.size : Int) > 1
    ·
     rw [if_pos c6] at H
     have c6b0 : decide (1 < (a0.size : Int)) = true := decide_eq_true c6
     have c6b1 : decide (1 < a0.size) = true := decide_eq_true (by omega)
     clear c6
     by_cases c7 : 0 < (a0.size : Int)
     ·
      rw [if_pos c7] at H
      have c7b0 : decide (0 < (a0.size : Int)) = true := decide_eq_true c7
      have c7b1 : decide (0 < a0.size) = true := decide_eq_true (by omega)
      clear c7
      have H' := Aside0.mk H
      clear H
      have p8 : 0 ≤ (0 : Int) := (by omega)
      have q8 : 0 < a0.size := (by have : (0 : Int) < (a0.size : Int) := of_decide_eq_true (by first | (with_reducible assumption) | assumption); omega)
      have hx8 : ∀ h : 0 < a0.size, ((a0[0]'h).toNat : Int) = bt a0 0 := bt_at a0 0
      clear p8
      have qi8 : (0 < (a0.size : Int)) = True := eq_true (of_decide_eq_true (by first | (with_reducible assumption) | assumption))
      replace q8 := eq_true q8
      go_wp2
      go_meet
      case rel => exact ⟨_, (((bt a0 0) == 48)), (by first | rfl | (simp; done) | (simp [*]; done)), H', ⟨by first | omega | exact Nat.le_refl _⟩, by repeat (first | exact Drawn0.refl _ | apply Drawn0.step)⟩
     ·
      rw [if_neg c7] at H
      exact absurd H (by simp)
    ·
     rw [if_neg c6] at H
     have c6b0 : decide (1 < (a0.size : Int)) = false := decide_eq_false c6
     have c6b1 : decide (1 < a0.size) = false := decide_eq_false (by omega)
     clear c6
     have H' := Aside0.mk H
     clear H
     go_wp2
     go_meet
     case rel => exact ⟨_, (false), (by first | rfl | (simp; done) | (simp [*]; done)), H', ⟨by first | omega | exact Nat.le_refl _⟩, by repeat (first | exact Drawn0.refl _ | apply Drawn0.step)⟩
 case rest =>
  clear HC3
  try clear p2
  try clear c4
  try clear c4b0
  try clear c4b1
  try clear c5
  try clear c5b0
  try clear c6
  try clear c6b0
  try clear c6b1
  try clear c7
  try clear c7b0
  try clear c7b1
  try clear p8
  try clear q8
  try clear hx8
  try clear qi8
  try clear p8
  try clear q8
  obtain ⟨kq, x26_2, rfl, HA, HJ2, ⟨mc2, rfl⟩⟩ := hcut
  cases kq with
  | zero => exact absurd HA.out (by simp [spileref16_Number.j0])
  | succ kj2 =>
   have H := HA.out
   clear HA
   simp only [spileref16_Number.j0] at H
   by_cases c9 : x26_2 = true
   ·
    subst c9
    have H1 : (some (0, false)) = some (r1, r2) := by rw [if_pos rfl] at H; exact H
    clear H
    have H := H1
    clear H1
    simp only [Option.some.injEq, Prod.mk.injEq] at H
    obtain ⟨rfl, rfl⟩ := H
    go_wp2
    go_ret2
    exact ⟨by first | rfl | (simp; done) | (simp [*]; done), by repeat (first | exact Drawn0.refl _ | apply Drawn0.step)⟩
   ·
    replace c9 := Bool.eq_false_iff.mpr c9
    subst c9
    have H1 : (spileref16_Number.l0 kj2 a0 0 0) = some (r1, r2) := by rw [if_neg (show ¬ (false = true) by decide)] at H; exact H
    clear H
    have H := H1
    clear H1
    have H' := Aside0.mk H
    clear H
    go_wp2
    go_loopg [6, 7] kj2 (fun kq v6 v7 w' => ∃ (x6_2 : Int) (x7_2 : Int), v6 = .int .i64 x6_2 ∧ v7 = .int .i64 x7_2 ∧ Aside0 (spileref16_Number.l0 kq a0 x6_2 x7_2 = some (r1, r2)) ∧ Aside0 (kq ≤ kj2) ∧ Drawn0 w w')
    case atStart => exact ⟨(0), (0), (by first | rfl | (simp; done) | (simp [*]; done)), (by first | rfl | (simp; done) | (simp [*]; done)), H', ⟨Nat.le_refl _⟩, by repeat (first | exact Drawn0.refl _ | apply Drawn0.step)⟩
    case round =>
     clear H'
     try clear c2
     try clear p2
     try clear c4
     try clear c4b0
     try clear c4b1
     try clear c5
     try clear c5b0
     try clear c6
     try clear c6b0
     try clear c6b1
     try clear c7
     try clear c7b0
     try clear c7b1
     try clear p8
     try clear q8
     try clear hx8
     try clear qi8
     try clear c9
     try clear p2
     try clear p8
     try clear q8
     obtain ⟨x6_2, x7_2, rfl, rfl, HA, HK2, ⟨m2, rfl⟩⟩ := hrel
     cases gk with
     | zero => exact absurd HA.out (by simp [spileref16_Number.l0])
     | succ k2 =>
      have H := HA.out
      clear HA
      simp only [spileref16_Number.l0] at H
      by_cases c10 : x7_2 < (a0.size : Int)
      ·
       rw [if_pos c10] at H
       have c10b0 : decide (x7_2 < (a0.size : Int)) = true := decide_eq_true c10
       clear c10
       by_cases c11 : 0 ≤ x7_2
       ·
        rw [if_pos c11] at H
        have c11b0 : decide (0 ≤ x7_2) = true := decide_eq_true c11
        clear c11
        by_cases c13 : (bt a0 x7_2) < 48
        ·
         rw [if_pos c13] at H
         have c13b0 : decide ((bt a0 x7_2) < 48) = true := decide_eq_true c13
         clear c13
         simp only [Option.some.injEq, Prod.mk.injEq] at H
         obtain ⟨rfl, rfl⟩ := H
         have p12 : 0 ≤ (x7_2 : Int) := of_decide_eq_true (by first | (with_reducible assumption) | assumption)
         have q12 : x7_2 < (a0.size : Int) := of_decide_eq_true (by first | (with_reducible assumption) | assumption)
         have hx12 := bt_at a0 x7_2
         replace p12 := eq_true p12
         replace q12 := eq_true q12
         go_wp2
         go_ret2
         exact ⟨by first | rfl | (simp; done) | (simp [*]; done), by repeat (first | exact Drawn0.refl _ | apply Drawn0.step)⟩
        ·
         rw [if_neg c13] at H
         have c13b0 : decide ((bt a0 x7_2) < 48) = false := decide_eq_false c13
         clear c13
         by_cases c15 : (bt a0 x7_2) > 57
         ·
          rw [if_pos c15] at H
          have c15b0 : decide (57 < (bt a0 x7_2)) = true := decide_eq_true c15
          clear c15
          simp only [Option.some.injEq, Prod.mk.injEq] at H
          obtain ⟨rfl, rfl⟩ := H
          have p12 : 0 ≤ (x7_2 : Int) := of_decide_eq_true (by first | (with_reducible assumption) | assumption)
          have q12 : x7_2 < (a0.size : Int) := of_decide_eq_true (by first | (with_reducible assumption) | assumption)
          have hx12 := bt_at a0 x7_2
          replace p12 := eq_true p12
          replace q12 := eq_true q12
          have p14 : 0 ≤ (x7_2 : Int) := of_decide_eq_true (by first | (with_reducible assumption) | assumption)
          have q14 : x7_2 < (a0.size : Int) := of_decide_eq_true (by first | (with_reducible assumption) | assumption)
          have hx14 := bt_at a0 x7_2
          replace p14 := eq_true p14
          replace q14 := eq_true q14
          go_wp2
          go_ret2
          exact ⟨by first | rfl | (simp; done) | (simp [*]; done), by repeat (first | exact Drawn0.refl _ | apply Drawn0.step)⟩
         ·
          rw [if_neg c15] at H
          have c15b0 : decide (57 < (bt a0 x7_2)) = false := decide_eq_false c15
          clear c15
          have H' := Aside0.mk H
          clear H
          have p12 : 0 ≤ (x7_2 : Int) := of_decide_eq_true (by first | (with_reducible assumption) | assumption)
          have q12 : x7_2 < (a0.size : Int) := of_decide_eq_true (by first | (with_reducible assumption) | assumption)
          have hx12 := bt_at a0 x7_2
          replace p12 := eq_true p12
          replace q12 := eq_true q12
          have p14 : 0 ≤ (x7_2 : Int) := of_decide_eq_true (by first | (with_reducible assumption) | assumption)
          have q14 : x7_2 < (a0.size : Int) := of_decide_eq_true (by first | (with_reducible assumption) | assumption)
          have hx14 := bt_at a0 x7_2
          replace p14 := eq_true p14
          replace q14 := eq_true q14
          have p16 : 0 ≤ (x7_2 : Int) := of_decide_eq_true (by first | (with_reducible assumption) | assumption)
          have q16 : x7_2 < (a0.size : Int) := of_decide_eq_true (by first | (with_reducible assumption) | assumption)
          have hx16 := bt_at a0 x7_2
          replace p16 := eq_true p16
          replace q16 := eq_true q16
          go_wp2
          go_roundg k2
          case measure => have := HJ2.out; have := HK2.out; omega
          case rel => exact ⟨(wrap64 ((wrap64 (10 * x6_2)) + (((bt a0 x7_2) - 48) % 256))), (wrap64 (x7_2 + 1)), (by first | rfl | (simp; done) | (simp [*]; done)), (by first | rfl | (simp; done) | (simp [*]; done)), H', ⟨by have := HJ2.out; have := HK2.out; omega⟩, by repeat (first | exact Drawn0.refl _ | apply Drawn0.step)⟩
       ·
        rw [if_neg c11] at H
        exact absurd H (by simp)
      ·
       rw [if_neg c10] at H
       have c10b0 : decide (x7_2 < (a0.size : Int)) = false := decide_eq_false c10
       clear c10
       simp only [Option.some.injEq, Prod.mk.injEq] at H
       obtain ⟨rfl, rfl⟩ := H
       go_wp2
       go_ret2
       exact ⟨by first | rfl | (simp; done) | (simp [*]; done), by repeat (first | exact Drawn0.refl _ | apply Drawn0.step)⟩
mutual
def spileref16_Parse.l0 : Nat → List ByteArray → Bool → List (S30) → Int → Option ((List (S30)) × Int × Int)
 | 0, _, _, _, _ => none
 | k + 1, x5, x6, x7, x8 => if x8 < (x5.length : Int) then (if 0 ≤ x8 then ((spileref16_Words.f k (rdOf ByteArray.empty x5 x8)).bind fun t363 => (if (t363.length : Int) = 4 then (if 0 < (t363.length : Int) then (if (rdOf ByteArray.empty t363 0).toList = ([115, 116, 114, 101, 110, 103, 116, 104] : List UInt8) then (if 2 < (t363.length : Int) then (if (rdOf ByteArray.empty t363 2).toList = ([100, 101, 110, 115, 105, 116, 121] : List UInt8) then (if x8 = (wrap64 ((x5.length : Int) - 1)) then (spileref16_Parse.j1 k x5 x6 x7 x8 t363 (!x6)) else (spileref16_Parse.j1 k x5 x6 x7 x8 t363 false)) else (spileref16_Parse.j1 k x5 x6 x7 x8 t363 true)) else (none)) else (spileref16_Parse.j1 k x5 x6 x7 x8 t363 true)) else (none)) else (spileref16_Parse.j1 k x5 x6 x7 x8 t363 true))) else (none)) else ((spileref16_Check.f k x7).bind fun bt360 => (if bt360.2 = 0 then (some (x7, (-1), 0)) else (some (([] : List (S30)), (-1), bt360.2))))
def spileref16_Parse.j1 : Nat → List ByteArray → Bool → List (S30) → Int → List ByteArray → Bool → Option ((List (S30)) × Int × Int)
 | 0, _, _, _, _, _, _ => none
 | k + 1, x5, x6, x7, x8, x9, x61 => if x61 = true then (some (([] : List (S30)), x8, 3)) else (if 1 < (x9.length : Int) then ((spileref16_Number.f k (rdOf ByteArray.empty x9 1) 6).bind fun bt369 => (if 3 < (x9.length : Int) then ((spileref16_Number.f k (rdOf ByteArray.empty x9 3) 6).bind fun bt372 => (if bt369.2 = true then (if bt372.2 = true then (if x7.length < 8796093022208 then (spileref16_Parse.l0 k x5 x6 (x7 ++ [(⟨bt369.1, bt372.1⟩ : S30)]) (wrap64 (x8 + 1))) else (none)) else (some (([] : List (S30)), x8, 3))) else (some (([] : List (S30)), x8, 3)))) else (none))) else (none))
end
def spileref16_Parse.f (k : Nat) (a0 : ByteArray) : Option ((List (S30)) × Int × Int) := if (a0.size : Int) > 65536 then (some (([] : List (S30)), (-1), 8)) else ((spileref16_Lines.f k a0).bind fun bt353 => (spileref16_Parse.l0 k bt353.1 bt353.2 (([] : List (S30))) 0))
set_option maxHeartbeats 8000000 in
set_option maxRecDepth 100000 in
theorem spileref16_Parse.calls (k : Nat) (a0 : ByteArray) (r1 : List (S30)) (r2 : Int) (r3 : Int) (w : World) (h : spileref16_Parse.f k a0 = some (r1, r2, r3)) :
  Calls Tryd.prog 30 #[.string a0] w fun e w' => ∃ v0_ : Value, e = .returned (.tuple #[v0_, .int .i64 r2, .int .i64 r3]) ∧ Kd.R k30 30 w' w.heap.size (fun _ => True) v0_ r1 ∧ Below w.heap.size w w' := by
 have hu30 := Tryd.underlying30
 have HB := Aside0.mk (Below.refl w.heap.size w)
 have H : (if (a0.size : Int) > 65536 then (some (([] : List (S30)), (-1), 8)) else ((spileref16_Lines.f k a0).bind fun bt353 => (spileref16_Parse.l0 k bt353.1 bt353.2 (([] : List (S30))) 0))) = some (r1, r2, r3) := h
 clear h
 by_cases c2 : (a0.size : Int) > 65536
 ·
  rw [if_pos c2] at H
  have c2b0 : decide (65536 < (a0.size : Int)) = true := decide_eq_true c2
  have c2b1 : decide (65536 < a0.size) = true := decide_eq_true (by omega)
  clear c2
  simp only [Option.some.injEq, Prod.mk.injEq] at H
  obtain ⟨rfl, rfl, rfl⟩ := H
  go_enter Tryd.func30, Tryd.ntmps30
  go_wp2
  go_ret3
  exact ⟨_, by first | rfl | (simp [errW_none, errW_some] <;> rfl) | (simp [*, errW_none, errW_some] <;> rfl), by first | exact Kd.R_nil _ _ _ _ _ | exact Kd.N_nil _ _ _ _ _ | exact Kd.V_nil _ _ _ _ _ | exact Kd.Q_nil _ _ _ _ _ | exact Kd.S_nil _ _ _ _ _, by repeat (first | (with_reducible first | exact HB.out | apply below_alloc | apply pw_below_drewN | apply below_drew1) | exact HB.out)⟩
 ·
  rw [if_neg c2] at H
  have c2b0 : decide (65536 < (a0.size : Int)) = false := decide_eq_false c2
  have c2b1 : decide (65536 < a0.size) = false := decide_eq_false (by omega)
  clear c2
  replace H := Option.bind_eq_some_iff.mp H
  obtain ⟨⟨t353, t354⟩, A30, H⟩ := H
  replace H : (spileref16_Parse.l0 k t353 t354 (([] : List (S30))) 0) = some (r1, r2, r3) := H
  have A3 := Aside0.mk A30
  clear A30
  obtain ⟨y357, hy357⟩ : ∃ y_ : List (S30), y_ = (([] : List (S30))) := ⟨_, rfl⟩
  replace H : (spileref16_Parse.l0 k t353 t354 y357 0) = some (r1, r2, r3) := by first | (rw [hy357]; with_reducible exact H) | (have H2_ := (Option.bind_some _ _).symm.trans H; rw [hy357]; with_reducible exact H2_) | (have H2_ := (Option.bind_some _ _).symm.trans H; with_reducible exact H2_) | with_reducible exact H | (rw [hy357]; exact H) | exact H
  have Ny357 := Aside0.mk hy357
  clear hy357
  have H' := Aside0.mk H
  clear H
  go_enter Tryd.func30, Tryd.ntmps30
  go_wp2_with (first | ((with_reducible refine gate_callee (f := 47) rfl ?_); refine goesL_ (some 21) rfl rfl Tryd.func47 (by kernel_rfl) rfl #[.string a0] rfl (by (try simp only [List.map_toArray, List.map_cons, List.map_nil]); first | done | rfl | (simp only [List.length_drop, List.length_take]; rfl)) ?_; (with_reducible refine (spileref16_Lines.calls k a0 t353 t354 _ A3.out).mono ?_); rintro e w4 ⟨v355, rfl, ho0, hb⟩; refine ⟨_, rfl, ?_⟩; have n0_ := Aside0.mk (Kd.R_lower ho0 (below_size (by repeat (first | (with_reducible first | exact HB.out | apply below_alloc | apply pw_below_drewN | apply below_drew1) | exact HB.out)))); have n1_ := Aside0.mk (below_step (by repeat (first | (with_reducible first | exact HB.out | apply below_alloc | apply pw_below_drewN | apply below_drew1) | exact HB.out)) hb); clear HB; have HO356 := n0_; have HB := n1_; clear n0_ n1_; (try clear hb); (try clear hb2); (try clear hk); (try clear hi); (try clear ho0)) | ((with_reducible refine gate_dst (N := 24) rfl ?_); (try (refine gate_guard (by rfl) ?_; dsimp only)); refine Kd.R_lit k30 _ 30 ?hg (N := 24) ?hd (xs := ([] : List (S30))) (inner := []) (ok := fun _ => True) (okp := fun _ => True) ?hr ?hp (fun _ hk => hk) trivial (Below.refl _ _) (Nat.le_refl _) (by simp) ?_; (case hd => rfl); (case hg => rfl); (case hr => first | (go_simp; done) | (go_simp; rfl)); (case hp => exact (Reps.none _ _)); intro v358 w5 ho6 hb hg_ hnew_; clear hg_ hnew_; (first | rw [← Ny357.out] at ho6 | (simp only [Int.reduceToNat] at ho6; rw [← Ny357.out] at ho6)); have n0_ := Aside0.mk (Kd.R_below (by (with_reducible repeat (first | apply Kd.R_alloc | apply Kd.R_drewN | apply Kd.R_drew)); exact HO356.out) hb); have n1_ := Aside0.mk (Kd.R_lower ho6 (below_size (by repeat (first | (with_reducible first | exact HB.out | apply below_alloc | apply pw_below_drewN | apply below_drew1) | exact HB.out)))); have n2_ := Aside0.mk (below_step (by repeat (first | (with_reducible first | exact HB.out | apply below_alloc | apply pw_below_drewN | apply below_drew1) | exact HB.out)) hb); clear HO356; clear HB; have HO356 := n0_; have HO359 := n1_; have HB := n2_; clear n0_ n1_ n2_; clear hb ho6))
  go_loopg [7, 8] k (fun kq v7 v8 w' => ∃ (x7_1 : List (S30)) (x8_1 : Int), v8 = .int .i64 x8_1 ∧ Aside0 (spileref16_Parse.l0 kq t353 t354 x7_1 x8_1 = some (r1, r2, r3)) ∧ Aside0 (kq ≤ k) ∧ Aside0 (Kd.R Kd.string 9 w' w.heap.size (fun _ => True) v355 t353) ∧ Aside0 (Kd.R k30 30 w' w.heap.size (fun _ => True) v7 x7_1) ∧ Aside0 (Below w.heap.size w w'))
  case atStart => exact ⟨(y357), (0), (by first | rfl | (simp; done) | (simp [*]; done)), H', ⟨Nat.le_refl _⟩, ⟨by (with_reducible repeat (first | apply Kd.R_alloc | apply Kd.R_drewN | apply Kd.R_drew)); exact HO356.out⟩, ⟨by (with_reducible repeat (first | apply Kd.R_alloc | apply Kd.R_drewN | apply Kd.R_drew)); exact HO359.out⟩, ⟨by repeat (first | (with_reducible first | exact HB.out | apply below_alloc | apply pw_below_drewN | apply below_drew1) | exact HB.out)⟩⟩
  case round =>
   clear H'
   try clear c2
   try clear c2b0
   try clear c2b1
   try clear p2
   try clear c3
   try clear c4
   obtain ⟨x7_1, x8_1, rfl, HA, HK1, HO_5, HO_7, HB⟩ := hrel
   cases gk with
   | zero => exact absurd HA.out (by simp [spileref16_Parse.l0])
   | succ k1 =>
    have H := HA.out
    clear HA
    simp only [spileref16_Parse.l0] at H
    by_cases c7 : x8_1 < (t353.length : Int)
    ·
     rw [if_pos c7] at H
     have c7b0 : decide (x8_1 < (t353.length : Int)) = true := decide_eq_true c7
     clear c7
     by_cases c8 : 0 ≤ x8_1
     ·
      rw [if_pos c8] at H
      have c8b0 : decide (0 ≤ x8_1) = true := decide_eq_true c8
      clear c8
      replace H := Option.bind_eq_some_iff.mp H
      obtain ⟨t363, A90, H⟩ := H
      replace H : (if (t363.length : Int) = 4 then (if 0 < (t363.length : Int) then (if (rdOf ByteArray.empty t363 0).toList = ([115, 116, 114, 101, 110, 103, 116, 104] : List UInt8) then (if 2 < (t363.length : Int) then (if (rdOf ByteArray.empty t363 2).toList = ([100, 101, 110, 115, 105, 116, 121] : List UInt8) then (if x8_1 = (wrap64 ((t353.length : Int) - 1)) then (spileref16_Parse.j1 k1 t353 t354 x7_1 x8_1 t363 (!t354)) else (spileref16_Parse.j1 k1 t353 t354 x7_1 x8_1 t363 false)) else (spileref16_Parse.j1 k1 t353 t354 x7_1 x8_1 t363 true)) else (none)) else (spileref16_Parse.j1 k1 t353 t354 x7_1 x8_1 t363 true)) else (none)) else (spileref16_Parse.j1 k1 t353 t354 x7_1 x8_1 t363 true)) = some (r1, r2, r3) := H
      have A9 := Aside0.mk A90
      clear A90
      have HC10 := Aside0.mk H
      clear H
      obtain ⟨Ao11, co11, eo11⟩ := Kd.R_slice HO_5.out
      subst eo11
      have p362 : 0 ≤ (x8_1 : Int) := of_decide_eq_true (by first | (with_reducible assumption) | assumption)
      have q362 : x8_1 < (t353.length : Int) := of_decide_eq_true (by first | (with_reducible assumption) | assumption)
      obtain ⟨ad362, e362, hx362_0⟩ := Kd.at_string (Kd.R_reads' HO_5.out).2.2 x8_1 p362 q362
      cases e362
      replace p362 := eq_true p362
      replace q362 := eq_true q362
      go_upto_region 9 with (first | ((with_reducible refine gate_callee (f := 48) rfl ?_); refine goesL_ (some 35) rfl rfl Tryd.func48 (by kernel_rfl) rfl #[.string (rdOf ByteArray.empty t353 x8_1)] rfl (by (try simp only [List.map_toArray, List.map_cons, List.map_nil]); first | done | rfl | (simp only [List.length_drop, List.length_take]; rfl)) ?_; (with_reducible refine (spileref16_Words.calls k1 (rdOf ByteArray.empty t353 x8_1) t363 _ A9.out).mono ?_); rintro e w12 ⟨v364, rfl, ho0, hb⟩; refine ⟨_, rfl, ?_⟩; have n0_ := Aside0.mk (Kd.R_elder' (by (with_reducible repeat (first | apply Kd.R_alloc | apply Kd.R_drewN | apply Kd.R_drew)); exact HO_5.out) (Kd.R_base ho0) hb); have n1_ := Aside0.mk (Kd.R_below (by (with_reducible repeat (first | apply Kd.R_alloc | apply Kd.R_drewN | apply Kd.R_drew)); exact HO_7.out) hb); have n2_ := Aside0.mk (Kd.R_lower (Kd.R_new' ho0 (Kd.R_lt (by (with_reducible repeat (first | apply Kd.R_alloc | apply Kd.R_drewN | apply Kd.R_drew)); exact HO_5.out))) (below_size (by repeat (first | (with_reducible first | exact HB.out | apply below_alloc | apply pw_below_drewN | apply below_drew1) | exact HB.out)))); have n3_ := Aside0.mk (below_step (by repeat (first | (with_reducible first | exact HB.out | apply below_alloc | apply pw_below_drewN | apply below_drew1) | exact HB.out)) hb); clear HO_5; clear HO_7; clear HB; have HO_5 := n0_; have HO_7 := n1_; have HO365 := n2_; have HB := n3_; clear n0_ n1_ n2_ n3_; (try clear hb); (try clear hb2); (try clear hk); (try clear hi); (try clear ho0)))
      (try simp only [Act.put, List.setIfInBounds_toArray, List.set_cons_zero, List.set_cons_succ])
      go_cut [61] (fun v61 wc => ∃ (kq : Nat) (x61_9 : Bool), v61 = .bool x61_9 ∧ Aside0 (spileref16_Parse.j1 kq t353 t354 x7_1 x8_1 t363 x61_9 = some (r1, r2, r3)) ∧ Aside0 (kq ≤ k1) ∧ Aside0 (Kd.R Kd.string 9 wc w.heap.size (fun k_ => some k_ ≠ (v364 : Value).ownBlock) (.slice (some ad362) t353.length co11) t353) ∧ Aside0 (Kd.R k30 30 wc w.heap.size (fun _ => True) u7 x7_1) ∧ Aside0 (Kd.R Kd.string 9 wc w.heap.size (fun k_ => some k_ ≠ ((.slice (some ad362) t353.length co11) : Value).ownBlock) v364 t363) ∧ Aside0 (Below w.heap.size w wc))
      case first =>
       have H := HC10.out
       clear HC10
       by_cases c13 : (t363.length : Int) = 4
       ·
        rw [if_pos c13] at H
        have c13b0 : ((t363.length : Int) == 4) = true := beq_iff_eq.mpr c13
        have c13b1 : ((t363.length : Int) != 4) = false := bne_eq_false_iff_eq.mpr c13
        clear c13
        (first | rw [c13b0] | (simp only [i64_w, i32_w]; rw [c13b0]) | skip)
        by_cases c14 : 0 < (t363.length : Int)
        ·
         rw [if_pos c14] at H
         have c14b0 : decide (0 < (t363.length : Int)) = true := decide_eq_true c14
         have c14b1 : decide (0 < t363.length) = true := decide_eq_true (by omega)
         clear c14
         by_cases c15 : (rdOf ByteArray.empty t363 0).toList = ([115, 116, 114, 101, 110, 103, 116, 104] : List UInt8)
         ·
          rw [if_pos c15] at H
          have c15b0 : ((rdOf ByteArray.empty t363 0).toList == ([115, 116, 114, 101, 110, 103, 116, 104] : List UInt8)) = true := beq_iff_eq.mpr c15
          have c15b1 : ((rdOf ByteArray.empty t363 0).toList != ([115, 116, 114, 101, 110, 103, 116, 104] : List UInt8)) = false := bne_eq_false_iff_eq.mpr c15
          clear c15
          by_cases c16 : 2 < (t363.length : Int)
          ·
           rw [if_pos c16] at H
           have c16b0 : decide (2 < (t363.length : Int)) = true := decide_eq_true c16
           have c16b1 : decide (2 < t363.length) = true := decide_eq_true (by omega)
           clear c16
           by_cases c17 : (rdOf ByteArray.empty t363 2).toList = ([100, 101, 110, 115, 105, 116, 121] : List UInt8)
           ·
            rw [if_pos c17] at H
            have c17b0 : ((rdOf ByteArray.empty t363 2).toList == ([100, 101, 110, 115, 105, 116, 121] : List UInt8)) = true := beq_iff_eq.mpr c17
            have c17b1 : ((rdOf ByteArray.empty t363 2).toList != ([100, 101, 110, 115, 105, 116, 121] : List UInt8)) = false := bne_eq_false_iff_eq.mpr c17
            clear c17
            by_cases c18 : x8_1 = (wrap64 ((t353.length : Int) - 1))
            ·
             rw [if_pos c18] at H
             have c18b0 : (x8_1 == (wrap64 ((t353.length : Int) - 1))) = true := beq_iff_eq.mpr c18
             have c18b1 : (x8_1 != (wrap64 ((t353.length : Int) - 1))) = false := bne_eq_false_iff_eq.mpr c18
             clear c18
             have H' := Aside0.mk H
             clear H
             obtain ⟨Ao19, co19, eo19⟩ := Kd.R_slice HO365.out
             subst eo19
             have p366 : 0 ≤ (0 : Int) := (by omega)
             have q366 : 0 < (t363.length : Int) := of_decide_eq_true (by first | (with_reducible assumption) | assumption)
             obtain ⟨ad366, e366, hx366_0⟩ := Kd.at_string (Kd.R_reads' HO365.out).2.2 0 p366 q366
             cases e366
             have qi366 : (0 < t363.length) = True := eq_true (by omega)
             (try rw [show ((0 : Int)).toNat = 0 from rfl] at hx366_0)
             (try rw [Addr.add_zero'] at hx366_0)
             replace p366 := eq_true p366
             replace q366 := eq_true q366
             have p367 : 0 ≤ (2 : Int) := (by omega)
             have q367 : 2 < (t363.length : Int) := of_decide_eq_true (by first | (with_reducible assumption) | assumption)
             obtain ⟨ad367, e367, hx367_0⟩ := Kd.at_string (Kd.R_reads' HO365.out).2.2 2 p367 q367
             obtain rfl : ad366 = ad367 := (by injection e367)
             (try simp only [show (2 : Int).toNat = 2 from rfl, Nat.reduceMul, Nat.reduceEqDiff, Go.Addr.add, ↓reduceIte] at hx367_0)
             have qi367 : (2 < t363.length) = True := eq_true (by omega)
             (try rw [show ((2 : Int)).toNat = 2 from rfl] at hx367_0)
             replace p367 := eq_true p367
             replace q367 := eq_true q367
             go_wp2
             go_meet
             case rel => exact ⟨_, (!t354), (by first | rfl | (simp; done) | (simp [*]; done)), H', ⟨by have := HK1.out; first | omega | exact Nat.le_refl _⟩, ⟨by (with_reducible repeat (first | apply Kd.R_alloc | apply Kd.R_drewN | apply Kd.R_drew)); exact Kd.R_mono HO_5.out (fun _ hk => hk.2)⟩, ⟨by (with_reducible repeat (first | apply Kd.R_alloc | apply Kd.R_drewN | apply Kd.R_drew)); exact HO_7.out⟩, ⟨by (with_reducible repeat (first | apply Kd.R_alloc | apply Kd.R_drewN | apply Kd.R_drew)); exact Kd.R_mono HO365.out (fun _ hk => hk.2)⟩, ⟨by repeat (first | (with_reducible first | exact HB.out | apply below_alloc | apply pw_below_drewN | apply below_drew1) | exact HB.out)⟩⟩
            ·
             rw [if_neg c18] at H
             have c18b0 : (x8_1 == (wrap64 ((t353.length : Int) - 1))) = false := beq_eq_false_iff_ne.mpr c18
             have c18b1 : (x8_1 != (wrap64 ((t353.length : Int) - 1))) = true := bne_iff_ne.mpr c18
             have H' := Aside0.mk H
             clear H
             obtain ⟨Ao20, co20, eo20⟩ := Kd.R_slice HO365.out
             subst eo20
             have p366 : 0 ≤ (0 : Int) := (by omega)
             have q366 : 0 < (t363.length : Int) := of_decide_eq_true (by first | (with_reducible assumption) | assumption)
             obtain ⟨ad366, e366, hx366_0⟩ := Kd.at_string (Kd.R_reads' HO365.out).2.2 0 p366 q366
             cases e366
             have qi366 : (0 < t363.length) = True := eq_true (by omega)
             (try rw [show ((0 : Int)).toNat = 0 from rfl] at hx366_0)
             (try rw [Addr.add_zero'] at hx366_0)
             replace p366 := eq_true p366
             replace q366 := eq_true q366
             have p367 : 0 ≤ (2 : Int) := (by omega)
             have q367 : 2 < (t363.length : Int) := of_decide_eq_true (by first | (with_reducible assumption) | assumption)
             obtain ⟨ad367, e367, hx367_0⟩ := Kd.at_string (Kd.R_reads' HO365.out).2.2 2 p367 q367
             obtain rfl : ad366 = ad367 := (by injection e367)
             (try simp only [show (2 : Int).toNat = 2 from rfl, Nat.reduceMul, Nat.reduceEqDiff, Go.Addr.add, ↓reduceIte] at hx367_0)
             have qi367 : (2 < t363.length) = True := eq_true (by omega)
             (try rw [show ((2 : Int)).toNat = 2 from rfl] at hx367_0)
             replace p367 := eq_true p367
             replace q367 := eq_true q367
             go_wp2
             go_meet
             case rel => exact ⟨_, (false), (by first | rfl | (simp; done) | (simp [*]; done)), H', ⟨by have := HK1.out; first | omega | exact Nat.le_refl _⟩, ⟨by (with_reducible repeat (first | apply Kd.R_alloc | apply Kd.R_drewN | apply Kd.R_drew)); exact Kd.R_mono HO_5.out (fun _ hk => hk.2)⟩, ⟨by (with_reducible repeat (first | apply Kd.R_alloc | apply Kd.R_drewN | apply Kd.R_drew)); exact HO_7.out⟩, ⟨by (with_reducible repeat (first | apply Kd.R_alloc | apply Kd.R_drewN | apply Kd.R_drew)); exact Kd.R_mono HO365.out (fun _ hk => hk.2)⟩, ⟨by repeat (first | (with_reducible first | exact HB.out | apply below_alloc | apply pw_below_drewN | apply below_drew1) | exact HB.out)⟩⟩
           ·
            rw [if_neg c17] at H
            have c17b0 : ((rdOf ByteArray.empty t363 2).toList == ([100, 101, 110, 115, 105, 116, 121] : List UInt8)) = false := beq_eq_false_iff_ne.mpr c17
            have c17b1 : ((rdOf ByteArray.empty t363 2).toList != ([100, 101, 110, 115, 105, 116, 121] : List UInt8)) = true := bne_iff_ne.mpr c17
            have H' := Aside0.mk H
            clear H
            obtain ⟨Ao21, co21, eo21⟩ := Kd.R_slice HO365.out
            subst eo21
            have p366 : 0 ≤ (0 : Int) := (by omega)
            have q366 : 0 < (t363.length : Int) := of_decide_eq_true (by first | (with_reducible assumption) | assumption)
            obtain ⟨ad366, e366, hx366_0⟩ := Kd.at_string (Kd.R_reads' HO365.out).2.2 0 p366 q366
            cases e366
            have qi366 : (0 < t363.length) = True := eq_true (by omega)
            (try rw [show ((0 : Int)).toNat = 0 from rfl] at hx366_0)
            (try rw [Addr.add_zero'] at hx366_0)
            replace p366 := eq_true p366
            replace q366 := eq_true q366
            have p367 : 0 ≤ (2 : Int) := (by omega)
            have q367 : 2 < (t363.length : Int) := of_decide_eq_true (by first | (with_reducible assumption) | assumption)
            obtain ⟨ad367, e367, hx367_0⟩ := Kd.at_string (Kd.R_reads' HO365.out).2.2 2 p367 q367
            obtain rfl : ad366 = ad367 := (by injection e367)
            (try simp only [show (2 : Int).toNat = 2 from rfl, Nat.reduceMul, Nat.reduceEqDiff, Go.Addr.add, ↓reduceIte] at hx367_0)
            have qi367 : (2 < t363.length) = True := eq_true (by omega)
            (try rw [show ((2 : Int)).toNat = 2 from rfl] at hx367_0)
            replace p367 := eq_true p367
            replace q367 := eq_true q367
            go_wp2
            go_meet
            case rel => exact ⟨_, (true), (by first | rfl | (simp; done) | (simp [*]; done)), H', ⟨by have := HK1.out; first | omega | exact Nat.le_refl _⟩, ⟨by (with_reducible repeat (first | apply Kd.R_alloc | apply Kd.R_drewN | apply Kd.R_drew)); exact Kd.R_mono HO_5.out (fun _ hk => hk.2)⟩, ⟨by (with_reducible repeat (first | apply Kd.R_alloc | apply Kd.R_drewN | apply Kd.R_drew)); exact HO_7.out⟩, ⟨by (with_reducible repeat (first | apply Kd.R_alloc | apply Kd.R_drewN | apply Kd.R_drew)); exact Kd.R_mono HO365.out (fun _ hk => hk.2)⟩, ⟨by repeat (first | (with_reducible first | exact HB.out | apply below_alloc | apply pw_below_drewN | apply below_drew1) | exact HB.out)⟩⟩
          ·
           rw [if_neg c16] at H
           exact absurd H (by simp)
         ·
          rw [if_neg c15] at H
          have c15b0 : ((rdOf ByteArray.empty t363 0).toList == ([115, 116, 114, 101, 110, 103, 116, 104] : List UInt8)) = false := beq_eq_false_iff_ne.mpr c15
          have c15b1 : ((rdOf ByteArray.empty t363 0).toList != ([115, 116, 114, 101, 110, 103, 116, 104] : List UInt8)) = true := bne_iff_ne.mpr c15
          have H' := Aside0.mk H
          clear H
          obtain ⟨Ao22, co22, eo22⟩ := Kd.R_slice HO365.out
          subst eo22
          have p366 : 0 ≤ (0 : Int) := (by omega)
          have q366 : 0 < (t363.length : Int) := of_decide_eq_true (by first | (with_reducible assumption) | assumption)
          obtain ⟨ad366, e366, hx366_0⟩ := Kd.at_string (Kd.R_reads' HO365.out).2.2 0 p366 q366
          cases e366
          have qi366 : (0 < t363.length) = True := eq_true (by omega)
          (try rw [show ((0 : Int)).toNat = 0 from rfl] at hx366_0)
          (try rw [Addr.add_zero'] at hx366_0)
          replace p366 := eq_true p366
          replace q366 := eq_true q366
          go_wp2
          go_meet
          case rel => exact ⟨_, (true), (by first | rfl | (simp; done) | (simp [*]; done)), H', ⟨by have := HK1.out; first | omega | exact Nat.le_refl _⟩, ⟨by (with_reducible repeat (first | apply Kd.R_alloc | apply Kd.R_drewN | apply Kd.R_drew)); exact Kd.R_mono HO_5.out (fun _ hk => hk.2)⟩, ⟨by (with_reducible repeat (first | apply Kd.R_alloc | apply Kd.R_drewN | apply Kd.R_drew)); exact HO_7.out⟩, ⟨by (with_reducible repeat (first | apply Kd.R_alloc | apply Kd.R_drewN | apply Kd.R_drew)); exact Kd.R_mono HO365.out (fun _ hk => hk.2)⟩, ⟨by repeat (first | (with_reducible first | exact HB.out | apply below_alloc | apply pw_below_drewN | apply below_drew1) | exact HB.out)⟩⟩
        ·
         rw [if_neg c14] at H
         exact absurd H (by simp)
       ·
        rw [if_neg c13] at H
        have c13b0 : ((t363.length : Int) == 4) = false := beq_eq_false_iff_ne.mpr c13
        have c13b1 : ((t363.length : Int) != 4) = true := bne_iff_ne.mpr c13
        (first | rw [c13b0] | (simp only [i64_w, i32_w]; rw [c13b0]) | skip)
        have H' := Aside0.mk H
        clear H
        obtain ⟨Ao23, co23, eo23⟩ := Kd.R_slice HO365.out
        subst eo23
        go_wp2
        go_meet
        case rel => exact ⟨_, (true), (by first | rfl | (simp; done) | (simp [*]; done)), H', ⟨by have := HK1.out; first | omega | exact Nat.le_refl _⟩, ⟨by (with_reducible repeat (first | apply Kd.R_alloc | apply Kd.R_drewN | apply Kd.R_drew)); exact Kd.R_mono HO_5.out (fun _ hk => hk.2)⟩, ⟨by (with_reducible repeat (first | apply Kd.R_alloc | apply Kd.R_drewN | apply Kd.R_drew)); exact HO_7.out⟩, ⟨by (with_reducible repeat (first | apply Kd.R_alloc | apply Kd.R_drewN | apply Kd.R_drew)); exact Kd.R_mono HO365.out (fun _ hk => hk.2)⟩, ⟨by repeat (first | (with_reducible first | exact HB.out | apply below_alloc | apply pw_below_drewN | apply below_drew1) | exact HB.out)⟩⟩
      case rest =>
       clear HC10
       try clear c1
       try clear c2
       try clear c2b0
       try clear c2b1
       try clear p2
       try clear c3
       try clear p3
       try clear q3
       try clear hx3
       try clear qi3
       try clear c4
       try clear p6
       try clear c7
       try clear c7b0
       try clear c8
       try clear c8b0
       try clear c13
       try clear c13b0
       try clear c13b1
       try clear c14
       try clear c14b0
       try clear c14b1
       try clear c15
       try clear c15b0
       try clear c15b1
       try clear c16
       try clear c16b0
       try clear c16b1
       try clear c17
       try clear c17b0
       try clear c17b1
       try clear c18
       try clear c18b0
       try clear c18b1
       try clear hx362_0
       try clear hx366_0
       try clear hx367_0
       try clear p2
       try clear p362
       try clear p366
       try clear p367
       try clear q362
       try clear q366
       try clear q367
       obtain ⟨kq, x61_9, rfl, HA, HJ9, HO_5, HO_7, HO_9, HB⟩ := hcut
       cases kq with
       | zero => exact absurd HA.out (by simp [spileref16_Parse.j1])
       | succ kj9 =>
        have H := HA.out
        clear HA
        simp only [spileref16_Parse.j1] at H
        by_cases c24 : x61_9 = true
        ·
         subst c24
         have H1 : (some (([] : List (S30)), x8_1, 3)) = some (r1, r2, r3) := by rw [if_pos rfl] at H; exact H
         clear H
         have H := H1
         clear H1
         simp only [Option.some.injEq, Prod.mk.injEq] at H
         obtain ⟨rfl, rfl, rfl⟩ := H
         go_wp2
         go_ret3
         exact ⟨_, by first | rfl | (simp [errW_none, errW_some] <;> rfl) | (simp [*, errW_none, errW_some] <;> rfl), by first | exact Kd.R_nil _ _ _ _ _ | exact Kd.N_nil _ _ _ _ _ | exact Kd.V_nil _ _ _ _ _ | exact Kd.Q_nil _ _ _ _ _ | exact Kd.S_nil _ _ _ _ _, by repeat (first | (with_reducible first | exact HB.out | apply below_alloc | apply pw_below_drewN | apply below_drew1) | exact HB.out)⟩
        ·
         replace c24 := Bool.eq_false_iff.mpr c24
         subst c24
         have H1 : (if 1 < (t363.length : Int) then ((spileref16_Number.f kj9 (rdOf ByteArray.empty t363 1) 6).bind fun bt369 => (if 3 < (t363.length : Int) then ((spileref16_Number.f kj9 (rdOf ByteArray.empty t363 3) 6).bind fun bt372 => (if bt369.2 = true then (if bt372.2 = true then (if x7_1.length < 8796093022208 then (spileref16_Parse.l0 kj9 t353 t354 (x7_1 ++ [(⟨bt369.1, bt372.1⟩ : S30)]) (wrap64 (x8_1 + 1))) else (none)) else (some (([] : List (S30)), x8_1, 3))) else (some (([] : List (S30)), x8_1, 3)))) else (none))) else (none)) = some (r1, r2, r3) := by rw [if_neg (show ¬ (false = true) by decide)] at H; exact H
         clear H
         have H := H1
         clear H1
         by_cases c25 : 1 < (t363.length : Int)
         ·
          rw [if_pos c25] at H
          have c25b0 : decide (1 < (t363.length : Int)) = true := decide_eq_true c25
          have c25b1 : decide (1 < t363.length) = true := decide_eq_true (by omega)
          clear c25
          replace H := Option.bind_eq_some_iff.mp H
          obtain ⟨⟨t369, t370⟩, A260, H⟩ := H
          replace H : (if 3 < (t363.length : Int) then ((spileref16_Number.f kj9 (rdOf ByteArray.empty t363 3) 6).bind fun bt372 => (if t370 = true then (if bt372.2 = true then (if x7_1.length < 8796093022208 then (spileref16_Parse.l0 kj9 t353 t354 (x7_1 ++ [(⟨t369, bt372.1⟩ : S30)]) (wrap64 (x8_1 + 1))) else (none)) else (some (([] : List (S30)), x8_1, 3))) else (some (([] : List (S30)), x8_1, 3)))) else (none)) = some (r1, r2, r3) := H
          have A26 := Aside0.mk A260
          clear A260
          by_cases c27 : 3 < (t363.length : Int)
          ·
           rw [if_pos c27] at H
           have c27b0 : decide (3 < (t363.length : Int)) = true := decide_eq_true c27
           have c27b1 : decide (3 < t363.length) = true := decide_eq_true (by omega)
           clear c27
           replace H := Option.bind_eq_some_iff.mp H
           obtain ⟨⟨t372, t373⟩, A280, H⟩ := H
           replace H : (if t370 = true then (if t373 = true then (if x7_1.length < 8796093022208 then (spileref16_Parse.l0 kj9 t353 t354 (x7_1 ++ [(⟨t369, t372⟩ : S30)]) (wrap64 (x8_1 + 1))) else (none)) else (some (([] : List (S30)), x8_1, 3))) else (some (([] : List (S30)), x8_1, 3))) = some (r1, r2, r3) := H
           have A28 := Aside0.mk A280
           clear A280
           by_cases c29 : t370 = true
           ·
            subst c29
            have H1 : (if t373 = true then (if x7_1.length < 8796093022208 then (spileref16_Parse.l0 kj9 t353 t354 (x7_1 ++ [(⟨t369, t372⟩ : S30)]) (wrap64 (x8_1 + 1))) else (none)) else (some (([] : List (S30)), x8_1, 3))) = some (r1, r2, r3) := by rw [if_pos rfl] at H; exact H
            clear H
            have H := H1
            clear H1
            by_cases c30 : t373 = true
            ·
             subst c30
             have H1 : (if x7_1.length < 8796093022208 then (spileref16_Parse.l0 kj9 t353 t354 (x7_1 ++ [(⟨t369, t372⟩ : S30)]) (wrap64 (x8_1 + 1))) else (none)) = some (r1, r2, r3) := by rw [if_pos rfl] at H; exact H
             clear H
             have H := H1
             clear H1
             by_cases c31 : x7_1.length < 8796093022208
             ·
              rw [if_pos c31] at H
              have LMc31 := Aside0.mk c31
              clear c31
              obtain ⟨y374, hy374⟩ : ∃ y_ : List (S30), y_ = (x7_1 ++ [(⟨t369, t372⟩ : S30)]) := ⟨_, rfl⟩
              replace H : (spileref16_Parse.l0 kj9 t353 t354 y374 (wrap64 (x8_1 + 1))) = some (r1, r2, r3) := by first | (rw [hy374]; with_reducible exact H) | (have H2_ := (Option.bind_some _ _).symm.trans H; rw [hy374]; with_reducible exact H2_) | (have H2_ := (Option.bind_some _ _).symm.trans H; with_reducible exact H2_) | with_reducible exact H | (rw [hy374]; exact H) | exact H
              have Ny374 := Aside0.mk hy374
              clear hy374
              have H' := Aside0.mk H
              clear H
              obtain ⟨Ao32, co32, eo32⟩ := Kd.R_slice HO_9.out
              subst eo32
              have p368 : 0 ≤ (1 : Int) := (by omega)
              have q368 : 1 < (t363.length : Int) := of_decide_eq_true (by first | (with_reducible assumption) | assumption)
              obtain ⟨ad368, e368, hx368_0⟩ := Kd.at_string (Kd.R_reads' HO_9.out).2.2 1 p368 q368
              cases e368
              (try simp only [show (1 : Int).toNat = 1 from rfl, Nat.reduceMul, Nat.reduceEqDiff, Go.Addr.add, ↓reduceIte] at hx368_0)
              have qi368 : (1 < t363.length) = True := eq_true (by omega)
              (try rw [show ((1 : Int)).toNat = 1 from rfl] at hx368_0)
              replace p368 := eq_true p368
              replace q368 := eq_true q368
              go_wp2_with (first | ((with_reducible refine gate_callee (f := 49) rfl ?_); refine goesL_ (some 67) rfl rfl Tryd.func49 (by kernel_rfl) rfl #[.string (rdOf ByteArray.empty t363 1), .int .i64 6] rfl (by (try simp only [List.map_toArray, List.map_cons, List.map_nil]); first | done | rfl | (simp only [List.length_drop, List.length_take]; rfl)) ?_; (with_reducible refine (spileref16_Number.calls kj9 (rdOf ByteArray.empty t363 1) 6 t369 true _ A26.out).mono ?_); rintro e w' ⟨rfl, ⟨nd, rfl⟩⟩; refine ⟨_, rfl, ?_⟩; have p371 : 0 ≤ (3 : Int) := (by omega); have q371 : 3 < (t363.length : Int) := of_decide_eq_true (by first | (with_reducible assumption) | assumption); obtain ⟨ad371, e371, hx371_0⟩ := Kd.at_string (Kd.R_reads' HO_9.out).2.2 3 p371 q371; obtain rfl : ad368 = ad371 := (by injection e371); (try simp only [show (3 : Int).toNat = 3 from rfl, Nat.reduceMul, Nat.reduceEqDiff, Go.Addr.add, ↓reduceIte] at hx371_0); have qi371 : (3 < t363.length) = True := eq_true (by omega); (try rw [show ((3 : Int)).toNat = 3 from rfl] at hx371_0); replace p371 := eq_true p371; replace q371 := eq_true q371) | ((with_reducible refine gate_callee (f := 49) rfl ?_); refine goesL_ (some 74) rfl rfl Tryd.func49 (by kernel_rfl) rfl #[.string (rdOf ByteArray.empty t363 3), .int .i64 6] rfl (by (try simp only [List.map_toArray, List.map_cons, List.map_nil]); first | done | rfl | (simp only [List.length_drop, List.length_take]; rfl)) ?_; (with_reducible refine (spileref16_Number.calls kj9 (rdOf ByteArray.empty t363 3) 6 t372 true _ A28.out).mono ?_); rintro e w' ⟨rfl, ⟨nd, rfl⟩⟩; refine ⟨_, rfl, ?_⟩) | ((with_reducible refine gate_builtin (b := .append) (xs := #[.tmp 84, .tmp 88]) rfl ?_); (try (refine gate_guard (by rfl) ?_; dsimp only)); at_builtin; refine Kd.R_append k30 (w0 := w) w.heap.size rfl (.tmp 84) (.tmp 88) 22 30 (.agg #[(.int .i64 0), (.int .i64 0)]) 16 rfl Tryd.underlying22 info30 rfl (by decide) (by omega) u7 x7_1 (⟨t369, t372⟩ : S30) [.int .i64 t369, .int .i64 t372] (fun _ => True) (fun _ => False) rfl rfl ?aP (fun _ hk => hk.elim) ?aF ?aO ?aB ?aS ?aL ?_; (case aP => exact k30_mkM _ _ _ (⟨t369, t372⟩ : S30)); (case aB => exact (by repeat (first | (with_reducible first | exact HB.out | apply below_alloc | apply pw_below_drewN | apply below_drew1) | exact HB.out))); (case aF => exact (fun _ _ => trivial)); (case aO => exact (by (with_reducible repeat (first | apply Kd.R_alloc | apply Kd.R_drewN | apply Kd.R_drew)); exact HO_7.out)); (case aS => exact (below_size (by repeat (first | (with_reducible first | exact HB.out | apply below_alloc | apply pw_below_drewN | apply below_drew1) | exact HB.out)))); (case aL => have := LMc31.out; omega); intro v375 w33 ho hb hg hat; rw [← Ny374.out] at ho; have n0_ := Aside0.mk (Kd.R_over' (by (with_reducible repeat (first | apply Kd.R_alloc | apply Kd.R_drewN | apply Kd.R_drew)); exact HO_5.out) (Kd.R_typed (by (with_reducible repeat (first | apply Kd.R_alloc | apply Kd.R_drewN | apply Kd.R_drew)); exact HO_7.out)) (by decide) hg); have n1_ := Aside0.mk (Kd.R_over' (by (with_reducible repeat (first | apply Kd.R_alloc | apply Kd.R_drewN | apply Kd.R_drew)); exact HO_9.out) (Kd.R_typed (by (with_reducible repeat (first | apply Kd.R_alloc | apply Kd.R_drewN | apply Kd.R_drew)); exact HO_7.out)) (by decide) hg); have n2_ := Aside0.mk (hb); have n3_ := Aside0.mk (ho); clear HO_5; clear HO_9; clear HB; clear HO_7; have HO_5 := n0_; have HO_9 := n1_; have HB := n2_; have HO376 := n3_; clear n0_ n1_ n2_ n3_; clear ho hb hg hat))
              go_roundg kj9
              case measure => have := HK1.out; have := HJ9.out; omega
              case rel => exact ⟨(y374), (wrap64 (x8_1 + 1)), (by first | rfl | (simp; done) | (simp [*]; done)), H', ⟨by have := HK1.out; have := HJ9.out; omega⟩, ⟨by (with_reducible repeat (first | apply Kd.R_alloc | apply Kd.R_drewN | apply Kd.R_drew)); exact Kd.R_mono HO_5.out (fun _ hk => trivial)⟩, ⟨by (with_reducible repeat (first | apply Kd.R_alloc | apply Kd.R_drewN | apply Kd.R_drew)); exact HO376.out⟩, ⟨by repeat (first | (with_reducible first | exact HB.out | apply below_alloc | apply pw_below_drewN | apply below_drew1) | exact HB.out)⟩⟩
             ·
              rw [if_neg c31] at H
              exact absurd H (by simp)
            ·
             replace c30 := Bool.eq_false_iff.mpr c30
             subst c30
             have H1 : (some (([] : List (S30)), x8_1, 3)) = some (r1, r2, r3) := by rw [if_neg (show ¬ (false = true) by decide)] at H; exact H
             clear H
             have H := H1
             clear H1
             simp only [Option.some.injEq, Prod.mk.injEq] at H
             obtain ⟨rfl, rfl, rfl⟩ := H
             obtain ⟨Ao34, co34, eo34⟩ := Kd.R_slice HO_9.out
             subst eo34
             have p368 : 0 ≤ (1 : Int) := (by omega)
             have q368 : 1 < (t363.length : Int) := of_decide_eq_true (by first | (with_reducible assumption) | assumption)
             obtain ⟨ad368, e368, hx368_0⟩ := Kd.at_string (Kd.R_reads' HO_9.out).2.2 1 p368 q368
             cases e368
             (try simp only [show (1 : Int).toNat = 1 from rfl, Nat.reduceMul, Nat.reduceEqDiff, Go.Addr.add, ↓reduceIte] at hx368_0)
             have qi368 : (1 < t363.length) = True := eq_true (by omega)
             (try rw [show ((1 : Int)).toNat = 1 from rfl] at hx368_0)
             replace p368 := eq_true p368
             replace q368 := eq_true q368
             go_wp2_with (first | ((with_reducible refine gate_callee (f := 49) rfl ?_); refine goesL_ (some 67) rfl rfl Tryd.func49 (by kernel_rfl) rfl #[.string (rdOf ByteArray.empty t363 1), .int .i64 6] rfl (by (try simp only [List.map_toArray, List.map_cons, List.map_nil]); first | done | rfl | (simp only [List.length_drop, List.length_take]; rfl)) ?_; (with_reducible refine (spileref16_Number.calls kj9 (rdOf ByteArray.empty t363 1) 6 t369 true _ A26.out).mono ?_); rintro e w' ⟨rfl, ⟨nd, rfl⟩⟩; refine ⟨_, rfl, ?_⟩; have p371 : 0 ≤ (3 : Int) := (by omega); have q371 : 3 < (t363.length : Int) := of_decide_eq_true (by first | (with_reducible assumption) | assumption); obtain ⟨ad371, e371, hx371_0⟩ := Kd.at_string (Kd.R_reads' HO_9.out).2.2 3 p371 q371; obtain rfl : ad368 = ad371 := (by injection e371); (try simp only [show (3 : Int).toNat = 3 from rfl, Nat.reduceMul, Nat.reduceEqDiff, Go.Addr.add, ↓reduceIte] at hx371_0); have qi371 : (3 < t363.length) = True := eq_true (by omega); (try rw [show ((3 : Int)).toNat = 3 from rfl] at hx371_0); replace p371 := eq_true p371; replace q371 := eq_true q371) | ((with_reducible refine gate_callee (f := 49) rfl ?_); refine goesL_ (some 74) rfl rfl Tryd.func49 (by kernel_rfl) rfl #[.string (rdOf ByteArray.empty t363 3), .int .i64 6] rfl (by (try simp only [List.map_toArray, List.map_cons, List.map_nil]); first | done | rfl | (simp only [List.length_drop, List.length_take]; rfl)) ?_; (with_reducible refine (spileref16_Number.calls kj9 (rdOf ByteArray.empty t363 3) 6 t372 false _ A28.out).mono ?_); rintro e w' ⟨rfl, ⟨nd, rfl⟩⟩; refine ⟨_, rfl, ?_⟩))
             go_ret3
             exact ⟨_, by first | rfl | (simp [errW_none, errW_some] <;> rfl) | (simp [*, errW_none, errW_some] <;> rfl), by first | exact Kd.R_nil _ _ _ _ _ | exact Kd.N_nil _ _ _ _ _ | exact Kd.V_nil _ _ _ _ _ | exact Kd.Q_nil _ _ _ _ _ | exact Kd.S_nil _ _ _ _ _, by repeat (first | (with_reducible first | exact HB.out | apply below_alloc | apply pw_below_drewN | apply below_drew1) | exact HB.out)⟩
           ·
            replace c29 := Bool.eq_false_iff.mpr c29
            subst c29
            have H1 : (some (([] : List (S30)), x8_1, 3)) = some (r1, r2, r3) := by rw [if_neg (show ¬ (false = true) by decide)] at H; exact H
            clear H
            have H := H1
            clear H1
            simp only [Option.some.injEq, Prod.mk.injEq] at H
            obtain ⟨rfl, rfl, rfl⟩ := H
            obtain ⟨Ao35, co35, eo35⟩ := Kd.R_slice HO_9.out
            subst eo35
            have p368 : 0 ≤ (1 : Int) := (by omega)
            have q368 : 1 < (t363.length : Int) := of_decide_eq_true (by first | (with_reducible assumption) | assumption)
            obtain ⟨ad368, e368, hx368_0⟩ := Kd.at_string (Kd.R_reads' HO_9.out).2.2 1 p368 q368
            cases e368
            (try simp only [show (1 : Int).toNat = 1 from rfl, Nat.reduceMul, Nat.reduceEqDiff, Go.Addr.add, ↓reduceIte] at hx368_0)
            have qi368 : (1 < t363.length) = True := eq_true (by omega)
            (try rw [show ((1 : Int)).toNat = 1 from rfl] at hx368_0)
            replace p368 := eq_true p368
            replace q368 := eq_true q368
            go_wp2_with (first | ((with_reducible refine gate_callee (f := 49) rfl ?_); refine goesL_ (some 67) rfl rfl Tryd.func49 (by kernel_rfl) rfl #[.string (rdOf ByteArray.empty t363 1), .int .i64 6] rfl (by (try simp only [List.map_toArray, List.map_cons, List.map_nil]); first | done | rfl | (simp only [List.length_drop, List.length_take]; rfl)) ?_; (with_reducible refine (spileref16_Number.calls kj9 (rdOf ByteArray.empty t363 1) 6 t369 false _ A26.out).mono ?_); rintro e w' ⟨rfl, ⟨nd, rfl⟩⟩; refine ⟨_, rfl, ?_⟩; have p371 : 0 ≤ (3 : Int) := (by omega); have q371 : 3 < (t363.length : Int) := of_decide_eq_true (by first | (with_reducible assumption) | assumption); obtain ⟨ad371, e371, hx371_0⟩ := Kd.at_string (Kd.R_reads' HO_9.out).2.2 3 p371 q371; obtain rfl : ad368 = ad371 := (by injection e371); (try simp only [show (3 : Int).toNat = 3 from rfl, Nat.reduceMul, Nat.reduceEqDiff, Go.Addr.add, ↓reduceIte] at hx371_0); have qi371 : (3 < t363.length) = True := eq_true (by omega); (try rw [show ((3 : Int)).toNat = 3 from rfl] at hx371_0); replace p371 := eq_true p371; replace q371 := eq_true q371) | ((with_reducible refine gate_callee (f := 49) rfl ?_); refine goesL_ (some 74) rfl rfl Tryd.func49 (by kernel_rfl) rfl #[.string (rdOf ByteArray.empty t363 3), .int .i64 6] rfl (by (try simp only [List.map_toArray, List.map_cons, List.map_nil]); first | done | rfl | (simp only [List.length_drop, List.length_take]; rfl)) ?_; (with_reducible refine (spileref16_Number.calls kj9 (rdOf ByteArray.empty t363 3) 6 t372 t373 _ A28.out).mono ?_); rintro e w' ⟨rfl, ⟨nd, rfl⟩⟩; refine ⟨_, rfl, ?_⟩))
            go_ret3
            exact ⟨_, by first | rfl | (simp [errW_none, errW_some] <;> rfl) | (simp [*, errW_none, errW_some] <;> rfl), by first | exact Kd.R_nil _ _ _ _ _ | exact Kd.N_nil _ _ _ _ _ | exact Kd.V_nil _ _ _ _ _ | exact Kd.Q_nil _ _ _ _ _ | exact Kd.S_nil _ _ _ _ _, by repeat (first | (with_reducible first | exact HB.out | apply below_alloc | apply pw_below_drewN | apply below_drew1) | exact HB.out)⟩
          ·
           rw [if_neg c27] at H
           exact absurd H (by simp)
         ·
          rw [if_neg c25] at H
          exact absurd H (by simp)
     ·
      rw [if_neg c8] at H
      exact absurd H (by simp)
    ·
     rw [if_neg c7] at H
     have c7b0 : decide (x8_1 < (t353.length : Int)) = false := decide_eq_false c7
     clear c7
     replace H := Option.bind_eq_some_iff.mp H
     obtain ⟨⟨t360, t361⟩, A360, H⟩ := H
     replace H : (if t361 = 0 then (some (x7_1, (-1), 0)) else (some (([] : List (S30)), (-1), t361))) = some (r1, r2, r3) := H
     have A36 := Aside0.mk A360
     clear A360
     by_cases c37 : t361 = 0
     ·
      rw [if_pos c37] at H
      have c37b0 : (t361 == 0) = true := beq_iff_eq.mpr c37
      have c37b1 : (t361 != 0) = false := bne_eq_false_iff_eq.mpr c37
      clear c37
      simp only [Option.some.injEq, Prod.mk.injEq] at H
      obtain ⟨rfl, rfl, rfl⟩ := H
      obtain ⟨Ao38, co38, eo38⟩ := Kd.R_slice HO_5.out
      subst eo38
      obtain ⟨Ao39, co39, eo39⟩ := Kd.R_slice HO_7.out
      subst eo39
      go_wp2_with (first | ((with_reducible refine gate_callee (f := 14) rfl ?_); refine goesL_ (some 92) rfl rfl Tryd.func14 (by kernel_rfl) rfl #[.slice Ao39 x7_1.length co39] rfl (by (try simp only [List.map_toArray, List.map_cons, List.map_nil]); first | done | rfl | (simp only [List.length_drop, List.length_take]; rfl)) ?_; (with_reducible refine (spileref16_Check.calls k1 _ _ x7_1 t360 t361 _ ?side1 ?side2 A36.out).mono ?_); (case side1 => repeat (first | exact (Kd.R_reads' HO_7.out).2.2 | (with_reducible refine Kd.C_alloc ?_ _) | (with_reducible refine Kd.C_drewN ?_ _) | (with_reducible refine Kd.C_drew ?_))); (case side2 => exact (Kd.R_reads' HO_7.out).2.1); rintro e w' ⟨rfl, ⟨nd, rfl⟩⟩; refine ⟨_, rfl, ?_⟩))
      go_ret3
      exact ⟨_, by first | rfl | (simp [errW_none, errW_some] <;> rfl) | (simp [*, errW_none, errW_some] <;> rfl), by (with_reducible repeat (first | apply Kd.R_alloc | apply Kd.R_drewN | apply Kd.R_drew)); exact HO_7.out, by repeat (first | (with_reducible first | exact HB.out | apply below_alloc | apply pw_below_drewN | apply below_drew1) | exact HB.out)⟩
     ·
      rw [if_neg c37] at H
      have c37b0 : (t361 == 0) = false := beq_eq_false_iff_ne.mpr c37
      have c37b1 : (t361 != 0) = true := bne_iff_ne.mpr c37
      simp only [Option.some.injEq, Prod.mk.injEq] at H
      obtain ⟨rfl, rfl, rfl⟩ := H
      obtain ⟨Ao40, co40, eo40⟩ := Kd.R_slice HO_5.out
      subst eo40
      obtain ⟨Ao41, co41, eo41⟩ := Kd.R_slice HO_7.out
      subst eo41
      go_wp2_with (first | ((with_reducible refine gate_callee (f := 14) rfl ?_); refine goesL_ (some 92) rfl rfl Tryd.func14 (by kernel_rfl) rfl #[.slice Ao41 x7_1.length co41] rfl (by (try simp only [List.map_toArray, List.map_cons, List.map_nil]); first | done | rfl | (simp only [List.length_drop, List.length_take]; rfl)) ?_; (with_reducible refine (spileref16_Check.calls k1 _ _ x7_1 t360 t361 _ ?side1 ?side2 A36.out).mono ?_); (case side1 => repeat (first | exact (Kd.R_reads' HO_7.out).2.2 | (with_reducible refine Kd.C_alloc ?_ _) | (with_reducible refine Kd.C_drewN ?_ _) | (with_reducible refine Kd.C_drew ?_))); (case side2 => exact (Kd.R_reads' HO_7.out).2.1); rintro e w' ⟨rfl, ⟨nd, rfl⟩⟩; refine ⟨_, rfl, ?_⟩))
      go_ret3
      exact ⟨_, by first | rfl | (simp [errW_none, errW_some] <;> rfl) | (simp [*, errW_none, errW_some] <;> rfl), by first | exact Kd.R_nil _ _ _ _ _ | exact Kd.N_nil _ _ _ _ _ | exact Kd.V_nil _ _ _ _ _ | exact Kd.Q_nil _ _ _ _ _ | exact Kd.S_nil _ _ _ _ _, by repeat (first | (with_reducible first | exact HB.out | apply below_alloc | apply pw_below_drewN | apply below_drew1) | exact HB.out)⟩
end Go.Proofs.YtoofoicocfnfoaaDoor.Pr
namespace Go.Proofs.YtoofoicocfnfoaaDoor.Pr
open Go.RowKit Go.Proofs.YtoofoicocfnfoaaDoorW.PrintWords Go.Proofs.YtoofoicocfnfoaaDoorW.PrintLast Go.Proofs.YtoofoicocfnfoaaDoorW.PrintMore Go.Proofs.YtoofoicocfnfoaaDoor.X
attribute [local go_sem] max2_int min2_int max_two min_two max_three min_three max_four min_four   -- for this text's walks alone
set_option linter.unusedVariables false
set_option linter.unusedSimpArgs false
def spilelaw16_DensityTexts.j0 : Nat → List (S30) → ByteArray → Bool → Option (Bool)
 | 0, _, _, _ => none
 | k + 1, x0, x1, x24 => if x24 = true then (some true) else ((density_Print.f k x0).bind fun bt379 => ((spileref16_Print.f k x0).bind fun bt381 => ((density_Parse.f k x1).bind fun bt383 => ((spileref16_Parse.f k x1).bind fun bt388 => (if bt379.1.toList = bt381.1.toList then (if bt379.2 = bt381.2 then ((spileref16_Same.f k bt383.1 bt388.1).bind fun t393 => (if t393 = true then (if bt383.2.1 = bt388.2.1 then (some (bt383.2.2 == bt388.2.2)) else (some false)) else (some false))) else (some false)) else (some false))))))
def spilelaw16_DensityTexts.f (k : Nat) (l0 : List (S30)) (a1 : ByteArray) : Option (Bool) := (spilelaw16_awake.f).bind fun t377 => (if t377 = true then ((spileref16_Few.f l0).bind fun t378 => (if t378 = true then (spilelaw16_DensityTexts.j0 k l0 a1 (decide ((a1.size : Int) > 1000))) else (spilelaw16_DensityTexts.j0 k l0 a1 true))) else (some false))
set_option maxHeartbeats 8000000 in
set_option maxRecDepth 100000 in
theorem spilelaw16_DensityTexts.calls (k : Nat) (A0 : Option Addr) (c0 : Nat) (l0 : List (S30)) (a1 : ByteArray) (r : Bool) (w : World) (hr0 : Kd.C k30 w A0 l0.length l0) (hc0 : l0.length ≤ c0) (hG : GI w) (hr_ : r = true) (h : spilelaw16_DensityTexts.f k l0 a1 = some r) :
  Calls Tryd.prog 8 #[.slice A0 l0.length c0, .string a1] w fun e w' => e = .returned (.bool r) ∧ Below w.heap.size w w' := by
 have HR0 := Aside0.mk hr0
 have HC0 := Aside0.mk hc0
 clear hr0 hc0
 have HG := Aside0.mk hG
 clear hG
 have HB := Aside0.mk (Below.refl w.heap.size w)
 have H : ((spilelaw16_awake.f).bind fun t377 => (if t377 = true then ((spileref16_Few.f l0).bind fun t378 => (if t378 = true then (spilelaw16_DensityTexts.j0 k l0 a1 (decide ((a1.size : Int) > 1000))) else (spilelaw16_DensityTexts.j0 k l0 a1 true))) else (some false))) = some r := h
 clear h
 replace H := Option.bind_eq_some_iff.mp H
 obtain ⟨t377, A30, H⟩ := H
 replace H : (if t377 = true then ((spileref16_Few.f l0).bind fun t378 => (if t378 = true then (spilelaw16_DensityTexts.j0 k l0 a1 (decide ((a1.size : Int) > 1000))) else (spilelaw16_DensityTexts.j0 k l0 a1 true))) else (some false)) = some r := H
 have A3 := Aside0.mk A30
 clear A30
 by_cases c4 : t377 = true
 ·
  subst c4
  have H1 : ((spileref16_Few.f l0).bind fun t378 => (if t378 = true then (spilelaw16_DensityTexts.j0 k l0 a1 (decide ((a1.size : Int) > 1000))) else (spilelaw16_DensityTexts.j0 k l0 a1 true))) = some r := by rw [if_pos rfl] at H; exact H
  clear H
  have H := H1
  clear H1
  have HC5 := Aside0.mk H
  clear H
  go_enter Tryd.func8, Tryd.ntmps8
  go_upto_region 3 with (first | ((with_reducible refine gate_callee (f := 10) rfl ?_); refine goesL_ (some 15) rfl rfl Tryd.func10 (by kernel_rfl) rfl #[] rfl (by (try simp only [List.map_toArray, List.map_cons, List.map_nil]); first | done | rfl | (simp only [List.length_drop, List.length_take]; rfl)) ?_; (with_reducible refine (spilelaw16_awake.calls  true _ ?side1 A3.out).mono ?_); (case side1 => exact GI.below HG.out (by repeat (first | (with_reducible first | exact HB.out | apply below_alloc | apply pw_below_drewN | apply below_drew1) | exact HB.out))); rintro e w6 ⟨rfl, hb⟩; refine ⟨_, rfl, ?_⟩; have n0_ := Aside0.mk (below_step (by repeat (first | (with_reducible first | exact HB.out | apply below_alloc | apply pw_below_drewN | apply below_drew1) | exact HB.out)) hb); clear HB; have HB := n0_; clear n0_; (try clear hb); (try clear hb2); (try clear hk); (try clear hi)))
  (try simp only [Act.put, List.setIfInBounds_toArray, List.set_cons_zero, List.set_cons_succ])
  go_cut [24] (fun v24 wc => ∃ (kq : Nat) (x24_4 : Bool), v24 = .bool x24_4 ∧ Aside0 (spilelaw16_DensityTexts.j0 kq l0 a1 x24_4 = some r) ∧ Aside0 (kq ≤ k) ∧ Aside0 (Below w.heap.size w wc))
  case first =>
   have H := HC5.out
   clear HC5
   replace H := Option.bind_eq_some_iff.mp H
   obtain ⟨t378, A70, H⟩ := H
   replace H : (if t378 = true then (spilelaw16_DensityTexts.j0 k l0 a1 (decide ((a1.size : Int) > 1000))) else (spilelaw16_DensityTexts.j0 k l0 a1 true)) = some r := H
   have A7 := Aside0.mk A70
   clear A70
   by_cases c8 : t378 = true
   ·
    subst c8
    have H1 : (spilelaw16_DensityTexts.j0 k l0 a1 (decide ((a1.size : Int) > 1000))) = some r := by rw [if_pos rfl] at H; exact H
    clear H
    have H := H1
    clear H1
    have H' := Aside0.mk H
    clear H
    go_wp2_with (first | ((with_reducible refine gate_callee (f := 11) rfl ?_); refine goesL_ (some 18) rfl rfl Tryd.func11 (by kernel_rfl) rfl #[.slice A0 l0.length c0] rfl (by (try simp only [List.map_toArray, List.map_cons, List.map_nil]); first | done | rfl | (simp only [List.length_drop, List.length_take]; rfl)) ?_; (with_reducible refine (spileref16_Few.calls _ _ l0 true _ ?side1 ?side2 A7.out).mono ?_); (case side1 => repeat (first | exact (Kd.C_below HR0.out HB.out) | (with_reducible refine Kd.C_alloc ?_ _) | (with_reducible refine Kd.C_drewN ?_ _) | (with_reducible refine Kd.C_drew ?_))); (case side2 => exact HC0.out); rintro e w' ⟨rfl, ⟨nd, rfl⟩⟩; refine ⟨_, rfl, ?_⟩))
    go_meet
    case rel => exact ⟨_, (decide ((a1.size : Int) > 1000)), (by first | rfl | (simp; done) | (simp [*]; done)), H', ⟨by first | omega | exact Nat.le_refl _⟩, ⟨by repeat (first | (with_reducible first | exact HB.out | apply below_alloc | apply pw_below_drewN | apply below_drew1) | exact HB.out)⟩⟩
   ·
    replace c8 := Bool.eq_false_iff.mpr c8
    subst c8
    have H1 : (spilelaw16_DensityTexts.j0 k l0 a1 true) = some r := by rw [if_neg (show ¬ (false = true) by decide)] at H; exact H
    clear H
    have H := H1
    clear H1
    have H' := Aside0.mk H
    clear H
    go_wp2_with (first | ((with_reducible refine gate_callee (f := 11) rfl ?_); refine goesL_ (some 18) rfl rfl Tryd.func11 (by kernel_rfl) rfl #[.slice A0 l0.length c0] rfl (by (try simp only [List.map_toArray, List.map_cons, List.map_nil]); first | done | rfl | (simp only [List.length_drop, List.length_take]; rfl)) ?_; (with_reducible refine (spileref16_Few.calls _ _ l0 false _ ?side1 ?side2 A7.out).mono ?_); (case side1 => repeat (first | exact (Kd.C_below HR0.out HB.out) | (with_reducible refine Kd.C_alloc ?_ _) | (with_reducible refine Kd.C_drewN ?_ _) | (with_reducible refine Kd.C_drew ?_))); (case side2 => exact HC0.out); rintro e w' ⟨rfl, ⟨nd, rfl⟩⟩; refine ⟨_, rfl, ?_⟩))
    go_meet
    case rel => exact ⟨_, (true), (by first | rfl | (simp; done) | (simp [*]; done)), H', ⟨by first | omega | exact Nat.le_refl _⟩, ⟨by repeat (first | (with_reducible first | exact HB.out | apply below_alloc | apply pw_below_drewN | apply below_drew1) | exact HB.out)⟩⟩
  case rest =>
   clear HC5
   try clear c1
   try clear p2
   try clear c4
   try clear c8
   obtain ⟨kq, x24_4, rfl, HA, HJ4, HB⟩ := hcut
   cases kq with
   | zero => exact absurd HA.out (by simp [spilelaw16_DensityTexts.j0])
   | succ kj4 =>
    have H := HA.out
    clear HA
    simp only [spilelaw16_DensityTexts.j0] at H
    by_cases c9 : x24_4 = true
    ·
     subst c9
     have H1 : (some true) = some r := by rw [if_pos rfl] at H; exact H
     clear H
     have H := H1
     clear H1
     obtain rfl := Option.some.inj H
     go_wp2
     go_ret
     exact ⟨by first | rfl | (simp [errW_none, errW_some] <;> rfl) | (simp [*, errW_none, errW_some] <;> rfl), by repeat (first | (with_reducible first | exact HB.out | apply below_alloc | apply pw_below_drewN | apply below_drew1) | exact HB.out)⟩
    ·
     replace c9 := Bool.eq_false_iff.mpr c9
     subst c9
     have H1 : ((density_Print.f kj4 l0).bind fun bt379 => ((spileref16_Print.f kj4 l0).bind fun bt381 => ((density_Parse.f kj4 a1).bind fun bt383 => ((spileref16_Parse.f kj4 a1).bind fun bt388 => (if bt379.1.toList = bt381.1.toList then (if bt379.2 = bt381.2 then ((spileref16_Same.f kj4 bt383.1 bt388.1).bind fun t393 => (if t393 = true then (if bt383.2.1 = bt388.2.1 then (some (bt383.2.2 == bt388.2.2)) else (some false)) else (some false))) else (some false)) else (some false)))))) = some r := by rw [if_neg (show ¬ (false = true) by decide)] at H; exact H
     clear H
     have H := H1
     clear H1
     replace H := Option.bind_eq_some_iff.mp H
     obtain ⟨⟨t379, t380⟩, A100, H⟩ := H
     replace H : ((spileref16_Print.f kj4 l0).bind fun bt381 => ((density_Parse.f kj4 a1).bind fun bt383 => ((spileref16_Parse.f kj4 a1).bind fun bt388 => (if t379.toList = bt381.1.toList then (if t380 = bt381.2 then ((spileref16_Same.f kj4 bt383.1 bt388.1).bind fun t393 => (if t393 = true then (if bt383.2.1 = bt388.2.1 then (some (bt383.2.2 == bt388.2.2)) else (some false)) else (some false))) else (some false)) else (some false))))) = some r := H
     have A10 := Aside0.mk A100
     clear A100
     replace H := Option.bind_eq_some_iff.mp H
     obtain ⟨⟨t381, t382⟩, A110, H⟩ := H
     replace H : ((density_Parse.f kj4 a1).bind fun bt383 => ((spileref16_Parse.f kj4 a1).bind fun bt388 => (if t379.toList = t381.toList then (if t380 = t382 then ((spileref16_Same.f kj4 bt383.1 bt388.1).bind fun t393 => (if t393 = true then (if bt383.2.1 = bt388.2.1 then (some (bt383.2.2 == bt388.2.2)) else (some false)) else (some false))) else (some false)) else (some false)))) = some r := H
     have A11 := Aside0.mk A110
     clear A110
     replace H := Option.bind_eq_some_iff.mp H
     obtain ⟨⟨t383, t384, t385⟩, A120, H⟩ := H
     replace H : ((spileref16_Parse.f kj4 a1).bind fun bt388 => (if t379.toList = t381.toList then (if t380 = t382 then ((spileref16_Same.f kj4 t383 bt388.1).bind fun t393 => (if t393 = true then (if t384 = bt388.2.1 then (some (t385 == bt388.2.2)) else (some false)) else (some false))) else (some false)) else (some false))) = some r := H
     have A12 := Aside0.mk A120
     clear A120
     replace H := Option.bind_eq_some_iff.mp H
     obtain ⟨⟨t388, t389, t390⟩, A130, H⟩ := H
     replace H : (if t379.toList = t381.toList then (if t380 = t382 then ((spileref16_Same.f kj4 t383 t388).bind fun t393 => (if t393 = true then (if t384 = t389 then (some (t385 == t390)) else (some false)) else (some false))) else (some false)) else (some false)) = some r := H
     have A13 := Aside0.mk A130
     clear A130
     by_cases c14 : t379.toList = t381.toList
     ·
      rw [if_pos c14] at H
      have c14b0 : (t379.toList == t381.toList) = true := beq_iff_eq.mpr c14
      have c14b1 : (t379.toList != t381.toList) = false := bne_eq_false_iff_eq.mpr c14
      clear c14
      by_cases c15 : t380 = t382
      ·
       rw [if_pos c15] at H
       have c15b0 : (t380 == t382) = true := beq_iff_eq.mpr c15
       have c15b1 : (t380 != t382) = false := bne_eq_false_iff_eq.mpr c15
       clear c15
       replace H := Option.bind_eq_some_iff.mp H
       obtain ⟨t393, A160, H⟩ := H
       replace H : (if t393 = true then (if t384 = t389 then (some (t385 == t390)) else (some false)) else (some false)) = some r := H
       have A16 := Aside0.mk A160
       clear A160
       by_cases c17 : t393 = true
       ·
        subst c17
        have H1 : (if t384 = t389 then (some (t385 == t390)) else (some false)) = some r := by rw [if_pos rfl] at H; exact H
        clear H
        have H := H1
        clear H1
        by_cases c18 : t384 = t389
        ·
         rw [if_pos c18] at H
         have c18b0 : (t384 == t389) = true := beq_iff_eq.mpr c18
         have c18b1 : (t384 != t389) = false := bne_eq_false_iff_eq.mpr c18
         clear c18
         obtain rfl := Option.some.inj H
         go_wp2_with (first | ((with_reducible refine gate_callee (f := 27) rfl ?_); refine goesL_ (some 27) rfl rfl Tryd.func27 (by kernel_rfl) rfl #[.slice A0 l0.length c0] rfl (by (try simp only [List.map_toArray, List.map_cons, List.map_nil]); first | done | rfl | (simp only [List.length_drop, List.length_take]; rfl)) ?_; (with_reducible refine (density_Print.calls kj4 _ _ l0 t379 t380 _ ?side1 ?side2 ?side3 A10.out).mono ?_); (case side1 => repeat (first | exact (Kd.C_below HR0.out HB.out) | (with_reducible refine Kd.C_alloc ?_ _) | (with_reducible refine Kd.C_drewN ?_ _) | (with_reducible refine Kd.C_drew ?_))); (case side2 => exact HC0.out); (case side3 => exact GI.below HG.out (by repeat (first | (with_reducible first | exact HB.out | apply below_alloc | apply pw_below_drewN | apply below_drew1) | exact HB.out))); rintro e w19 ⟨rfl, hb⟩; refine ⟨_, rfl, ?_⟩; have n0_ := Aside0.mk (below_step (by repeat (first | (with_reducible first | exact HB.out | apply below_alloc | apply pw_below_drewN | apply below_drew1) | exact HB.out)) hb); clear HB; have HB := n0_; clear n0_; (try clear hb); (try clear hb2); (try clear hk); (try clear hi)) | ((with_reducible refine gate_callee (f := 28) rfl ?_); refine goesL_ (some 32) rfl rfl Tryd.func28 (by kernel_rfl) rfl #[.slice A0 l0.length c0] rfl (by (try simp only [List.map_toArray, List.map_cons, List.map_nil]); first | done | rfl | (simp only [List.length_drop, List.length_take]; rfl)) ?_; (with_reducible refine (spileref16_Print.calls kj4 _ _ l0 t381 t382 _ ?side1 ?side2 A11.out).mono ?_); (case side1 => repeat (first | exact (Kd.C_below HR0.out HB.out) | (with_reducible refine Kd.C_alloc ?_ _) | (with_reducible refine Kd.C_drewN ?_ _) | (with_reducible refine Kd.C_drew ?_))); (case side2 => exact HC0.out); rintro e w20 ⟨rfl, hb⟩; refine ⟨_, rfl, ?_⟩; have n0_ := Aside0.mk (below_step (by repeat (first | (with_reducible first | exact HB.out | apply below_alloc | apply pw_below_drewN | apply below_drew1) | exact HB.out)) hb); clear HB; have HB := n0_; clear n0_; (try clear hb); (try clear hb2); (try clear hk); (try clear hi)) | ((with_reducible refine gate_callee (f := 29) rfl ?_); refine goesL_ (some 37) rfl rfl Tryd.func29 (by kernel_rfl) rfl #[.string a1] rfl (by (try simp only [List.map_toArray, List.map_cons, List.map_nil]); first | done | rfl | (simp only [List.length_drop, List.length_take]; rfl)) ?_; (with_reducible refine (density_Parse.calls kj4 a1 t383 t384 t385 _ ?side1 A12.out).mono ?_); (case side1 => exact GI.below HG.out (by repeat (first | (with_reducible first | exact HB.out | apply below_alloc | apply pw_below_drewN | apply below_drew1) | exact HB.out))); rintro e w21 ⟨v386, rfl, ho0, hb⟩; refine ⟨_, rfl, ?_⟩; have n0_ := Aside0.mk (Kd.R_lower ho0 (below_size (by repeat (first | (with_reducible first | exact HB.out | apply below_alloc | apply pw_below_drewN | apply below_drew1) | exact HB.out)))); have n1_ := Aside0.mk (below_step (by repeat (first | (with_reducible first | exact HB.out | apply below_alloc | apply pw_below_drewN | apply below_drew1) | exact HB.out)) hb); clear HB; have HO387 := n0_; have HB := n1_; clear n0_ n1_; (try clear hb); (try clear hb2); (try clear hk); (try clear hi); (try clear ho0)) | ((with_reducible refine gate_callee (f := 30) rfl ?_); refine goesL_ (some 43) rfl rfl Tryd.func30 (by kernel_rfl) rfl #[.string a1] rfl (by (try simp only [List.map_toArray, List.map_cons, List.map_nil]); first | done | rfl | (simp only [List.length_drop, List.length_take]; rfl)) ?_; (with_reducible refine (spileref16_Parse.calls kj4 a1 t388 t389 t390 _ A13.out).mono ?_); rintro e w22 ⟨v391, rfl, ho0, hb⟩; refine ⟨_, rfl, ?_⟩; have n0_ := Aside0.mk (Kd.R_elder' (by (with_reducible repeat (first | apply Kd.R_alloc | apply Kd.R_drewN | apply Kd.R_drew)); exact HO387.out) (Kd.R_base ho0) hb); have n1_ := Aside0.mk (Kd.R_lower (Kd.R_new' ho0 (Kd.R_lt (by (with_reducible repeat (first | apply Kd.R_alloc | apply Kd.R_drewN | apply Kd.R_drew)); exact HO387.out))) (below_size (by repeat (first | (with_reducible first | exact HB.out | apply below_alloc | apply pw_below_drewN | apply below_drew1) | exact HB.out)))); have n2_ := Aside0.mk (below_step (by repeat (first | (with_reducible first | exact HB.out | apply below_alloc | apply pw_below_drewN | apply below_drew1) | exact HB.out)) hb); clear HO387; clear HB; have HO387 := n0_; have HO392 := n1_; have HB := n2_; clear n0_ n1_ n2_; (try clear hb); (try clear hb2); (try clear hk); (try clear hi); (try clear ho0); obtain ⟨Ao23, co23, eo23⟩ := Kd.R_slice HO387.out; subst eo23; obtain ⟨Ao24, co24, eo24⟩ := Kd.R_slice HO392.out; subst eo24) | (go_at_call 19; (with_reducible refine (spileref16_Same.calls kj4 _ _ t383 _ _ t388 true _ ?side1 ?side2 ?side3 ?side4 A16.out).mono ?_); (case side1 => repeat (first | exact (Kd.R_reads' HO387.out).2.2 | (with_reducible refine Kd.C_alloc ?_ _) | (with_reducible refine Kd.C_drewN ?_ _) | (with_reducible refine Kd.C_drew ?_))); (case side2 => exact (Kd.R_reads' HO387.out).2.1); (case side3 => repeat (first | exact (Kd.R_reads' HO392.out).2.2 | (with_reducible refine Kd.C_alloc ?_ _) | (with_reducible refine Kd.C_drewN ?_ _) | (with_reducible refine Kd.C_drew ?_))); (case side4 => exact (Kd.R_reads' HO392.out).2.1); rintro e w' ⟨rfl, ⟨nd, rfl⟩⟩))
         go_ret
         exact ⟨by first | rfl | (simp [errW_none, errW_some] <;> rfl) | (simp [*, errW_none, errW_some] <;> rfl), by repeat (first | (with_reducible first | exact HB.out | apply below_alloc | apply pw_below_drewN | apply below_drew1) | exact HB.out)⟩
        ·
         rw [if_neg c18] at H
         have c18b0 : (t384 == t389) = false := beq_eq_false_iff_ne.mpr c18
         have c18b1 : (t384 != t389) = true := bne_iff_ne.mpr c18
         subst hr_
         exact absurd H (by simp)
       ·
        replace c17 := Bool.eq_false_iff.mpr c17
        subst c17
        have H1 : (some false) = some r := by rw [if_neg (show ¬ (false = true) by decide)] at H; exact H
        clear H
        have H := H1
        clear H1
        subst hr_
        exact absurd H (by simp)
      ·
       rw [if_neg c15] at H
       have c15b0 : (t380 == t382) = false := beq_eq_false_iff_ne.mpr c15
       have c15b1 : (t380 != t382) = true := bne_iff_ne.mpr c15
       subst hr_
       exact absurd H (by simp)
     ·
      rw [if_neg c14] at H
      have c14b0 : (t379.toList == t381.toList) = false := beq_eq_false_iff_ne.mpr c14
      have c14b1 : (t379.toList != t381.toList) = true := bne_iff_ne.mpr c14
      subst hr_
      exact absurd H (by simp)
 ·
  replace c4 := Bool.eq_false_iff.mpr c4
  subst c4
  have H1 : (some false) = some r := by rw [if_neg (show ¬ (false = true) by decide)] at H; exact H
  clear H
  have H := H1
  clear H1
  subst hr_
  exact absurd H (by simp)
end Go.Proofs.YtoofoicocfnfoaaDoor.Pr
namespace Go.Proofs.YtoofoicocfnfoaaDoor.Opn
open Go Go.RowKit Go.Proofs.YtoofoicocfnfoaaDoorW.PrintWords Go.Proofs.YtoofoicocfnfoaaDoor.O Go.Proofs.YtoofoicocfnfoaaDoor.Pr
theorem opens3 : Opens Tryd.prog 3 (Kd.int .i64) (fun x => (Lit.int .i64 x).wf = true) := opens_int Tryd.underlying3 (by kernel_rfl)
def ok30 (x : S30) : Prop := (Lit.int .i64 x.f0).wf = true ∧ (Lit.int .i64 x.f1).wf = true
theorem opens30 : Opens Tryd.prog 30 k30 ok30 :=
  ⟨by kernel_rfl, fun H enc w base sp held fuel cs x h => by
    obtain ⟨xs, n, _, _, hl, hx, hf⟩ := DataW.trod_struct Tryd.underlying30 h
    have hc_ : Tryd.prog.cellsOf 30 = 2 := by kernel_rfl
    rw [hc_] at hl
    obtain ⟨c0, c1, rfl⟩ : ∃ c0 c1, cs = [c0, c1] := by
      clear h hf hx
      rcases cs with _ | ⟨c0, _ | ⟨c1, _ | ⟨_, _⟩⟩⟩
      all_goals first | exact ⟨_, _, rfl⟩ | (simp at hl)
    obtain ⟨y0, hy0⟩ : ∃ y, xs[0]? = some y := ⟨xs[0]'(by rw [hx]; decide), List.getElem?_eq_getElem _⟩
    have e0 : DataW.trod enc Tryd.prog w base sp held n 3 ((List.drop 0 [c0, c1]).take (Tryd.prog.cellsOf 3)) = xs[0]? := hf 0 _ rfl
    rw [hy0, show Tryd.prog.cellsOf 3 = 1 from by kernel_rfl] at e0
    obtain ⟨v0, K0, o0⟩ := opens3.2 H enc w base sp held n _ _ e0
    replace K0 : (Kd.int .i64).K w v0 [c0] := K0
    obtain ⟨y1, hy1⟩ : ∃ y, xs[1]? = some y := ⟨xs[1]'(by rw [hx]; decide), List.getElem?_eq_getElem _⟩
    have e1 : DataW.trod enc Tryd.prog w base sp held n 3 ((List.drop 1 [c0, c1]).take (Tryd.prog.cellsOf 3)) = xs[1]? := hf 1 _ rfl
    rw [hy1, show Tryd.prog.cellsOf 3 = 1 from by kernel_rfl] at e1
    obtain ⟨v1, K1, o1⟩ := opens3.2 H enc w base sp held n _ _ e1
    replace K1 : (Kd.int .i64).K w v1 [c1] := K1
    obtain rfl : c0 = _ := List.singleton_inj.1 K0
    obtain rfl : c1 = _ := List.singleton_inj.1 K1
    refine ⟨⟨v0, v1⟩, ?_, o0, o1⟩
    exact k30_mk w ⟨v0, v1⟩ ⟩
theorem opens22 : Opens Tryd.prog 22 (Kd.slice 30 k30) (fun x => (x.length ≤ maxLen ∧ ∀ x0_, x0_ ∈ x → ok30 x0_)) := opens_slice (P := Tryd.prog) (t := 22) (e := 30) Tryd.underlying22 (by kernel_rfl) opens30
end Go.Proofs.YtoofoicocfnfoaaDoor.Opn
namespace Go.Proofs.YtoofoicocfnfoaaDoor.Pure
open Go Go.RowKit Go.Proofs.YtoofoicocfnfoaaDoor.Pr Go.Proofs.YtoofoicocfnfoaaDoor.Opn
def densityTextsPure : Prop := ∀ (l0 : (List S30)) (a1 : ByteArray), (l0.length ≤ maxLen ∧ ∀ x0_, x0_ ∈ l0 → ok30 x0_) → a1.size ≤ maxLen → ∃ k, spilelaw16_DensityTexts.f k l0 a1 = some true
end Go.Proofs.YtoofoicocfnfoaaDoor.Pure
namespace Go.Proofs.YtoofoicocfnfoaaDoor.PL
open Go Go.RowKit Go.Proofs.YtoofoicocfnfoaaDoorW.PrintWords Go.Proofs.YtoofoicocfnfoaaDoorW.PrintLast Go.Proofs.YtoofoicocfnfoaaDoorW.PrintMore
theorem evp {α : Type} {c : Prop} [Decidable c] {g h : Nat → Option α} {r : α} (hc : c) (k : Ev g r) : Ev (fun n => if c then g n else h n) r :=
  Ev.congr (fun n => if_pos hc) k
theorem evn {α : Type} {c : Prop} [Decidable c] {g h : Nat → Option α} {r : α} (hc : ¬ c) (k : Ev h r) : Ev (fun n => if c then g n else h n) r :=
  Ev.congr (fun n => if_neg hc) k
theorem evb {α β : Type} {g : Nat → Option α} {f : Nat → α → Option β} {a : α} {r : β} (h : Ev g a) (k : Ev (fun n => f n a) r) : Ev (fun n => (g n).bind (f n)) r := Ev.bind h k
theorem evr {α : Type} {a r : α} (h : a = r) : Ev (fun _ => some a) r := by subst h; exact Ev.now _
theorem evc {α : Type} {g : Nat → Option α} {r : α} {o : Option α} (hg : ∀ n, g n = o) (h : o = some r) : Ev g r := by
  subst h
  exact Ev.congr hg (Ev.now _)
/-- A loop that counts upwards to n. -/
theorem count_up (a n : Int) (P : Int → Prop) (hend : P n) (hround : ∀ i, a ≤ i → i < n → P (i + 1) → P i) : ∀ i, a ≤ i → i ≤ n → P i := by
  intro i h0 h1
  obtain ⟨d, hd⟩ : ∃ d : Nat, n - i = d := ⟨(n - i).toNat, by omega⟩
  induction d generalizing i with
  | zero =>
    obtain rfl : i = n := by omega
    exact hend
  | succ d ih => exact hround i h0 (by omega) (ih (i + 1) (by omega) (by omega) (by omega))
theorem w64 {x : Int} (h0 : -9223372036854775808 ≤ x) (h1 : x ≤ 9223372036854775807) : wrap64 x = x := by
  unfold wrap64
  omega
theorem w64_succ {i n : Int} (h0 : 0 ≤ i) (h : i < n) (hn : n ≤ 9223372036854775807) : wrap64 (i + 1) = i + 1 := w64 (by omega) (by omega)
theorem w64_pred {i n : Int} (h0 : 0 ≤ i) (h : i ≤ n) (hn : n ≤ 9223372036854775807) : wrap64 (i - 1) = i - 1 := w64 (by omega) (by omega)
theorem len_le {α : Type} {l : List α} (h : l.length ≤ maxLen) : (l.length : Int) ≤ 9223372036854775807 := by
  have : l.length ≤ 9223372036854775807 := by simpa [maxLen] using h
  omega
/-- A test that comes to true where P holds, and else to false. -/
def EvB (g : Nat → Option Bool) (P : Prop) : Prop := (P → Ev g true) ∧ (¬ P → Ev g false)
theorem EvB.map {g : Nat → Option Bool} {f : Nat → Bool → Option Bool} {P Q : Prop} (h : EvB g P) (ht : P → EvB (fun n => f n true) Q) (hf : ¬ P → EvB (fun n => f n false) Q) : EvB (fun n => (g n).bind (f n)) Q := by
  by_cases hp : P
  · exact ⟨fun q => Ev.bind (h.1 hp) ((ht hp).1 q), fun q => Ev.bind (h.1 hp) ((ht hp).2 q)⟩
  · exact ⟨fun q => Ev.bind (h.2 hp) ((hf hp).1 q), fun q => Ev.bind (h.2 hp) ((hf hp).2 q)⟩
end Go.Proofs.YtoofoicocfnfoaaDoor.PL
namespace Go.Proofs.YtoofoicocfnfoaaDoor.PL
open Go Go.RowKit Go.Proofs.YtoofoicocfnfoaaDoorW.PrintWords Go.Proofs.YtoofoicocfnfoaaDoorW.PrintLast Go.Proofs.YtoofoicocfnfoaaDoorW.PrintMore Go.Proofs.YtoofoicocfnfoaaDoor.Pr Go.Proofs.YtoofoicocfnfoaaDoor.TX Go.Proofs.YtoofoicocfnfoaaDoor.X
def ba (l : List UInt8) : ByteArray := ⟨l.toArray⟩
theorem ba_data (s : ByteArray) : ba s.data.toList = s := by obtain ⟨⟨l⟩⟩ := s; rfl
theorem ba_list (l : List UInt8) : (ba l).data.toList = l := rfl
theorem ba_toList (l : List UInt8) : (ba l).toList = l := by rw [Lib.toList_data]; rfl
theorem ba_size (l : List UInt8) : (ba l).size = l.length := rfl
theorem size_data (s : ByteArray) : s.data.toList.length = s.size := Array.length_toList
theorem ba_ex (s : ByteArray) (a b : Nat) : s.extract a b = ba ((s.data.toList.take b).drop a) := by
  rw [← ba_data (s.extract a b), Lib.extract_data, List.drop_take]
theorem ba_app (a b : List UInt8) : ba a ++ ba b = ba (a ++ b) := by
  rw [← ba_data (ba a ++ ba b)]
  congr 1
theorem byte_at (s : ByteArray) {i : Int} (h0 : 0 ≤ i) (h1 : i < (s.size : Int)) : ∃ b : UInt8, s.data.toList.drop i.toNat = b :: s.data.toList.drop (i + 1).toNat ∧
    s.data.toList.take (i + 1).toNat = s.data.toList.take i.toNat ++ [b] ∧ bt s i = (b.toNat : Int) := by
  have hl : i.toNat < s.data.toList.length := by rw [size_data]; omega
  refine ⟨s.data.toList[i.toNat], ?_, ?_, ?_⟩
  · rw [show (i + 1).toNat = i.toNat + 1 from by omega, ← List.drop_eq_getElem_cons hl]
  · rw [show (i + 1).toNat = i.toNat + 1 from by omega, List.take_add_one, List.getElem?_eq_getElem hl]; rfl
  · rw [← bt_at s i (by omega)]
    obtain ⟨⟨l⟩⟩ := s
    rfl
theorem take_end (s : ByteArray) : s.data.toList.take ((s.size : Int)).toNat = s.data.toList := by
  rw [show ((s.size : Int)).toNat = s.size from by omega, ← size_data, List.take_length]
theorem drop_end (s : ByteArray) : s.data.toList.drop ((s.size : Int)).toNat = [] := by
  rw [show ((s.size : Int)).toNat = s.size from by omega, ← size_data, List.drop_length]
def wrd (c : UInt8) : List UInt8 → List UInt8 → List (List UInt8)
  | p, [] => [p]
  | p, b :: r => if b = c then p :: wrd c [] r else wrd c (p ++ [b]) r
theorem wrd_cons (c b : UInt8) (p r : List UInt8) : wrd c p (b :: r) = if b = c then p :: wrd c [] r else wrd c (p ++ [b]) r := rfl
theorem wrd_eq (c : UInt8) : ∀ s p : List UInt8, wrd c p s = match parts c s with
    | [] => [p]
    | q :: t => (p ++ q) :: t
  | [], p => by simp [wrd, parts]
  | b :: r, p => by
    rw [wrd_cons, parts_cons]
    by_cases h : b = c
    · rw [if_pos h, if_pos h, wrd_eq c r []]
      cases hp : parts c r with
      | nil => exact absurd hp (parts_ne c r)
      | cons q t => simp
    · rw [if_neg h, if_neg h, wrd_eq c r (p ++ [b])]
      cases hp : parts c r with
      | nil => exact absurd hp (parts_ne c r)
      | cons q t => simp
theorem wrd_parts (c : UInt8) (s : List UInt8) : wrd c [] s = parts c s := by
  rw [wrd_eq]
  cases hp : parts c s with
  | nil => exact absurd hp (parts_ne c s)
  | cons q t => simp
theorem toNat_eq (b : UInt8) (n : Nat) (hn : n < 256) : ((b.toNat : Int) = (n : Int)) ↔ b = UInt8.ofNat n := by
  constructor
  · intro h
    refine UInt8.toNat_inj.1 ?_
    rw [UInt8.toNat_ofNat']; omega
  · rintro rfl
    rw [UInt8.toNat_ofNat']; omega
theorem words_ev (s : ByteArray) (hs : (s.size : Int) ≤ 4611686018427) : Ev (fun k => spileref16_Words.f k s) ((parts 32 s.data.toList).map ba) := by
  have key : ∀ i, 0 ≤ i → i ≤ (s.size : Int) → ∀ (out : List ByteArray) (fr : Int), 0 ≤ fr → fr ≤ i → (out.length : Int) ≤ i →
      Ev (fun k => spileref16_Words.l0 k s out fr i) (out ++ (wrd 32 ((s.data.toList.take i.toNat).drop fr.toNat) (s.data.toList.drop i.toNat)).map ba) := by
    refine count_up 0 (s.size : Int) _ ?_ ?_
    · intro out fr h0 h1 h2
      rw [drop_end]
      refine Ev.step (fun k => spileref16_Words.l0.eq_2 ..) (evp (by omega) (evp rfl (evp h0 (evp h1 (evp (by omega) (Ev.step (fun k => spileref16_Words.l0.eq_2 ..) (evn ?_ (evr ?_))))))))
      · rw [w64 (by omega) (by omega)]; omega
      · rw [ba_ex]; rfl
    · intro i h0 h1 ih out fr g0 g1 g2
      obtain ⟨b, e1, e2, e3⟩ := byte_at s h0 h1
      have hw : wrap64 (i + 1) = i + 1 := w64 (by omega) (by omega)
      have hlen : fr.toNat ≤ (s.data.toList.take i.toNat).length := by rw [List.length_take, size_data]; omega
      refine Ev.step (fun k => spileref16_Words.l0.eq_2 ..) (evp (by omega) (evn (by omega) (evp h0 (evp h1 ?_))))
      rw [e1, wrd_cons, hw, e3]
      by_cases c : b = 32
      · have q := ih (out ++ [s.extract fr.toNat i.toNat]) (i + 1) (by omega) (by omega) (by rw [List.length_append]; simp; omega)
        have z : (s.data.toList.take (i + 1).toNat).drop (i + 1).toNat = [] := List.drop_eq_nil_of_le (by rw [List.length_take]; omega)
        rw [z, List.append_assoc] at q
        rw [if_pos c]
        refine evp ((toNat_eq b 32 (by decide)).2 c) (evp g0 (evp g1 (evp (by omega) ?_)))
        rw [ba_ex] at q ⊢
        exact q
      · have q := ih out fr g0 (by omega) (by omega)
        rw [e2, List.drop_append_of_le_length hlen] at q
        rw [if_neg c]
        exact evn (fun h => c ((toNat_eq b 32 (by decide)).1 h)) q
  have := key 0 (by omega) (by omega) [] 0 (by omega) (by omega) (by simp)
  rw [show (0 : Int).toNat = 0 from rfl, List.take_zero, List.drop_zero, List.drop_zero, wrd_parts, List.nil_append] at this
  exact this
theorem split_ev (s : ByteArray) (hs : s.size < 4294967281) : strings_Split.f s ⟨#[32]⟩ = some ((parts 32 s.data.toList).map ba) := by
  unfold strings_Split.f
  rw [if_pos ⟨hs, rfl⟩]
  refine congrArg some ?_
  have e := Lib.splitB_data ⟨#[32]⟩ 0 (Lib.countB s ⟨#[32]⟩) s
  have e2 : Lib.splitK [32] 0 (Lib.countB s ⟨#[32]⟩) s.data.toList = parts 32 s.data.toList := split_eq 32 s.data.toList
  have e3 : (Lib.splitB ⟨#[32]⟩ 0 (Lib.countB s ⟨#[32]⟩) s).map (·.data.toList) = parts 32 s.data.toList := e.trans e2
  rw [← e3, List.map_map]
  refine (List.map_congr_left (fun x _ => ba_data x) |>.trans (List.map_id _)).symm
def lin : List UInt8 → List UInt8 → List (List UInt8) × Bool
  | p, [] => if p = [] then ([], true) else ([p], false)
  | p, b :: r => if b = 10 then (p :: (lin [] r).1, (lin [] r).2) else lin (p ++ [b]) r
theorem lin_cons (p : List UInt8) (b : UInt8) (r : List UInt8) : lin p (b :: r) = if b = 10 then (p :: (lin [] r).1, (lin [] r).2) else lin (p ++ [b]) r := rfl
theorem lin_cut : ∀ (s p : List UInt8), lin p s = if (cut1 10 s).2.2 = true then ((p ++ (cut1 10 s).1) :: (lin [] (cut1 10 s).2.1).1, (lin [] (cut1 10 s).2.1).2) else if p ++ s = [] then ([], true) else ([p ++ s], false)
  | [], p => by simp [lin, cut1]
  | b :: r, p => by
    rw [lin_cons, cut1_cons]
    by_cases h : b = 10
    · rw [if_pos h, if_pos h]; simp
    · rw [if_neg h, if_neg h, lin_cut r (p ++ [b])]
      simp
theorem lines_ev (s : ByteArray) (hs : (s.size : Int) ≤ 4611686018427) : Ev (fun k => spileref16_Lines.f k s) ((lin [] s.data.toList).1.map ba, (lin [] s.data.toList).2) := by
  have key : ∀ i, 0 ≤ i → i ≤ (s.size : Int) → ∀ (out : List ByteArray) (fr : Int), 0 ≤ fr → fr ≤ i → (out.length : Int) ≤ i →
      Ev (fun k => spileref16_Lines.l0 k s out fr i) (out ++ (lin ((s.data.toList.take i.toNat).drop fr.toNat) (s.data.toList.drop i.toNat)).1.map ba, (lin ((s.data.toList.take i.toNat).drop fr.toNat) (s.data.toList.drop i.toNat)).2) := by
    refine count_up 0 (s.size : Int) _ ?_ ?_
    · intro out fr h0 h1 h2
      rw [drop_end, take_end]
      refine Ev.step (fun k => spileref16_Lines.l0.eq_2 ..) (evn (by omega) ?_)
      unfold lin
      by_cases c : fr < (s.size : Int)
      · have hne : ¬ s.data.toList.drop fr.toNat = [] := fun e => by
          have := congrArg List.length e
          rw [List.length_drop, size_data] at this
          simp at this; omega
        rw [if_neg hne]
        refine evp c (evp h0 (evp h1 (evp (by omega) (evr ?_))))
        have ex : s.extract fr.toNat s.size = ba (s.data.toList.drop fr.toNat) := by
          rw [ba_ex, ← size_data, List.take_length]
        rw [ex]
        rfl
      · have he : s.data.toList.drop fr.toNat = [] := List.drop_eq_nil_of_le (by rw [size_data]; omega)
        rw [if_pos he]
        exact evn c (evr (by simp))
    · intro i h0 h1 ih out fr g0 g1 g2
      obtain ⟨b, e1, e2, e3⟩ := byte_at s h0 h1
      have hw : wrap64 (i + 1) = i + 1 := w64 (by omega) (by omega)
      have hlen : fr.toNat ≤ (s.data.toList.take i.toNat).length := by rw [List.length_take, size_data]; omega
      refine Ev.step (fun k => spileref16_Lines.l0.eq_2 ..) (evp h1 (evp h0 ?_))
      rw [e1, lin_cons, hw, e3]
      by_cases c : b = 10
      · have q := ih (out ++ [s.extract fr.toNat i.toNat]) (i + 1) (by omega) (by omega) (by rw [List.length_append]; simp; omega)
        have z : (s.data.toList.take (i + 1).toNat).drop (i + 1).toNat = [] := List.drop_eq_nil_of_le (by rw [List.length_take]; omega)
        rw [z, List.append_assoc] at q
        rw [if_pos c]
        refine evp ((toNat_eq b 10 (by decide)).2 c) (evp g0 (evp g1 (evp (by omega) (evp (by omega) ?_))))
        rw [ba_ex] at q ⊢
        exact q
      · have q := ih out fr g0 (by omega) (by omega)
        rw [e2, List.drop_append_of_le_length hlen] at q
        rw [if_neg c]
        exact evn (fun h => c ((toNat_eq b 10 (by decide)).1 h)) q
  have := key 0 (by omega) (by omega) [] 0 (by omega) (by omega) (by simp)
  rw [show (0 : Int).toNat = 0 from rfl, List.take_zero, List.drop_zero, List.drop_zero, List.nil_append] at this
  exact this
theorem number_loop (s : ByteArray) (hs : (s.size : Int) ≤ 18) : ∀ i, 0 ≤ i → i ≤ (s.size : Int) → ∀ n : Nat, n + 1 ≤ 10 ^ i.toNat →
    Ev (fun k => spileref16_Number.l0 k s (n : Int) i) (if (s.data.toList.drop i.toNat).all isDig = true then (((valFrom n (s.data.toList.drop i.toNat) : Nat) : Int), true) else (0, false)) := by
  refine count_up 0 (s.size : Int) _ ?_ ?_
  · intro n hn
    rw [drop_end]
    exact Ev.step (fun k => spileref16_Number.l0.eq_2 ..) (evn (by omega) (evr (by rw [if_pos (show ([] : List UInt8).all isDig = true from rfl)]; rfl)))
  · intro i h0 h1 ih n hn
    obtain ⟨b, e1, _, e3⟩ := byte_at s h0 h1
    have hw : wrap64 (i + 1) = i + 1 := w64 (by omega) (by omega)
    refine Ev.step (fun k => spileref16_Number.l0.eq_2 ..) (evp h1 (evp h0 ?_))
    rw [e3, e1, hw]
    have hp : 10 ^ i.toNat ≤ 10 ^ 17 := Nat.pow_le_pow_right (by decide) (by omega)
    by_cases c1 : (b.toNat : Int) < 48
    · have hd : ¬ isDig b = true := fun h => by have := (isDig_iff b).1 h; omega
      rw [if_neg (by simp [hd])]
      exact evp c1 (Ev.now _)
    · by_cases c2 : (b.toNat : Int) > 57
      · have hd : ¬ isDig b = true := fun h => by have := (isDig_iff b).1 h; omega
        rw [if_neg (by simp [hd])]
        exact evn c1 (evp c2 (Ev.now _))
      · have hd : isDig b = true := (isDig_iff b).2 (by omega)
        have e : wrap64 ((wrap64 (10 * (n : Int))) + (((b.toNat : Int) - 48) % 256)) = ((10 * n + (b.toNat - 48) : Nat) : Int) := by
          rw [w64 (x := 10 * (n : Int)) (by omega) (by omega), w64 (by omega) (by omega)]; omega
        rw [e]
        have q := ih (10 * n + (b.toNat - 48)) (by
          rw [show (i + 1).toNat = i.toNat + 1 from by omega, Nat.pow_succ]; omega)
        have ea : ((b :: s.data.toList.drop (i + 1).toNat).all isDig = true) = ((s.data.toList.drop (i + 1).toNat).all isDig = true) := by
          rw [List.all_cons, hd, Bool.true_and]
        simp only [ea]
        exact evn c1 (evn c2 q)
def numR (most : Nat) (l : List UInt8) : Int × Bool := match numP most l with
  | some v => ((v : Int), true)
  | none => (0, false)
theorem number_ev (s : ByteArray) (most : Nat) (hm : most ≤ 18) : Ev (fun k => spileref16_Number.f k s (most : Int)) (numR most s.data.toList) := by
  have hsz := size_data s
  have bad : ¬ (Canon s.data.toList ∧ s.data.toList.length ≤ most) → numR most s.data.toList = (0, false) := fun h => by
    unfold numR numP; rw [if_neg h]
  by_cases c1 : (s.size : Int) < 1
  · rw [bad (fun h => by have := h.1.1; omega)]
    exact evp c1 (Ev.step (fun k => spileref16_Number.j0.eq_2 ..) (evp rfl (Ev.now _)))
  by_cases c2 : (s.size : Int) > (most : Int)
  · rw [bad (fun h => by have := h.2; omega)]
    exact evn c1 (evp c2 (Ev.step (fun k => spileref16_Number.j0.eq_2 ..) (evp rfl (Ev.now _))))
  have go : ¬ (1 < s.data.toList.length ∧ s.data.toList.head? = some 48) → Ev (fun k => spileref16_Number.j0 k s false) (numR most s.data.toList) := by
    intro hh
    have q := number_loop s (by omega) 0 (by omega) (by omega) 0 (by decide)
    rw [show (0 : Int).toNat = 0 from rfl, List.drop_zero] at q
    refine Ev.step (fun k => spileref16_Number.j0.eq_2 ..) (evn (by simp) ?_)
    by_cases hd : s.data.toList.all isDig = true
    · have hc : Canon s.data.toList ∧ s.data.toList.length ≤ most := ⟨⟨by omega, hh, hd⟩, by omega⟩
      rw [if_pos hd] at q
      have e : numR most s.data.toList = (((valFrom 0 s.data.toList : Nat) : Int), true) := by unfold numR numP; rw [if_pos hc]
      rw [e]
      exact q
    · rw [if_neg hd] at q
      rw [bad (fun h => hd h.1.2.2)]
      exact q
  by_cases c3 : (s.size : Int) > 1
  · obtain ⟨b, e1, _, e3⟩ := byte_at s (i := 0) (by omega) (by omega)
    rw [show (0 : Int).toNat = 0 from rfl, List.drop_zero] at e1
    refine evn c1 (evn c2 (evp c3 (evp (by omega) ?_)))
    rw [e3]
    by_cases c4 : b = 48
    · have e4 : ((b.toNat : Int) == 48) = true := by rw [beq_iff_eq]; exact (toNat_eq b 48 (by decide)).2 c4
      rw [e4, bad (fun h => h.1.2.1 ⟨by omega, by rw [e1]; simp [c4]⟩)]
      exact Ev.step (fun k => spileref16_Number.j0.eq_2 ..) (evp rfl (Ev.now _))
    · have e4 : ((b.toNat : Int) == 48) = false := by rw [beq_eq_false_iff_ne]; exact fun h => c4 ((toNat_eq b 48 (by decide)).1 h)
      rw [e4]
      exact go (fun h => c4 (by have := h.2; rw [e1] at this; simpa using this))
  · exact evn c1 (evn c2 (evn c3 (go (fun h => by omega))))
theorem dec_digit : ∀ d : Fin 10, (⟨#[48, 49, 50, 51, 52, 53, 54, 55, 56, 57]⟩ : ByteArray).extract d.val (d.val + 1) = ba [UInt8.ofNat (48 + d.val)] := by decide
theorem dec_digit' {d : Int} (h0 : 0 ≤ d) (h1 : d < 10) : (⟨#[48, 49, 50, 51, 52, 53, 54, 55, 56, 57]⟩ : ByteArray).extract d.toNat (wrap64 (d + 1)).toNat = ba [UInt8.ofNat (48 + d.toNat)] := by
  rw [w64 (by omega) (by omega), show (d + 1).toNat = d.toNat + 1 from by omega]
  exact dec_digit ⟨d.toNat, by omega⟩
theorem decimal_ev : ∀ (m : Nat) (n : Int), 0 ≤ n → n ≤ 9223372036854775807 → n.toNat ≤ m → Ev (fun k => spileref16_Decimal.f k n) (ba (Lib.itoa n)) := by
  have it : ∀ n : Int, 0 ≤ n → Lib.itoa n = Lib.decDigits n.toNat := fun n h => by unfold Lib.itoa; rw [if_neg (by omega)]
  intro m
  induction m with
  | zero =>
    intro n h0 h1 hm
    obtain rfl : n = 0 := by omega
    refine Ev.step (fun k => spileref16_Decimal.f.eq_2 ..) (evp (by omega) (evp (by omega) (evp (by rw [w64 (by omega) (by omega)]; omega) (evp (by rw [w64 (by omega) (by omega)]; omega) (evr ?_)))))
    rw [dec_digit' (d := 0) (by omega) (by omega), it 0 (by omega), digits_small (by decide)]
  | succ m ih =>
    intro n h0 h1 hm
    by_cases c : n < 10
    · refine Ev.step (fun k => spileref16_Decimal.f.eq_2 ..) (evp c (evp h0 (evp (by rw [w64 (by omega) (by omega)]; omega) (evp (by rw [w64 (by omega) (by omega)]; omega) (evr ?_)))))
      rw [dec_digit' h0 c, it n h0, digits_small (by omega)]
    · have e1 : Int.tdiv n 10 = n / 10 := Int.tdiv_eq_ediv_of_nonneg h0
      have e2 : Int.tmod n 10 = n % 10 := Int.tmod_eq_emod_of_nonneg h0
      have q := ih (n / 10) (by omega) (by omega) (by omega)
      have g0 : 0 ≤ n % 10 := by omega
      have g1 : n % 10 < 10 := by omega
      refine Ev.step (fun k => spileref16_Decimal.f.eq_2 ..) (evn c ?_)
      rw [e1, e2, w64 (x := n / 10) (by omega) (by omega)]
      refine evb q (evp g0 (evp (by rw [w64 (by omega) (by omega)]; omega) (evp (by rw [w64 (by omega) (by omega)]; omega) ?_)))
      rw [dec_digit' g0 g1, ba_app]
      have hl : (Lib.itoa (n / 10)).length ≤ 19 := by
        rw [it _ (by omega)]
        exact digits_length_le (by omega) (by decide)
      refine evp (by rw [ba_size, ba_size]; simp; omega) (evr ?_)
      rw [it _ (by omega), it n h0, digits_big (u := n.toNat) (by omega)]
      rw [show (n / 10).toNat = n.toNat / 10 from by omega, show (n % 10).toNat = n.toNat % 10 from by omega]
theorem atoi_cases (s : ByteArray) (hs : s.size ≤ 281474976710656) : ∃ n e, strconv_Atoi.f s = some (n, e) ∧ (e = none ↔ Lib.atoiAll s.data.toList = .ok n) ∧ (-9223372036854775808 ≤ n ∧ n ≤ 9223372036854775807) := by
  unfold strconv_Atoi.f
  rw [if_pos hs]
  cases ha : Lib.atoiAll s.data.toList with
  | ok v =>
    refine ⟨v, none, rfl, by simp, ?_⟩
    unfold Lib.atoiAll at ha
    cases hl : s.data.toList with
    | nil => rw [hl] at ha; cases ha
    | cons c r =>
      rw [hl] at ha
      simp only [] at ha
      cases hm : Lib.parseMag (if c.toNat = 43 ∨ c.toNat = 45 then r else c :: r) with
      | range => rw [hm] at ha; cases ha
      | ok u =>
        rw [hm] at ha
        simp only [] at ha
        by_cases c1 : ¬ c.toNat = 45 ∧ 9223372036854775808 ≤ u
        · rw [if_pos c1] at ha; cases ha
        · rw [if_neg c1] at ha
          by_cases c2 : c.toNat = 45 ∧ 9223372036854775808 < u
          · rw [if_pos c2] at ha; cases ha
          · rw [if_neg c2] at ha
            injection ha with ha
            by_cases c3 : c.toNat = 45
            · rw [if_pos c3] at ha; omega
            · rw [if_neg c3] at ha; omega
      | _ => rw [hm] at ha; cases ha
  | range =>
    refine ⟨_, some 0, rfl, by simp, ?_⟩
    unfold Lib.atoiSat
    split <;> omega
  | _ => exact ⟨0, some 0, rfl, by simp, by omega⟩
theorem itoa_f {n : Int} (h0 : -9223372036854775808 ≤ n) (h1 : n ≤ 9223372036854775807) : strconv_Itoa.f n = some (ba (Lib.itoa n)) := by
  unfold strconv_Itoa.f
  rw [if_pos h0, if_pos h1]
  rfl
end Go.Proofs.YtoofoicocfnfoaaDoor.PL
namespace Go.Proofs.YtoofoicocfnfoaaDoor.PL
open Go Go.RowKit Go.Proofs.YtoofoicocfnfoaaDoorW.PrintWords Go.Proofs.YtoofoicocfnfoaaDoorW.PrintLast Go.Proofs.YtoofoicocfnfoaaDoorW.PrintMore Go.Proofs.YtoofoicocfnfoaaDoor.Pr Go.Proofs.YtoofoicocfnfoaaDoor.TX Go.Proofs.YtoofoicocfnfoaaDoor.X
theorem lin_len : ∀ (t p : List UInt8), (lin p t).1.length ≤ t.length + 1
  | [], p => by unfold lin; split <;> simp
  | b :: r, p => by
    rw [lin_cons]
    by_cases c : b = 10
    · rw [if_pos c]; have := lin_len r []; simp; omega
    · rw [if_neg c]; have := lin_len r (p ++ [b]); simp; omega
theorem lin_nil {s : List UInt8} {e : Bool} (h : lin [] s = ([], e)) : s = [] ∧ e = true := by
  rw [lin_cut] at h
  by_cases c : (cut1 10 s).2.2 = true
  · rw [if_pos c] at h; simp at h
  · rw [if_neg c] at h
    by_cases c2 : ([] : List UInt8) ++ s = []
    · rw [if_pos c2] at h
      exact ⟨by simpa using c2, (congrArg Prod.snd h).symm⟩
    · rw [if_neg c2] at h; simp at h
theorem lin_next {s l : List UInt8} {r : List (List UInt8)} {e : Bool} (h : lin [] s = (l :: r, e)) :
    (cut1 10 s).1 = l ∧ (((cut1 10 s).2.2 = true ∧ lin [] (cut1 10 s).2.1 = (r, e)) ∨ ((cut1 10 s).2.2 = false ∧ (cut1 10 s).2.1 = [] ∧ r = [] ∧ e = false)) ∧ s ≠ [] ∧ l.length ≤ s.length := by
  have hne : s ≠ [] := fun e2 => by rw [e2] at h; simp [lin] at h
  rw [lin_cut] at h
  by_cases c : (cut1 10 s).2.2 = true
  · rw [if_pos c] at h
    simp only [List.nil_append, Prod.mk.injEq, List.cons.injEq] at h
    refine ⟨h.1.1, .inl ⟨c, Prod.ext h.1.2 h.2⟩, hne, ?_⟩
    have := congrArg List.length (cut1_sum 10 s c)
    rw [List.length_append, h.1.1] at this
    omega
  · rw [if_neg c, if_neg (by simpa using hne)] at h
    simp only [List.nil_append, Prod.mk.injEq, List.cons.injEq] at h
    have := cut1_no 10 s (Bool.eq_false_iff.2 c)
    exact ⟨by rw [this.1]; exact h.1.1, .inr ⟨Bool.eq_false_iff.2 c, this.2, h.1.2.symm, h.2.symm⟩, hne, by rw [h.1.1]; exact Nat.le_refl _⟩
section
variable {α : Type}
/-- Line by line: the first line that has no such thing, or no line feed, stops it. -/
def run (lineL : List UInt8 → Option α) (e : Bool) : List (List UInt8) → List α → List α × Option Nat
  | [], out => (out, none)
  | l :: r, out => match lineL l with
    | none => ([], some out.length)
    | some x => if r = [] ∧ e = false then ([], some out.length) else run lineL e r (out ++ [x])
theorem run_cons (lineL : List UInt8 → Option α) (e : Bool) (l : List UInt8) (r : List (List UInt8)) (out : List α) : run lineL e (l :: r) out = match lineL l with
    | none => ([], some out.length)
    | some x => if r = [] ∧ e = false then ([], some out.length) else run lineL e r (out ++ [x]) := rfl
def printL (lineT : α → List UInt8) : List α → List UInt8
  | [] => []
  | x :: r => lineT x ++ 10 :: printL lineT r
end
theorem itoa_dig {n : Int} (h0 : 0 ≤ n) : Lib.itoa n = Lib.decDigits n.toNat := by unfold Lib.itoa; rw [if_neg (by omega)]
theorem itoa_le {n : Int} {m : Nat} (h0 : 0 ≤ n) (h1 : n < 10 ^ m) (hm : 1 ≤ m) : (Lib.itoa n).length ≤ m := by
  rw [itoa_dig h0]
  refine digits_length_le ?_ hm
  have : ((n.toNat : Nat) : Int) < ((10 ^ m : Nat) : Int) := by rw [Int.natCast_pow]; show ((n.toNat : Nat) : Int) < 10 ^ m; omega
  exact Int.ofNat_lt.1 this
theorem dec_ev {n : Int} (h0 : 0 ≤ n) (h1 : n ≤ 9223372036854775807) : Ev (fun k => spileref16_Decimal.f k n) (ba (Lib.itoa n)) := decimal_ev n.toNat n h0 h1 (by omega)
end Go.Proofs.YtoofoicocfnfoaaDoor.PL
namespace Go.Proofs.YtoofoicocfnfoaaDoor.PL
open Go Go.RowKit Go.Proofs.YtoofoicocfnfoaaDoorW.PrintWords Go.Proofs.YtoofoicocfnfoaaDoorW.PrintLast Go.Proofs.YtoofoicocfnfoaaDoorW.PrintMore Go.Proofs.YtoofoicocfnfoaaDoor.Pr Go.Proofs.YtoofoicocfnfoaaDoor.Opn
/-- A row's fault. -/
def flt (l : List S30) (i : Int) : Int :=
  if (rd_T30 l i).f0 < 0 ∨ (rd_T30 l i).f0 > 10000 ∨ (rd_T30 l i).f1 < 50000 ∨ (rd_T30 l i).f1 > 120000 then 2
  else if i > 0 ∧ (rd_T30 l i).f0 ≤ (rd_T30 l (i - 1)).f0 then 5
  else if i > 0 ∧ (rd_T30 l i).f1 > (rd_T30 l (i - 1)).f1 then 18 else 0
theorem flt_cases (l : List S30) (i : Int) : (((rd_T30 l i).f0 < 0 ∨ (rd_T30 l i).f0 > 10000 ∨ (rd_T30 l i).f1 < 50000 ∨ (rd_T30 l i).f1 > 120000) ∧ flt l i = 2) ∨
    ((0 ≤ (rd_T30 l i).f0 ∧ (rd_T30 l i).f0 ≤ 10000 ∧ 50000 ≤ (rd_T30 l i).f1 ∧ (rd_T30 l i).f1 ≤ 120000) ∧
      ((i > 0 ∧ (rd_T30 l i).f0 ≤ (rd_T30 l (i - 1)).f0 ∧ flt l i = 5) ∨ (i > 0 ∧ (rd_T30 l (i - 1)).f0 < (rd_T30 l i).f0 ∧ (rd_T30 l i).f1 > (rd_T30 l (i - 1)).f1 ∧ flt l i = 18) ∨
       (flt l i = 0 ∧ (i > 0 → (rd_T30 l (i - 1)).f0 < (rd_T30 l i).f0 ∧ (rd_T30 l i).f1 ≤ (rd_T30 l (i - 1)).f1)))) := by
  unfold flt
  split
  · exact .inl ⟨by assumption, rfl⟩
  · split
    · exact .inr ⟨by omega, .inl ⟨by omega, by omega, rfl⟩⟩
    · split
      · exact .inr ⟨by omega, .inr (.inl ⟨by omega, by omega, by omega, rfl⟩)⟩
      · exact .inr ⟨by omega, .inr (.inr ⟨rfl, by omega⟩)⟩
theorem fault_ev (l : List S30) (hl : (l.length : Int) ≤ 9223372036854775807) (i : Int) (h0 : 0 ≤ i) (h1 : i < (l.length : Int)) : Ev (fun k => density_fault.f k l i) (flt l i) := by
  have hp := w64_pred h0 (Int.le_of_lt h1) hl
  unfold density_fault.f
  rcases flt_cases l i with ⟨a, e⟩ | ⟨a, ⟨b, c, e⟩ | ⟨b, c, d, e⟩ | ⟨e, b⟩⟩ <;> rw [e]
  · by_cases c1 : (rd_T30 l i).f0 < 0
    · (repeat' first | assumption | exact Ev.now _ | exact evr rfl | refine evp (by first | omega | exact rfl | assumption | decide | (simp only [decide_eq_true_eq]; omega) | (simp; done) | (simp; omega)) ?_ | refine evn (by first | omega | assumption | decide | (simp only [decide_eq_true_eq]; omega) | (simp; done) | (simp; omega)) ?_ | refine Ev.step (fun k => density_fault.j0.eq_2 ..) ?_)
    · by_cases c2 : (rd_T30 l i).f0 > 10000
      · (repeat' first | assumption | exact Ev.now _ | exact evr rfl | refine evp (by first | omega | exact rfl | assumption | decide | (simp only [decide_eq_true_eq]; omega) | (simp; done) | (simp; omega)) ?_ | refine evn (by first | omega | assumption | decide | (simp only [decide_eq_true_eq]; omega) | (simp; done) | (simp; omega)) ?_ | refine Ev.step (fun k => density_fault.j0.eq_2 ..) ?_)
      · by_cases c3 : (rd_T30 l i).f1 < 50000
        · (repeat' first | assumption | exact Ev.now _ | exact evr rfl | refine evp (by first | omega | exact rfl | assumption | decide | (simp only [decide_eq_true_eq]; omega) | (simp; done) | (simp; omega)) ?_ | refine evn (by first | omega | assumption | decide | (simp only [decide_eq_true_eq]; omega) | (simp; done) | (simp; omega)) ?_ | refine Ev.step (fun k => density_fault.j0.eq_2 ..) ?_)
        · (repeat' first | assumption | exact Ev.now _ | exact evr rfl | refine evp (by first | omega | exact rfl | assumption | decide | (simp only [decide_eq_true_eq]; omega) | (simp; done) | (simp; omega)) ?_ | refine evn (by first | omega | assumption | decide | (simp only [decide_eq_true_eq]; omega) | (simp; done) | (simp; omega)) ?_ | refine Ev.step (fun k => density_fault.j0.eq_2 ..) ?_)
  · refine evp h0 (evp h1 (evn (by omega) (evn (by omega) (evn (by omega) (Ev.step (fun k => density_fault.j0.eq_2 ..) ?_)))))
    rw [hp]
    (repeat' first | assumption | exact Ev.now _ | exact evr rfl | refine evp (by first | omega | exact rfl | assumption | decide | (simp only [decide_eq_true_eq]; omega) | (simp; done) | (simp; omega)) ?_ | refine evn (by first | omega | assumption | decide | (simp only [decide_eq_true_eq]; omega) | (simp; done) | (simp; omega)) ?_ | refine Ev.step (fun k => density_fault.j1.eq_2 ..) ?_)
  · refine evp h0 (evp h1 (evn (by omega) (evn (by omega) (evn (by omega) (Ev.step (fun k => density_fault.j0.eq_2 ..) ?_)))))
    rw [hp]
    refine evn (by simp; omega) (evp b (evp (by omega) (evp (by omega) (Ev.step (fun k => density_fault.j1.eq_2 ..) ?_))))
    rw [hp]
    (repeat' first | assumption | exact Ev.now _ | exact evr rfl | refine evp (by first | omega | exact rfl | assumption | decide | (simp only [decide_eq_true_eq]; omega) | (simp; done) | (simp; omega)) ?_ | refine evn (by first | omega | assumption | decide | (simp only [decide_eq_true_eq]; omega) | (simp; done) | (simp; omega)) ?_ | refine Ev.step (fun k => density_fault.j1.eq_2 ..) ?_)
  · refine evp h0 (evp h1 (evn (by omega) (evn (by omega) (evn (by omega) (Ev.step (fun k => density_fault.j0.eq_2 ..) ?_)))))
    rw [hp]
    by_cases c : i > 0
    · obtain ⟨b1, b2⟩ := b c
      refine evn (by simp; omega) (evp c (evp (by omega) (evp (by omega) (Ev.step (fun k => density_fault.j1.eq_2 ..) ?_))))
      rw [hp]
      (repeat' first | assumption | exact Ev.now _ | exact evr rfl | refine evp (by first | omega | exact rfl | assumption | decide | (simp only [decide_eq_true_eq]; omega) | (simp; done) | (simp; omega)) ?_ | refine evn (by first | omega | assumption | decide | (simp only [decide_eq_true_eq]; omega) | (simp; done) | (simp; omega)) ?_ | refine Ev.step (fun k => density_fault.j1.eq_2 ..) ?_)
    · (repeat' first | assumption | exact Ev.now _ | exact evr rfl | refine evp (by first | omega | exact rfl | assumption | decide | (simp only [decide_eq_true_eq]; omega) | (simp; done) | (simp; omega)) ?_ | refine evn (by first | omega | assumption | decide | (simp only [decide_eq_true_eq]; omega) | (simp; done) | (simp; omega)) ?_ | refine Ev.step (fun k => density_fault.j1.eq_2 ..) ?_)
theorem ref_one (l : List S30) (hl : (l.length : Int) ≤ 9223372036854775807) (i : Int) (h0 : 0 ≤ i) (h1 : i < (l.length : Int)) :
    (flt l i ≠ 0 → Ev (fun k => spileref16_Check.l0 k l i) (i, flt l i)) ∧ (flt l i = 0 → ∀ r, Ev (fun k => spileref16_Check.l0 k l (i + 1)) r → Ev (fun k => spileref16_Check.l0 k l i) r) := by
  have hp := w64_pred h0 (Int.le_of_lt h1) hl
  have hs := w64_succ h0 h1 hl
  rcases flt_cases l i with ⟨a, e⟩ | ⟨a, ⟨b, c, e⟩ | ⟨b, c, d, e⟩ | ⟨e, b⟩⟩ <;> rw [e]
  · refine ⟨fun _ => ?_, fun h => absurd h (by decide)⟩
    by_cases c1 : (rd_T30 l i).f0 < 0
    · refine Ev.step (fun k => spileref16_Check.l0.eq_2 ..) ?_
      (repeat' first | assumption | exact Ev.now _ | exact evr rfl | refine evp (by first | omega | exact rfl | assumption | decide | (simp only [decide_eq_true_eq]; omega) | (simp; done) | (simp; omega)) ?_ | refine evn (by first | omega | assumption | decide | (simp only [decide_eq_true_eq]; omega) | (simp; done) | (simp; omega)) ?_ | refine Ev.step (fun k => spileref16_Check.j1.eq_2 ..) ?_)
    · by_cases c2 : (rd_T30 l i).f0 > 10000
      · refine Ev.step (fun k => spileref16_Check.l0.eq_2 ..) ?_
        (repeat' first | assumption | exact Ev.now _ | exact evr rfl | refine evp (by first | omega | exact rfl | assumption | decide | (simp only [decide_eq_true_eq]; omega) | (simp; done) | (simp; omega)) ?_ | refine evn (by first | omega | assumption | decide | (simp only [decide_eq_true_eq]; omega) | (simp; done) | (simp; omega)) ?_ | refine Ev.step (fun k => spileref16_Check.j1.eq_2 ..) ?_)
      · by_cases c3 : (rd_T30 l i).f1 < 50000
        · refine Ev.step (fun k => spileref16_Check.l0.eq_2 ..) ?_
          (repeat' first | assumption | exact Ev.now _ | exact evr rfl | refine evp (by first | omega | exact rfl | assumption | decide | (simp only [decide_eq_true_eq]; omega) | (simp; done) | (simp; omega)) ?_ | refine evn (by first | omega | assumption | decide | (simp only [decide_eq_true_eq]; omega) | (simp; done) | (simp; omega)) ?_ | refine Ev.step (fun k => spileref16_Check.j1.eq_2 ..) ?_)
        · refine Ev.step (fun k => spileref16_Check.l0.eq_2 ..) ?_
          (repeat' first | assumption | exact Ev.now _ | exact evr rfl | refine evp (by first | omega | exact rfl | assumption | decide | (simp only [decide_eq_true_eq]; omega) | (simp; done) | (simp; omega)) ?_ | refine evn (by first | omega | assumption | decide | (simp only [decide_eq_true_eq]; omega) | (simp; done) | (simp; omega)) ?_ | refine Ev.step (fun k => spileref16_Check.j1.eq_2 ..) ?_)
  · refine ⟨fun _ => ?_, fun h => absurd h (by decide)⟩
    refine Ev.step (fun k => spileref16_Check.l0.eq_2 ..) (evp h1 (evp h0 (evn (by omega) (evn (by omega) (evn (by omega) (Ev.step (fun k => spileref16_Check.j1.eq_2 ..) ?_))))))
    rw [hp]
    (repeat' first | assumption | exact Ev.now _ | exact evr rfl | refine evp (by first | omega | exact rfl | assumption | decide | (simp only [decide_eq_true_eq]; omega) | (simp; done) | (simp; omega)) ?_ | refine evn (by first | omega | assumption | decide | (simp only [decide_eq_true_eq]; omega) | (simp; done) | (simp; omega)) ?_ | refine Ev.step (fun k => spileref16_Check.j2.eq_2 ..) ?_)
  · refine ⟨fun _ => ?_, fun h => absurd h (by decide)⟩
    refine Ev.step (fun k => spileref16_Check.l0.eq_2 ..) (evp h1 (evp h0 (evn (by omega) (evn (by omega) (evn (by omega) (Ev.step (fun k => spileref16_Check.j1.eq_2 ..) ?_))))))
    rw [hp]
    refine evn (by simp; omega) (evp b (evp h0 (evp h1 (evp (by omega) (evp (by omega) (Ev.step (fun k => spileref16_Check.j2.eq_2 ..) ?_))))))
    rw [hp]
    (repeat' first | assumption | exact Ev.now _ | exact evr rfl | refine evp (by first | omega | exact rfl | assumption | decide | (simp only [decide_eq_true_eq]; omega) | (simp; done) | (simp; omega)) ?_ | refine evn (by first | omega | assumption | decide | (simp only [decide_eq_true_eq]; omega) | (simp; done) | (simp; omega)) ?_)
  · refine ⟨fun h => absurd rfl h, fun _ r hr => ?_⟩
    refine Ev.step (fun k => spileref16_Check.l0.eq_2 ..) (evp h1 (evp h0 (evn (by omega) (evn (by omega) (evn (by omega) (Ev.step (fun k => spileref16_Check.j1.eq_2 ..) ?_))))))
    rw [hp]
    by_cases c : i > 0
    · obtain ⟨b1, b2⟩ := b c
      refine evn (by simp; omega) (evp c (evp h0 (evp h1 (evp (by omega) (evp (by omega) (Ev.step (fun k => spileref16_Check.j2.eq_2 ..) ?_))))))
      rw [hp, hs]
      (repeat' first | assumption | exact Ev.now _ | exact evr rfl | refine evp (by first | omega | exact rfl | assumption | decide | (simp only [decide_eq_true_eq]; omega) | (simp; done) | (simp; omega)) ?_ | refine evn (by first | omega | assumption | decide | (simp only [decide_eq_true_eq]; omega) | (simp; done) | (simp; omega)) ?_)
    · refine evn (by simp; omega) (evn c (Ev.step (fun k => spileref16_Check.j2.eq_2 ..) ?_))
      rw [hs]
      (repeat' first | assumption | exact Ev.now _ | exact evr rfl | refine evp (by first | omega | exact rfl | assumption | decide | (simp only [decide_eq_true_eq]; omega) | (simp; done) | (simp; omega)) ?_ | refine evn (by first | omega | assumption | decide | (simp only [decide_eq_true_eq]; omega) | (simp; done) | (simp; omega)) ?_)
/-- What stands at a check's end. -/
def tl (l : List S30) : Int × Int := if (rd_T30 l 0).f0 = 0 then (if (rd_T30 l ((l.length : Int) - 1)).f0 = 10000 then (-1, 0) else ((l.length : Int) - 1, 10)) else (0, 10)
theorem tl_cases (l : List S30) : ((rd_T30 l 0).f0 = 0 ∧ (rd_T30 l ((l.length : Int) - 1)).f0 = 10000 ∧ tl l = (-1, 0)) ∨ ((rd_T30 l 0).f0 = 0 ∧ ¬ (rd_T30 l ((l.length : Int) - 1)).f0 = 10000 ∧ tl l = ((l.length : Int) - 1, 10)) ∨ (¬ (rd_T30 l 0).f0 = 0 ∧ tl l = (0, 10)) := by
  unfold tl
  split
  · split
    · exact .inl ⟨by assumption, by assumption, rfl⟩
    · exact .inr (.inl ⟨by assumption, by assumption, rfl⟩)
  · exact .inr (.inr ⟨by assumption, rfl⟩)
def Spec (l : List S30) (i : Int) (r : Int × Int) : Prop :=
  (∃ j, i ≤ j ∧ j < (l.length : Int) ∧ flt l j ≠ 0 ∧ r = (j, flt l j) ∧ ∀ m, i ≤ m → m < j → flt l m = 0) ∨ ((∀ m, i ≤ m → m < (l.length : Int) → flt l m = 0) ∧ r = tl l)
theorem loops (l : List S30) (h2 : 2 ≤ (l.length : Int)) (hl : (l.length : Int) ≤ 9223372036854775807) : ∀ i, 0 ≤ i → i ≤ (l.length : Int) →
    ∃ r, Ev (fun k => density_Check.l0 k l (l.length : Int) i) r ∧ Ev (fun k => spileref16_Check.l0 k l i) r ∧ Spec l i r := by
  have hp := w64_pred (i := (l.length : Int)) (by omega) (Int.le_refl _) hl
  refine count_up 0 (l.length : Int) _ ?_ ?_
  · refine ⟨tl l, ?_, ?_, .inr ⟨fun m a b => absurd b (by omega), rfl⟩⟩
    · refine Ev.step (fun k => density_Check.l0.eq_2 ..) ?_
      rw [hp]
      rcases tl_cases l with ⟨a, b, e⟩ | ⟨a, b, e⟩ | ⟨a, e⟩ <;> rw [e]
      · (repeat' first | assumption | exact Ev.now _ | exact evr rfl | refine evp (by first | omega | exact rfl | assumption | decide | (simp only [decide_eq_true_eq]; omega) | (simp; done) | (simp; omega)) ?_ | refine evn (by first | omega | assumption | decide | (simp only [decide_eq_true_eq]; omega) | (simp; done) | (simp; omega)) ?_)
      · (repeat' first | assumption | exact Ev.now _ | exact evr rfl | refine evp (by first | omega | exact rfl | assumption | decide | (simp only [decide_eq_true_eq]; omega) | (simp; done) | (simp; omega)) ?_ | refine evn (by first | omega | assumption | decide | (simp only [decide_eq_true_eq]; omega) | (simp; done) | (simp; omega)) ?_)
      · (repeat' first | assumption | exact Ev.now _ | exact evr rfl | refine evp (by first | omega | exact rfl | assumption | decide | (simp only [decide_eq_true_eq]; omega) | (simp; done) | (simp; omega)) ?_ | refine evn (by first | omega | assumption | decide | (simp only [decide_eq_true_eq]; omega) | (simp; done) | (simp; omega)) ?_)
    · refine Ev.step (fun k => spileref16_Check.l0.eq_2 ..) ?_
      rw [hp]
      rcases tl_cases l with ⟨a, b, e⟩ | ⟨a, b, e⟩ | ⟨a, e⟩ <;> rw [e]
      · (repeat' first | assumption | exact Ev.now _ | exact evr rfl | refine evp (by first | omega | exact rfl | assumption | decide | (simp only [decide_eq_true_eq]; omega) | (simp; done) | (simp; omega)) ?_ | refine evn (by first | omega | assumption | decide | (simp only [decide_eq_true_eq]; omega) | (simp; done) | (simp; omega)) ?_)
      · (repeat' first | assumption | exact Ev.now _ | exact evr rfl | refine evp (by first | omega | exact rfl | assumption | decide | (simp only [decide_eq_true_eq]; omega) | (simp; done) | (simp; omega)) ?_ | refine evn (by first | omega | assumption | decide | (simp only [decide_eq_true_eq]; omega) | (simp; done) | (simp; omega)) ?_)
      · (repeat' first | assumption | exact Ev.now _ | exact evr rfl | refine evp (by first | omega | exact rfl | assumption | decide | (simp only [decide_eq_true_eq]; omega) | (simp; done) | (simp; omega)) ?_ | refine evn (by first | omega | assumption | decide | (simp only [decide_eq_true_eq]; omega) | (simp; done) | (simp; omega)) ?_)
  · intro i h0 h1 ih
    have hs := w64_succ h0 h1 hl
    have hf := fault_ev l hl i h0 h1
    have hr := ref_one l hl i h0 h1
    by_cases e : flt l i = 0
    · obtain ⟨r, r1, r2, r3⟩ := ih
      refine ⟨r, ?_, hr.2 e r r2, ?_⟩
      · refine Ev.step (fun k => density_Check.l0.eq_2 ..) (evp h1 (evb hf (evp e ?_)))
        rw [hs]
        exact r1
      · rcases r3 with ⟨j, a, b, c, d, f⟩ | ⟨a, b⟩
        · refine .inl ⟨j, by omega, b, c, d, fun m m1 m2 => ?_⟩
          by_cases q : m = i
          · subst q; exact e
          · exact f m (by omega) m2
        · refine .inr ⟨fun m m1 m2 => ?_, b⟩
          by_cases q : m = i
          · subst q; exact e
          · exact a m (by omega) m2
    · exact ⟨(i, flt l i), Ev.step (fun k => density_Check.l0.eq_2 ..) (evp h1 (evb hf (evn e (Ev.now _)))), hr.1 e, .inl ⟨i, Int.le_refl _, h1, e, rfl, fun m m1 m2 => absurd m2 (by omega)⟩⟩
/-- A table without fault. -/
def Good (l : List S30) : Prop := 2 ≤ (l.length : Int) ∧ (l.length : Int) ≤ 128 ∧ (∀ m, 0 ≤ m → m < (l.length : Int) → flt l m = 0) ∧ (rd_T30 l 0).f0 = 0 ∧ (rd_T30 l ((l.length : Int) - 1)).f0 = 10000
theorem tl_ok {l : List S30} : (tl l).2 = 0 ↔ ((rd_T30 l 0).f0 = 0 ∧ (rd_T30 l ((l.length : Int) - 1)).f0 = 10000) := by
  rcases tl_cases l with ⟨a, b, e⟩ | ⟨a, b, e⟩ | ⟨a, e⟩ <;> rw [e]
  · exact ⟨fun _ => ⟨a, b⟩, fun _ => rfl⟩
  · exact ⟨fun h => absurd (show (10 : Int) = 0 from h) (by decide), fun h => absurd h.2 b⟩
  · exact ⟨fun h => absurd h (by decide), fun h => absurd h.1 a⟩
theorem check_both (l : List S30) (hl : (l.length : Int) ≤ 9223372036854775807) : ∃ r, Ev (fun k => density_Check.f k l) r ∧ Ev (fun k => spileref16_Check.f k l) r ∧ (r.2 = 0 ↔ Good l) ∧ (2 ≤ (l.length : Int) → (l.length : Int) ≤ 128 → Spec l 0 r) := by
  unfold density_Check.f spileref16_Check.f
  by_cases c1 : (l.length : Int) > 128
  · exact ⟨(-1, 8), by (repeat' first | assumption | exact Ev.now _ | exact evr rfl | refine evp (by first | omega | exact rfl | assumption | decide | (simp only [decide_eq_true_eq]; omega) | (simp; done) | (simp; omega)) ?_ | refine evn (by first | omega | assumption | decide | (simp only [decide_eq_true_eq]; omega) | (simp; done) | (simp; omega)) ?_), by (repeat' first | assumption | exact Ev.now _ | exact evr rfl | refine evp (by first | omega | exact rfl | assumption | decide | (simp only [decide_eq_true_eq]; omega) | (simp; done) | (simp; omega)) ?_ | refine evn (by first | omega | assumption | decide | (simp only [decide_eq_true_eq]; omega) | (simp; done) | (simp; omega)) ?_), ⟨fun h => absurd h (by decide), fun h => absurd h.2.1 (by omega)⟩, fun _ h => absurd h (by omega)⟩
  · by_cases c2 : (l.length : Int) < 2
    · exact ⟨(-1, 9), by (repeat' first | assumption | exact Ev.now _ | exact evr rfl | refine evp (by first | omega | exact rfl | assumption | decide | (simp only [decide_eq_true_eq]; omega) | (simp; done) | (simp; omega)) ?_ | refine evn (by first | omega | assumption | decide | (simp only [decide_eq_true_eq]; omega) | (simp; done) | (simp; omega)) ?_), by (repeat' first | assumption | exact Ev.now _ | exact evr rfl | refine evp (by first | omega | exact rfl | assumption | decide | (simp only [decide_eq_true_eq]; omega) | (simp; done) | (simp; omega)) ?_ | refine evn (by first | omega | assumption | decide | (simp only [decide_eq_true_eq]; omega) | (simp; done) | (simp; omega)) ?_), ⟨fun h => absurd h (by decide), fun h => absurd h.1 (by omega)⟩, fun h => absurd h (by omega)⟩
    · obtain ⟨r, r1, r2, r3⟩ := loops l (by omega) hl 0 (by omega) (by omega)
      refine ⟨r, by (repeat' first | assumption | exact Ev.now _ | exact evr rfl | refine evp (by first | omega | exact rfl | assumption | decide | (simp only [decide_eq_true_eq]; omega) | (simp; done) | (simp; omega)) ?_ | refine evn (by first | omega | assumption | decide | (simp only [decide_eq_true_eq]; omega) | (simp; done) | (simp; omega)) ?_), by (repeat' first | assumption | exact Ev.now _ | exact evr rfl | refine evp (by first | omega | exact rfl | assumption | decide | (simp only [decide_eq_true_eq]; omega) | (simp; done) | (simp; omega)) ?_ | refine evn (by first | omega | assumption | decide | (simp only [decide_eq_true_eq]; omega) | (simp; done) | (simp; omega)) ?_), ?_, fun _ _ => r3⟩
      rcases r3 with ⟨j, a, b, c, rfl, f⟩ | ⟨a, rfl⟩
      · exact ⟨fun h => absurd h c, fun h => absurd (h.2.2.1 j a b) c⟩
      · rw [tl_ok]
        exact ⟨fun h => ⟨by omega, by omega, a, h.1, h.2⟩, fun h => ⟨h.2.2.2.1, h.2.2.2.2⟩⟩
theorem right_ev (l : List S30) (hl : (l.length : Int) ≤ 9223372036854775807) : EvB (fun k => density_right.f k l) (Good l) := by
  obtain ⟨r, r1, _, r3, _⟩ := check_both l hl
  exact ⟨fun h => evb r1 (evr (by simpa using r3.2 h)), fun h => evb r1 (evr (by simpa using fun q => h (r3.1 q)))⟩
theorem ref_right_ev (l : List S30) (hl : (l.length : Int) ≤ 9223372036854775807) : EvB (fun k => spileref16_Right.f k l) (Good l) := by
  obtain ⟨r, _, r1, r3, _⟩ := check_both l hl
  exact ⟨fun h => evb r1 (evr (by simpa using r3.2 h)), fun h => evb r1 (evr (by simpa using fun q => h (r3.1 q)))⟩
theorem good_row {l : List S30} (h : Good l) {m : Int} (h0 : 0 ≤ m) (h1 : m < (l.length : Int)) : 0 ≤ (rd_T30 l m).f0 ∧ (rd_T30 l m).f0 ≤ 10000 ∧ 50000 ≤ (rd_T30 l m).f1 ∧ (rd_T30 l m).f1 ≤ 120000 := by
  have e := h.2.2.1 m h0 h1
  rcases flt_cases l m with ⟨_, e2⟩ | ⟨a, _⟩
  · omega
  · exact a
theorem drop_rd {l : List S30} {i : Int} (h0 : 0 ≤ i) (h1 : i < (l.length : Int)) : l.drop i.toNat = rd_T30 l i :: l.drop (i + 1).toNat := by
  rw [show (i + 1).toNat = i.toNat + 1 from by omega, List.drop_eq_getElem_cons (by omega)]
  congr 1
  unfold rd_T30
  rw [List.getD_eq_getElem?_getD, List.getElem?_eq_getElem (by omega)]
  rfl
theorem same_self (l : List S30) (hl : (l.length : Int) ≤ 9223372036854775807) : Ev (fun k => spileref16_Same.f k l l) true := by
  refine evp rfl ?_
  refine count_up 0 (l.length : Int) (fun i => Ev (fun k => spileref16_Same.l0 k l l i) true) ?_ ?_ 0 (by omega) (by omega)
  · exact Ev.step (fun k => spileref16_Same.l0.eq_2 ..) (by (repeat' first | assumption | exact Ev.now _ | exact evr rfl | refine evp (by first | omega | exact rfl | assumption | decide | (simp only [decide_eq_true_eq]; omega) | (simp; done) | (simp; omega)) ?_ | refine evn (by first | omega | assumption | decide | (simp only [decide_eq_true_eq]; omega) | (simp; done) | (simp; omega)) ?_))
  · intro i h0 h1 ih
    have hs := w64_succ h0 h1 hl
    refine Ev.step (fun k => spileref16_Same.l0.eq_2 ..) ?_
    rw [hs]
    exact evp h1 (evp h0 (evp h1 (evn (by simp) ih)))
theorem few_ev (l : List S30) : ∃ b, spileref16_Few.f l = some b := by
  unfold spileref16_Few.f
  repeat' split
  all_goals exact ⟨_, rfl⟩
end Go.Proofs.YtoofoicocfnfoaaDoor.PL
namespace Go.Proofs.YtoofoicocfnfoaaDoor.PL
open Go Go.RowKit Go.Proofs.YtoofoicocfnfoaaDoorW.PrintWords Go.Proofs.YtoofoicocfnfoaaDoorW.PrintLast Go.Proofs.YtoofoicocfnfoaaDoorW.PrintMore Go.Proofs.YtoofoicocfnfoaaDoor.Pr Go.Proofs.YtoofoicocfnfoaaDoor.Opn
theorem rd_mem30 {l : List S30} {i : Int} (h0 : 0 ≤ i) (h : i < (l.length : Int)) : rd_T30 l i ∈ l := by
  unfold rd_T30
  rw [List.getD_eq_getElem?_getD, List.getElem?_eq_getElem (by omega)]
  exact List.getElem_mem _
theorem rd_of_mem30 {l : List S30} {x : S30} (h : x ∈ l) : ∃ i : Int, 0 ≤ i ∧ i < (l.length : Int) ∧ rd_T30 l i = x := by
  obtain ⟨i, hi⟩ := List.mem_iff_getElem?.1 h
  have hl := (List.getElem?_eq_some_iff.1 hi).1
  refine ⟨(i : Int), by omega, by omega, ?_⟩
  unfold rd_T30
  rw [List.getD_eq_getElem?_getD, Int.toNat_natCast, hi]
  rfl
def Fin (f : Nat → List S30 → Option (Int × Int)) (out : List S30) (r : List S30 × Int) : Prop := ∃ c, Ev (fun k => f k out) c ∧ r = if c.2 = 0 then (out, 0) else ([], c.2)
end Go.Proofs.YtoofoicocfnfoaaDoor.PL
