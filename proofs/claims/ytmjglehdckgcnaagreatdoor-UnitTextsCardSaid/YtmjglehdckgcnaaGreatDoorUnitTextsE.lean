/-
A part of what these laws rest on: contracts of the functions that they reach, and plain lemmas.
-/
import Derived.Lib.LazyBuf
import Derived.Test.YtmjglehdckgcnaaGreatDoorUnitTextsD
set_option linter.unusedVariables false
set_option linter.unusedSimpArgs false
namespace Go.Proofs.YtmjglehdckgcnaaGreatDoor.Pr
open Go.RowKit Go.Proofs.YtmjglehdckgcnaaGreatDoorW.PrintWords Go.Proofs.YtmjglehdckgcnaaGreatDoorW.PrintLast Go.Proofs.YtmjglehdckgcnaaGreatDoorW.PrintMore Go.Proofs.YtmjglehdckgcnaaGreatDoor.X
attribute [local go_sem] max2_int min2_int max_two min_two max_three min_three max_four min_four   -- for this text's walks alone
set_option linter.unusedVariables false
set_option linter.unusedSimpArgs false
mutual
def spileref03_Unit.l0 : Nat → ByteArray → Int → Option (Int × Int × Int)
 | 0, _, _ => none
 | k + 1, x0, x5 => if x5 ≤ 7 then ((spileref03_names.f x5).bind fun t173 => (spileref03_Unit.l1 k x0 x5 t173 0)) else (some (0, 0, 4))
def spileref03_Unit.l1 : Nat → ByteArray → Int → List ByteArray → Int → Option (Int × Int × Int)
 | 0, _, _, _, _ => none
 | k + 1, x0, x5, x6, x7 => if x7 < (x6.length : Int) then (if 0 ≤ x7 then (if (rdOf ByteArray.empty x6 x7).toList = x0.toList then ((spileref03_factors.f x5).bind fun t177 => (if x7 < (t177.length : Int) then (some (x5, rd t177 x7, 0)) else (none))) else (spileref03_Unit.l1 k x0 x5 x6 (wrap64 (x7 + 1)))) else (none)) else (spileref03_Unit.l0 k x0 (wrap64 (x5 + 1)))
end
def spileref03_Unit.f (k : Nat) (a0 : ByteArray) : Option (Int × Int × Int) := spileref03_Unit.l0 k a0 1
set_option maxHeartbeats 8000000 in
set_option maxRecDepth 100000 in
theorem spileref03_Unit.calls (k : Nat) (a0 : ByteArray) (r1 : Int) (r2 : Int) (r3 : Int) (w : World) (h : spileref03_Unit.f k a0 = some (r1, r2, r3)) :
  Calls Tryz.prog 18 #[.string a0] w fun e w' => e = .returned (.tuple #[.int .i64 r1, .int .i64 r2, .int .i64 r3]) ∧ Below w.heap.size w w' := by
 have HB := Aside0.mk (Below.refl w.heap.size w)
 have H : (spileref03_Unit.l0 k a0 1) = some (r1, r2, r3) := h
 clear h
 have H' := Aside0.mk H
 clear H
 go_enter Tryz.func18, Tryz.ntmps18
 go_wp2
 go_loopg [5] k (fun kq v5 w' => ∃ (x5_1 : Int), v5 = .int .i64 x5_1 ∧ Aside0 (spileref03_Unit.l0 kq a0 x5_1 = some (r1, r2, r3)) ∧ Aside0 (kq ≤ k) ∧ Aside0 (Below w.heap.size w w'))
 case atStart => exact ⟨(1), (by first | rfl | (simp; done) | (simp [*]; done)), H', ⟨Nat.le_refl _⟩, ⟨by repeat (first | (with_reducible first | exact HB.out | apply below_alloc | apply pw_below_drewN | apply below_drew1) | exact HB.out)⟩⟩
 case round =>
  clear H'
  try clear c1
  obtain ⟨x5_1, rfl, HA, HK1, HB⟩ := hrel
  cases gk with
  | zero => exact absurd HA.out (by simp [spileref03_Unit.l0])
  | succ k1 =>
   have H := HA.out
   clear HA
   simp only [spileref03_Unit.l0] at H
   by_cases c2 : x5_1 ≤ 7
   ·
    rw [if_pos c2] at H
    have c2b0 : decide (x5_1 ≤ 7) = true := decide_eq_true c2
    clear c2
    replace H := Option.bind_eq_some_iff.mp H
    obtain ⟨t173, A30, H⟩ := H
    replace H : (spileref03_Unit.l1 k1 a0 x5_1 t173 0) = some (r1, r2, r3) := H
    have A3 := Aside0.mk A30
    clear A30
    have H' := Aside0.mk H
    clear H
    go_wp2_with (first | ((with_reducible refine gate_callee (f := 44) rfl ?_); refine goesL_ (some 13) rfl rfl Tryz.func44 (by kernel_rfl) rfl #[.int .i64 x5_1] rfl (by (try simp only [List.map_toArray, List.map_cons, List.map_nil]); first | done | rfl | (simp only [List.length_drop, List.length_take]; rfl)) ?_; (with_reducible refine (spileref03_names.calls x5_1 t173 _ A3.out).mono ?_); rintro e w4 ⟨v174, rfl, ho0, hb⟩; refine ⟨_, rfl, ?_⟩; have n0_ := Aside0.mk (Kd.V_lower (Kd.V_mono (ok' := fun k_ => True) ho0 (fun k_ hk_ => trivial)) (below_size (by repeat (first | (with_reducible first | exact HB.out | apply below_alloc | apply pw_below_drewN | apply below_drew1) | exact HB.out)))); have n1_ := Aside0.mk (below_step (by repeat (first | (with_reducible first | exact HB.out | apply below_alloc | apply pw_below_drewN | apply below_drew1) | exact HB.out)) hb); clear HB; have HO175 := n0_; have HB := n1_; clear n0_ n1_; (try clear hb); (try clear hb2); (try clear hk); (try clear hi); (try clear ho0)))
    go_loopg [7] k1 (fun kq v7 w' => ∃ (x7_2 : Int), v7 = .int .i64 x7_2 ∧ Aside0 (spileref03_Unit.l1 kq a0 x5_1 t173 x7_2 = some (r1, r2, r3)) ∧ Aside0 (kq ≤ k1) ∧ Aside0 (Kd.V Kd.string 9 w' w.heap.size (fun _ => True) v174 t173) ∧ Aside0 (Below w.heap.size w w'))
    case atStart => exact ⟨(0), (by first | rfl | (simp; done) | (simp [*]; done)), H', ⟨Nat.le_refl _⟩, ⟨by (with_reducible repeat (first | apply Kd.V_alloc | apply Kd.V_drewN | apply Kd.V_drew)); exact HO175.out⟩, ⟨by repeat (first | (with_reducible first | exact HB.out | apply below_alloc | apply pw_below_drewN | apply below_drew1) | exact HB.out)⟩⟩
    case round =>
     clear H'
     try clear c1
     try clear c2
     try clear c2b0
     try clear p2
     try clear c4
     obtain ⟨x7_2, rfl, HA, HK2, HO_6, HB⟩ := hrel
     cases gk with
     | zero => exact absurd HA.out (by simp [spileref03_Unit.l1])
     | succ k2 =>
      have H := HA.out
      clear HA
      simp only [spileref03_Unit.l1] at H
      by_cases c5 : x7_2 < (t173.length : Int)
      ·
       rw [if_pos c5] at H
       have c5b0 : decide (x7_2 < (t173.length : Int)) = true := decide_eq_true c5
       clear c5
       by_cases c6 : 0 ≤ x7_2
       ·
        rw [if_pos c6] at H
        have c6b0 : decide (0 ≤ x7_2) = true := decide_eq_true c6
        clear c6
        by_cases c7 : (rdOf ByteArray.empty t173 x7_2).toList = a0.toList
        ·
         rw [if_pos c7] at H
         have c7b0 : ((rdOf ByteArray.empty t173 x7_2).toList == a0.toList) = true := beq_iff_eq.mpr c7
         have c7b1 : ((rdOf ByteArray.empty t173 x7_2).toList != a0.toList) = false := bne_eq_false_iff_eq.mpr c7
         clear c7
         replace H := Option.bind_eq_some_iff.mp H
         obtain ⟨t177, A80, H⟩ := H
         replace H : (if x7_2 < (t177.length : Int) then (some (x5_1, rd t177 x7_2, 0)) else (none)) = some (r1, r2, r3) := H
         have A8 := Aside0.mk A80
         clear A80
         by_cases c9 : x7_2 < (t177.length : Int)
         ·
          rw [if_pos c9] at H
          have c9b0 : decide (x7_2 < (t177.length : Int)) = true := decide_eq_true c9
          clear c9
          simp only [Option.some.injEq, Prod.mk.injEq] at H
          obtain ⟨rfl, rfl, rfl⟩ := H
          obtain ⟨Ao10, co10, eo10⟩ := Kd.V_slice HO_6.out
          subst eo10
          have p176 : 0 ≤ (x7_2 : Int) := of_decide_eq_true (by first | (with_reducible assumption) | assumption)
          have q176 : x7_2 < (t173.length : Int) := of_decide_eq_true (by first | (with_reducible assumption) | assumption)
          obtain ⟨ad176, e176, hx176_0⟩ := Kd.at_string (Kd.V_reads' HO_6.out).2.2 x7_2 p176 q176
          cases e176
          replace p176 := eq_true p176
          replace q176 := eq_true q176
          try go_wp2
          have n0_ := Aside0.mk (Kd.V_drew HO_6.out)
          have n1_ := Aside0.mk (below_drew1 HB.out)
          clear HO_6
          clear HB
          have HO_6 := n0_
          have HB := n1_
          clear n0_ n1_
          refine start_ (n := 9) (S := fun w' => True) (ds := []) #[false, false, false, false, false, false, false, false, false] (by kernel_rfl) rfl rfl trivial (fun hHeld => ?_)
          generalize wr.drew = w11 at HO_6 HB ⊢
          refine pure_ (i := 0) (N := some 26) (v := ?_) (a' := ?_) #[true, false, false, false, false, false, false, false, false] rfl rfl (by kernel_rfl) (fun _ _ _ h => h) (Or.inl ⟨by rfl, ?_⟩) ?_ ?_
          rotate_left
          ·
           intro w'
           go_simp
           with_reducible rfl
          rotate_left
          ·
           simp only [Act.put, List.setIfInBounds_toArray, List.set_cons_zero, List.set_cons_succ, i64_w, i32_w]
           rfl
          refine pure_ (i := 1) (N := some 27) (v := ?_) (a' := ?_) #[true, true, false, false, false, false, false, false, false] rfl rfl (by kernel_rfl) (fun _ _ _ h => h) (Or.inl ⟨by rfl, ?_⟩) ?_ ?_
          rotate_left
          ·
           intro w'
           go_simp
           with_reducible rfl
          rotate_left
          ·
           simp only [Act.put, List.setIfInBounds_toArray, List.set_cons_zero, List.set_cons_succ, i64_w, i32_w]
           rfl
          refine pure_ (i := 3) (N := some 29) (v := ?_) (a' := ?_) #[true, true, false, true, false, false, false, false, false] rfl rfl (by kernel_rfl) (fun _ _ _ h => h) (Or.inl ⟨by rfl, ?_⟩) ?_ ?_
          rotate_left
          ·
           intro w'
           go_simp
           with_reducible rfl
          rotate_left
          ·
           simp only [Act.put, List.setIfInBounds_toArray, List.set_cons_zero, List.set_cons_succ, i64_w, i32_w]
           rfl
          refine one_ (i := 2) (N := some 28) #[true, true, true, true, false, false, false, false, false] rfl rfl (by kernel_rfl) (by decide) (fun K hK => ?_)
          refine goes_ Tryz.func45 (by kernel_rfl) rfl #[.int .i64 x5_1] (by rfl) rfl rfl (by (try simp only [List.map_toArray, List.map_cons, List.map_nil]); first | done | rfl | (simp only [List.length_drop, List.length_take]; rfl)) ?_
          with_reducible refine (spileref03_factors.calls x5_1 t177 _ A8.out).mono ?_
          rintro e w12 ⟨v178, rfl, ho0, hb⟩
          refine ⟨_, rfl, ?_⟩
          have n0_ := Aside0.mk (Kd.V_below (by (with_reducible repeat (first | apply Kd.V_alloc | apply Kd.V_drewN | apply Kd.V_drew)); exact HO_6.out) hb)
          have n1_ := Aside0.mk (Kd.V_lower (Kd.V_mono (ok' := fun k_ => True) ho0 (fun k_ hk_ => trivial)) (below_size (by repeat (first | (with_reducible first | exact HB.out | apply below_alloc | apply pw_below_drewN | apply below_drew1) | exact HB.out))))
          have n2_ := Aside0.mk (below_step (by repeat (first | (with_reducible first | exact HB.out | apply below_alloc | apply pw_below_drewN | apply below_drew1) | exact HB.out)) hb)
          clear HO_6
          clear HB
          have HO_6 := n0_
          have HO179 := n1_
          have HB := n2_
          clear n0_ n1_ n2_
          (try clear hb)
          (try clear hb2)
          (try clear hk)
          (try clear hi)
          (try clear ho0)
          obtain ⟨Ao13, co13, eo13⟩ := Kd.V_slice HO179.out
          (first | subst eo13 | (injection eo13 with f1_ f2_ f3_; have f4_ := f1_.symm; have f5_ := f3_.symm; clear f1_ f2_ f3_; subst f4_; subst f5_))
          have p180 : 0 ≤ (x7_2 : Int) := of_decide_eq_true (by first | (with_reducible assumption) | assumption)
          have q180 : x7_2 < (t177.length : Int) := of_decide_eq_true (by first | (with_reducible assumption) | assumption)
          obtain ⟨ad180, e180, hx180_0⟩ := Kd.at_int (Kd.V_reads' HO179.out).2.2 x7_2 p180 q180
          cases e180
          replace p180 := eq_true p180
          replace q180 := eq_true q180
          refine hK.out _ _ trivial (fun hHeld => ?_)
          clear hK K
          refine norm_ (a' := ?_) ?_ ?_
          rotate_left
          ·
           show Act.put _ (some 28) _ = _
           simp only [Act.put, List.setIfInBounds_toArray, List.set_cons_zero, List.set_cons_succ, i64_w, i32_w]
           rfl
          refine pure_ (i := 4) (N := some 30) (v := ?_) (a' := ?_) #[true, true, true, true, true, false, false, false, false] rfl rfl (by kernel_rfl) (fun _ _ _ h => h) (Or.inl ⟨by rfl, ?_⟩) ?_ ?_
          rotate_left
          ·
           intro w'
           go_simp
           with_reducible rfl
          rotate_left
          ·
           simp only [Act.put, List.setIfInBounds_toArray, List.set_cons_zero, List.set_cons_succ, i64_w, i32_w]
           rfl
          refine pure_ (i := 6) (N := some 2) (v := ?_) (a' := ?_) #[true, true, true, true, true, false, true, false, false] rfl rfl (by kernel_rfl) (fun _ _ _ h => h) (Or.inl ⟨by rfl, ?_⟩) ?_ ?_
          rotate_left
          ·
           intro w'
           go_simp
           with_reducible rfl
          rotate_left
          ·
           simp only [Act.put, List.setIfInBounds_toArray, List.set_cons_zero, List.set_cons_succ, i64_w, i32_w]
           rfl
          refine one_ (i := 5) (N := some 31) #[true, true, true, true, true, true, true, false, false] rfl rfl (by kernel_rfl) (by decide) (fun K hK => ?_)
          refine value_ (w1 := ?_) (v := ?_) (by rfl) rfl ?_ ?_
          rotate_left 2
          ·
           go_simp
           constructor
           ·
            rfl
           ·
            rfl
          refine hK.out _ _ trivial (fun hHeld => ?_)
          clear hK K
          refine norm_ (a' := ?_) ?_ ?_
          rotate_left
          ·
           show Act.put _ (some 31) _ = _
           simp only [Act.put, List.setIfInBounds_toArray, List.set_cons_zero, List.set_cons_succ, i64_w, i32_w]
           rfl
          refine pure_ (i := 7) (N := some 3) (v := ?_) (a' := ?_) #[true, true, true, true, true, true, true, true, false] rfl rfl (by kernel_rfl) (fun _ _ _ h => h) (Or.inl ⟨by rfl, ?_⟩) ?_ ?_
          rotate_left
          ·
           intro w'
           go_simp
           with_reducible rfl
          rotate_left
          ·
           simp only [Act.put, List.setIfInBounds_toArray, List.set_cons_zero, List.set_cons_succ, i64_w, i32_w]
           rfl
          refine pure_ (i := 8) (N := some 4) (v := ?_) (a' := ?_) #[true, true, true, true, true, true, true, true, true] rfl rfl (by kernel_rfl) (fun _ _ _ h => h) (Or.inl ⟨by rfl, ?_⟩) ?_ ?_
          rotate_left
          ·
           intro w'
           go_simp
           with_reducible rfl
          rotate_left
          ·
           simp only [Act.put, List.setIfInBounds_toArray, List.set_cons_zero, List.set_cons_succ, i64_w, i32_w]
           rfl
          refine done_ (by kernel_rfl) ?_
          try go_wp2
          go_ret3
          exact ⟨by first | rfl | (simp [errW_none, errW_some] <;> rfl) | (simp [*, errW_none, errW_some] <;> rfl), by repeat (first | (with_reducible first | exact HB.out | apply below_alloc | apply pw_below_drewN | apply below_drew1) | exact HB.out)⟩
         ·
          rw [if_neg c9] at H
          exact absurd H (by simp)
        ·
         rw [if_neg c7] at H
         have c7b0 : ((rdOf ByteArray.empty t173 x7_2).toList == a0.toList) = false := beq_eq_false_iff_ne.mpr c7
         have c7b1 : ((rdOf ByteArray.empty t173 x7_2).toList != a0.toList) = true := bne_iff_ne.mpr c7
         have H' := Aside0.mk H
         clear H
         obtain ⟨Ao14, co14, eo14⟩ := Kd.V_slice HO_6.out
         subst eo14
         have p176 : 0 ≤ (x7_2 : Int) := of_decide_eq_true (by first | (with_reducible assumption) | assumption)
         have q176 : x7_2 < (t173.length : Int) := of_decide_eq_true (by first | (with_reducible assumption) | assumption)
         obtain ⟨ad176, e176, hx176_0⟩ := Kd.at_string (Kd.V_reads' HO_6.out).2.2 x7_2 p176 q176
         cases e176
         replace p176 := eq_true p176
         replace q176 := eq_true q176
         go_wp2
         go_roundg k2
         case measure => have := HK1.out; have := HK2.out; omega
         case rel => exact ⟨(wrap64 (x7_2 + 1)), (by first | rfl | (simp; done) | (simp [*]; done)), H', ⟨by have := HK1.out; have := HK2.out; omega⟩, ⟨by (with_reducible repeat (first | apply Kd.V_alloc | apply Kd.V_drewN | apply Kd.V_drew)); exact HO_6.out⟩, ⟨by repeat (first | (with_reducible first | exact HB.out | apply below_alloc | apply pw_below_drewN | apply below_drew1) | exact HB.out)⟩⟩
       ·
        rw [if_neg c6] at H
        exact absurd H (by simp)
      ·
       rw [if_neg c5] at H
       have c5b0 : decide (x7_2 < (t173.length : Int)) = false := decide_eq_false c5
       clear c5
       have H' := Aside0.mk H
       clear H
       obtain ⟨Ao15, co15, eo15⟩ := Kd.V_slice HO_6.out
       subst eo15
       go_wp2
       go_roundg k2
       case measure => have := HK1.out; have := HK2.out; omega
       case rel => exact ⟨(wrap64 (x5_1 + 1)), (by first | rfl | (simp; done) | (simp [*]; done)), H', ⟨by have := HK1.out; have := HK2.out; omega⟩, ⟨by repeat (first | (with_reducible first | exact HB.out | apply below_alloc | apply pw_below_drewN | apply below_drew1) | exact HB.out)⟩⟩
   ·
    rw [if_neg c2] at H
    have c2b0 : decide (x5_1 ≤ 7) = false := decide_eq_false c2
    clear c2
    simp only [Option.some.injEq, Prod.mk.injEq] at H
    obtain ⟨rfl, rfl, rfl⟩ := H
    go_wp2
    go_ret3
    exact ⟨by first | rfl | (simp [errW_none, errW_some] <;> rfl) | (simp [*, errW_none, errW_some] <;> rfl), by repeat (first | (with_reducible first | exact HB.out | apply below_alloc | apply pw_below_drewN | apply below_drew1) | exact HB.out)⟩
mutual
def spileref03_decimal.j0 : Nat → Int → Int → ByteArray → Option (ByteArray)
 | 0, _, _, _ => none
 | k + 1, x0, x1, x5 => if x1 = 0 then (none) else ((strconv_Itoa.f (wrap64 (Int.tdiv x0 x1))).bind fun t180 => (if x5.size + t180.size ≤ 9223372036854775807 then (if (Int.tmod x0 x1) > 0 then (if (x5 ++ t180).size + 1 ≤ 9223372036854775807 then (spileref03_decimal.j1 k x1 ((x5 ++ t180) ++ (⟨#[46]⟩ : ByteArray)) (Int.tmod x0 x1)) else (none)) else (spileref03_decimal.j1 k x1 (x5 ++ t180) (Int.tmod x0 x1))) else (none)))
def spileref03_decimal.j1 : Nat → Int → ByteArray → Int → Option (ByteArray)
 | 0, _, _, _ => none
 | k + 1, x1, x5, x6 => spileref03_decimal.l0 k x1 x5 x6
def spileref03_decimal.l0 : Nat → Int → ByteArray → Int → Option (ByteArray)
 | 0, _, _, _ => none
 | k + 1, x1, x5, x6 => if x6 > 0 then (if (wrap64 (Int.tdiv x1 10)) = 0 then (none) else ((strconv_Itoa.f (wrap64 (Int.tdiv x6 (wrap64 (Int.tdiv x1 10))))).bind fun t181 => (if x5.size + t181.size ≤ 9223372036854775807 then (spileref03_decimal.l0 k (wrap64 (Int.tdiv x1 10)) (x5 ++ t181) (Int.tmod x6 (wrap64 (Int.tdiv x1 10)))) else (none)))) else (some x5)
end
def spileref03_decimal.f (k : Nat) (a0 : Int) (a1 : Int) : Option (ByteArray) := if a0 < 0 then (spileref03_decimal.j0 k (wrap64 (-a0)) a1 (⟨#[45]⟩ : ByteArray)) else (spileref03_decimal.j0 k a0 a1 (⟨#[]⟩ : ByteArray))
set_option maxHeartbeats 8000000 in
set_option maxRecDepth 100000 in
theorem spileref03_decimal.calls (k : Nat) (a0 : Int) (a1 : Int) (r : ByteArray) (w : World) (hG : GI w) (h : spileref03_decimal.f k a0 a1 = some r) :
  Calls Tryz.prog 19 #[.int .i64 a0, .int .i64 a1] w fun e w' => e = .returned (.string r) ∧ Below w.heap.size w w' := by
 have HG := Aside0.mk hG
 clear hG
 have HB := Aside0.mk (Below.refl w.heap.size w)
 have H : (if a0 < 0 then (spileref03_decimal.j0 k (wrap64 (-a0)) a1 (⟨#[45]⟩ : ByteArray)) else (spileref03_decimal.j0 k a0 a1 (⟨#[]⟩ : ByteArray))) = some r := h
 clear h
 have HC3 := Aside0.mk H
 clear H
 go_enter Tryz.func19, Tryz.ntmps19
 go_upto_if 8 with (fail)
 go_cut [0, 5] (fun v0 v5 wc => ∃ (kq : Nat) (x0_2 : Int) (x5_2 : ByteArray), v0 = .int .i64 x0_2 ∧ v5 = .string x5_2 ∧ Aside0 (spileref03_decimal.j0 kq x0_2 a1 x5_2 = some r) ∧ Aside0 (kq ≤ k) ∧ Aside0 (Below w.heap.size w wc))
 case first =>
  have H := HC3.out
  clear HC3
  by_cases c4 : a0 < 0
  ·
   rw [if_pos c4] at H
   have c4b0 : decide (a0 < 0) = true := decide_eq_true c4
   clear c4
   (first | rw [c4b0] | (simp only [i64_w, i32_w]; rw [c4b0]) | skip)
   have H' := Aside0.mk H
   clear H
   go_wp2
   go_meet
   case rel => exact ⟨_, (wrap64 (-a0)), ((⟨#[45]⟩ : ByteArray)), (by first | rfl | (simp; done) | (simp [*]; done)), (by first | rfl | (simp; done) | (simp [*]; done)), H', ⟨by first | omega | exact Nat.le_refl _⟩, ⟨by repeat (first | (with_reducible first | exact HB.out | apply below_alloc | apply pw_below_drewN | apply below_drew1) | exact HB.out)⟩⟩
  ·
   rw [if_neg c4] at H
   have c4b0 : decide (a0 < 0) = false := decide_eq_false c4
   clear c4
   (first | rw [c4b0] | (simp only [i64_w, i32_w]; rw [c4b0]) | skip)
   have H' := Aside0.mk H
   clear H
   go_wp2
   go_meet
   case rel => exact ⟨_, (a0), ((⟨#[]⟩ : ByteArray)), (by first | rfl | (simp; done) | (simp [*]; done)), (by first | rfl | (simp; done) | (simp [*]; done)), H', ⟨by first | omega | exact Nat.le_refl _⟩, ⟨by repeat (first | (with_reducible first | exact HB.out | apply below_alloc | apply pw_below_drewN | apply below_drew1) | exact HB.out)⟩⟩
 case rest =>
  clear HC3
  try clear c1
  try clear p2
  try clear c4
  try clear c4b0
  obtain ⟨kq, x0_2, x5_2, rfl, rfl, HA, HJ2, HB⟩ := hcut
  cases kq with
  | zero => exact absurd HA.out (by simp [spileref03_decimal.j0])
  | succ kj2 =>
   have H := HA.out
   clear HA
   simp only [spileref03_decimal.j0] at H
   by_cases c5 : a1 = 0
   ·
    rw [if_pos c5] at H
    exact absurd H (by simp)
   ·
    rw [if_neg c5] at H
    have c5b0 : (a1 == 0) = false := beq_eq_false_iff_ne.mpr c5
    have c5b1 : (a1 != 0) = true := bne_iff_ne.mpr c5
    replace H := Option.bind_eq_some_iff.mp H
    obtain ⟨t180, A60, H⟩ := H
    replace H : (if x5_2.size + t180.size ≤ 9223372036854775807 then (if (Int.tmod x0_2 a1) > 0 then (if (x5_2 ++ t180).size + 1 ≤ 9223372036854775807 then (spileref03_decimal.j1 kj2 a1 ((x5_2 ++ t180) ++ (⟨#[46]⟩ : ByteArray)) (Int.tmod x0_2 a1)) else (none)) else (spileref03_decimal.j1 kj2 a1 (x5_2 ++ t180) (Int.tmod x0_2 a1))) else (none)) = some r := H
    have A6 := Aside0.mk A60
    clear A60
    by_cases c7 : x5_2.size + t180.size ≤ 9223372036854775807
    ·
     rw [if_pos c7] at H
     have c7b0 := eq_true c7
     have c7b1 : decide (x5_2.size + t180.size ≤ 9223372036854775807) = true := decide_eq_true c7
     try have c7b2 : (9223372036854775807 < x5_2.size + t180.size) = False := eq_false (Nat.not_lt.2 c7)
     have HC8 := Aside0.mk H
     clear H
     go_upto_if 21 with (first | ((with_reducible refine gate_callee (f := 14) rfl ?_); refine goesL_ (some 15) rfl rfl Tryz.func14 (by kernel_rfl) rfl #[.int .i64 (wrap64 (Int.tdiv x0_2 a1))] rfl (by (try simp only [List.map_toArray, List.map_cons, List.map_nil]); first | done | rfl | (simp only [List.length_drop, List.length_take]; rfl)) ?_; (with_reducible refine (strconv_Itoa.calls (wrap64 (Int.tdiv x0_2 a1)) t180 _ ?side1 A6.out).mono ?_); (case side1 => exact GI.below HG.out (by repeat (first | (with_reducible first | exact HB.out | apply below_alloc | apply pw_below_drewN | apply below_drew1) | exact HB.out))); rintro e w9 ⟨rfl, hb⟩; refine ⟨_, rfl, ?_⟩; have n0_ := Aside0.mk (below_step (by repeat (first | (with_reducible first | exact HB.out | apply below_alloc | apply pw_below_drewN | apply below_drew1) | exact HB.out)) hb); clear HB; have HB := n0_; clear n0_; (try clear hb); (try clear hb2); (try clear hk); (try clear hi)))
     (try simp only [Act.put, List.setIfInBounds_toArray, List.set_cons_zero, List.set_cons_succ])
     go_cut [5] (fun v5 wc => ∃ (kq : Nat) (x5_7 : ByteArray), v5 = .string x5_7 ∧ Aside0 (spileref03_decimal.j1 kq a1 x5_7 (Int.tmod x0_2 a1) = some r) ∧ Aside0 (kq ≤ kj2) ∧ Aside0 (Below w.heap.size w wc))
     case first =>
      have H := HC8.out
      clear HC8
      by_cases c10 : (Int.tmod x0_2 a1) > 0
      ·
       rw [if_pos c10] at H
       have c10b0 : decide (0 < (Int.tmod x0_2 a1)) = true := decide_eq_true c10
       clear c10
       (first | rw [c10b0] | (simp only [i64_w, i32_w]; rw [c10b0]) | skip)
       by_cases c11 : (x5_2 ++ t180).size + 1 ≤ 9223372036854775807
       ·
        rw [if_pos c11] at H
        have c11b0 := eq_true c11
        have c11b1 : decide ((x5_2 ++ t180).size + 1 ≤ 9223372036854775807) = true := decide_eq_true c11
        try have c11b2 : (9223372036854775807 < (x5_2 ++ t180).size + 1) = False := eq_false (Nat.not_lt.2 c11)
        try have c11b3 : (9223372036854775807 < x5_2.size + t180.size + 1) = False := eq_false (Nat.not_lt.2 (by have h_ := c11; simp only [ByteArray.size_append] at h_; exact h_))
        have H' := Aside0.mk H
        clear H
        go_wp2
        go_meet
        case rel => exact ⟨_, ((x5_2 ++ t180) ++ (⟨#[46]⟩ : ByteArray)), (by first | rfl | (simp; done) | (simp [*]; done)), H', ⟨by have := HJ2.out; first | omega | exact Nat.le_refl _⟩, ⟨by repeat (first | (with_reducible first | exact HB.out | apply below_alloc | apply pw_below_drewN | apply below_drew1) | exact HB.out)⟩⟩
       ·
        rw [if_neg c11] at H
        exact absurd H (by simp)
      ·
       rw [if_neg c10] at H
       have c10b0 : decide (0 < (Int.tmod x0_2 a1)) = false := decide_eq_false c10
       clear c10
       (first | rw [c10b0] | (simp only [i64_w, i32_w]; rw [c10b0]) | skip)
       have H' := Aside0.mk H
       clear H
       go_wp2
       go_meet
       case rel => exact ⟨_, (x5_2 ++ t180), (by first | rfl | (simp; done) | (simp [*]; done)), H', ⟨by have := HJ2.out; first | omega | exact Nat.le_refl _⟩, ⟨by repeat (first | (with_reducible first | exact HB.out | apply below_alloc | apply pw_below_drewN | apply below_drew1) | exact HB.out)⟩⟩
     case rest =>
      clear HC8
      try clear c1
      try clear p2
      try clear c4
      try clear c4b0
      try clear c5
      try clear c5b0
      try clear c5b1
      try clear p6
      try clear c7
      try clear c7b0
      try clear c7b1
      try clear c7b2
      try clear c10
      try clear c10b0
      try clear c11
      try clear c11b0
      try clear c11b1
      try clear c11b2
      try clear p2
      obtain ⟨kq, x5_7, rfl, HA, HJ7, HB⟩ := hcut
      cases kq with
      | zero => exact absurd HA.out (by simp [spileref03_decimal.j1])
      | succ kj7 =>
       have H := HA.out
       clear HA
       simp only [spileref03_decimal.j1] at H
       have H' := Aside0.mk H
       clear H
       go_wp2
       go_loopg [1, 5, 6] kj7 (fun kq v1 v5 v6 w' => ∃ (x1_3 : Int) (x5_3 : ByteArray) (x6_3 : Int), v1 = .int .i64 x1_3 ∧ v5 = .string x5_3 ∧ v6 = .int .i64 x6_3 ∧ Aside0 (spileref03_decimal.l0 kq x1_3 x5_3 x6_3 = some r) ∧ Aside0 (kq ≤ kj7) ∧ Aside0 (Below w.heap.size w w'))
       case atStart => exact ⟨(a1), (x5_7), ((Int.tmod x0_2 a1)), (by first | rfl | (simp; done) | (simp [*]; done)), (by first | rfl | (simp; done) | (simp [*]; done)), (by first | rfl | (simp; done) | (simp [*]; done)), H', ⟨Nat.le_refl _⟩, ⟨by repeat (first | (with_reducible first | exact HB.out | apply below_alloc | apply pw_below_drewN | apply below_drew1) | exact HB.out)⟩⟩
       case round =>
        clear H'
        try clear c1
        try clear p2
        try clear c4
        try clear c4b0
        try clear c5
        try clear c5b0
        try clear c5b1
        try clear p6
        try clear c7
        try clear c7b0
        try clear c7b1
        try clear c7b2
        try clear c10
        try clear c10b0
        try clear c11
        try clear c11b0
        try clear c11b1
        try clear c11b2
        try clear p2
        try clear p6
        obtain ⟨x1_3, x5_3, x6_3, rfl, rfl, rfl, HA, HK3, HB⟩ := hrel
        cases gk with
        | zero => exact absurd HA.out (by simp [spileref03_decimal.l0])
        | succ k3 =>
         have H := HA.out
         clear HA
         simp only [spileref03_decimal.l0] at H
         by_cases c12 : x6_3 > 0
         ·
          rw [if_pos c12] at H
          have c12b0 : decide (0 < x6_3) = true := decide_eq_true c12
          clear c12
          by_cases c13 : (wrap64 (Int.tdiv x1_3 10)) = 0
          ·
           rw [if_pos c13] at H
           exact absurd H (by simp)
          ·
           rw [if_neg c13] at H
           have c13b0 : ((wrap64 (Int.tdiv x1_3 10)) == 0) = false := beq_eq_false_iff_ne.mpr c13
           have c13b1 : ((wrap64 (Int.tdiv x1_3 10)) != 0) = true := bne_iff_ne.mpr c13
           replace H := Option.bind_eq_some_iff.mp H
           obtain ⟨t181, A140, H⟩ := H
           replace H : (if x5_3.size + t181.size ≤ 9223372036854775807 then (spileref03_decimal.l0 k3 (wrap64 (Int.tdiv x1_3 10)) (x5_3 ++ t181) (Int.tmod x6_3 (wrap64 (Int.tdiv x1_3 10)))) else (none)) = some r := H
           have A14 := Aside0.mk A140
           clear A140
           by_cases c15 : x5_3.size + t181.size ≤ 9223372036854775807
           ·
            rw [if_pos c15] at H
            have c15b0 := eq_true c15
            have c15b1 : decide (x5_3.size + t181.size ≤ 9223372036854775807) = true := decide_eq_true c15
            try have c15b2 : (9223372036854775807 < x5_3.size + t181.size) = False := eq_false (Nat.not_lt.2 c15)
            have H' := Aside0.mk H
            clear H
            go_wp2_with (first | ((with_reducible refine gate_callee (f := 14) rfl ?_); refine goesL_ (some 32) rfl rfl Tryz.func14 (by kernel_rfl) rfl #[.int .i64 (wrap64 (Int.tdiv x6_3 (wrap64 (Int.tdiv x1_3 10))))] rfl (by (try simp only [List.map_toArray, List.map_cons, List.map_nil]); first | done | rfl | (simp only [List.length_drop, List.length_take]; rfl)) ?_; (with_reducible refine (strconv_Itoa.calls (wrap64 (Int.tdiv x6_3 (wrap64 (Int.tdiv x1_3 10)))) t181 _ ?side1 A14.out).mono ?_); (case side1 => exact GI.below HG.out (by repeat (first | (with_reducible first | exact HB.out | apply below_alloc | apply pw_below_drewN | apply below_drew1) | exact HB.out))); rintro e w16 ⟨rfl, hb⟩; refine ⟨_, rfl, ?_⟩; have n0_ := Aside0.mk (below_step (by repeat (first | (with_reducible first | exact HB.out | apply below_alloc | apply pw_below_drewN | apply below_drew1) | exact HB.out)) hb); clear HB; have HB := n0_; clear n0_; (try clear hb); (try clear hb2); (try clear hk); (try clear hi)))
            go_roundg k3
            case measure => have := HJ2.out; have := HJ7.out; have := HK3.out; omega
            case rel => exact ⟨(wrap64 (Int.tdiv x1_3 10)), (x5_3 ++ t181), (Int.tmod x6_3 (wrap64 (Int.tdiv x1_3 10))), (by first | rfl | (simp; done) | (simp [*]; done)), (by first | rfl | (simp; done) | (simp [*]; done)), (by first | rfl | (simp; done) | (simp [*]; done)), H', ⟨by have := HJ2.out; have := HJ7.out; have := HK3.out; omega⟩, ⟨by repeat (first | (with_reducible first | exact HB.out | apply below_alloc | apply pw_below_drewN | apply below_drew1) | exact HB.out)⟩⟩
           ·
            rw [if_neg c15] at H
            exact absurd H (by simp)
         ·
          rw [if_neg c12] at H
          have c12b0 : decide (0 < x6_3) = false := decide_eq_false c12
          clear c12
          obtain rfl := Option.some.inj H
          go_wp2
          go_ret
          exact ⟨by first | rfl | (simp [errW_none, errW_some] <;> rfl) | (simp [*, errW_none, errW_some] <;> rfl), by repeat (first | (with_reducible first | exact HB.out | apply below_alloc | apply pw_below_drewN | apply below_drew1) | exact HB.out)⟩
    ·
     rw [if_neg c7] at H
     exact absurd H (by simp)
def spileref03_Print.f (k : Nat) (a0_0 : Int) (a0_1 : Int) (a1 : ByteArray) : Option (ByteArray × Int) := (spileref03_Check.f k a0_0 a0_1).bind fun t183 => (if t183 = 0 then ((spileref03_Unit.f k a1).bind fun bt184 => (if bt184.2.2 = 0 then (if bt184.1 = a0_0 then ((spileref03_decimal.f k a0_1 bt184.2.1).bind fun t187 => (if t187.size + 1 ≤ 9223372036854775807 then (if (t187 ++ (⟨#[32]⟩ : ByteArray)).size + a1.size ≤ 9223372036854775807 then (some ((t187 ++ (⟨#[32]⟩ : ByteArray)) ++ a1, 0)) else (none)) else (none))) else (some ((⟨#[]⟩ : ByteArray), 10))) else (some ((⟨#[]⟩ : ByteArray), bt184.2.2)))) else (some ((⟨#[]⟩ : ByteArray), 1)))
set_option maxHeartbeats 8000000 in
set_option maxRecDepth 100000 in
theorem spileref03_Print.calls (k : Nat) (a0_0 : Int) (a0_1 : Int) (a1 : ByteArray) (r1 : ByteArray) (r2 : Int) (w : World) (hG : GI w) (h : spileref03_Print.f k a0_0 a0_1 a1 = some (r1, r2)) :
  Calls Tryz.prog 6 #[.agg #[.int .i64 a0_0, .int .i64 a0_1], .string a1] w fun e w' => e = .returned (.tuple #[.string r1, .int .i64 r2]) ∧ Below w.heap.size w w' := by
 have hu23 := Tryz.underlying23
 have HG := Aside0.mk hG
 clear hG
 have HB := Aside0.mk (Below.refl w.heap.size w)
 have H : ((spileref03_Check.f k a0_0 a0_1).bind fun t183 => (if t183 = 0 then ((spileref03_Unit.f k a1).bind fun bt184 => (if bt184.2.2 = 0 then (if bt184.1 = a0_0 then ((spileref03_decimal.f k a0_1 bt184.2.1).bind fun t187 => (if t187.size + 1 ≤ 9223372036854775807 then (if (t187 ++ (⟨#[32]⟩ : ByteArray)).size + a1.size ≤ 9223372036854775807 then (some ((t187 ++ (⟨#[32]⟩ : ByteArray)) ++ a1, 0)) else (none)) else (none))) else (some ((⟨#[]⟩ : ByteArray), 10))) else (some ((⟨#[]⟩ : ByteArray), bt184.2.2)))) else (some ((⟨#[]⟩ : ByteArray), 1)))) = some (r1, r2) := h
 clear h
 replace H := Option.bind_eq_some_iff.mp H
 obtain ⟨t183, A30, H⟩ := H
 replace H : (if t183 = 0 then ((spileref03_Unit.f k a1).bind fun bt184 => (if bt184.2.2 = 0 then (if bt184.1 = a0_0 then ((spileref03_decimal.f k a0_1 bt184.2.1).bind fun t187 => (if t187.size + 1 ≤ 9223372036854775807 then (if (t187 ++ (⟨#[32]⟩ : ByteArray)).size + a1.size ≤ 9223372036854775807 then (some ((t187 ++ (⟨#[32]⟩ : ByteArray)) ++ a1, 0)) else (none)) else (none))) else (some ((⟨#[]⟩ : ByteArray), 10))) else (some ((⟨#[]⟩ : ByteArray), bt184.2.2)))) else (some ((⟨#[]⟩ : ByteArray), 1))) = some (r1, r2) := H
 have A3 := Aside0.mk A30
 clear A30
 by_cases c4 : t183 = 0
 ·
  rw [if_pos c4] at H
  have c4b0 : (t183 == 0) = true := beq_iff_eq.mpr c4
  have c4b1 : (t183 != 0) = false := bne_eq_false_iff_eq.mpr c4
  clear c4
  replace H := Option.bind_eq_some_iff.mp H
  obtain ⟨⟨t184, t185, t186⟩, A50, H⟩ := H
  replace H : (if t186 = 0 then (if t184 = a0_0 then ((spileref03_decimal.f k a0_1 t185).bind fun t187 => (if t187.size + 1 ≤ 9223372036854775807 then (if (t187 ++ (⟨#[32]⟩ : ByteArray)).size + a1.size ≤ 9223372036854775807 then (some ((t187 ++ (⟨#[32]⟩ : ByteArray)) ++ a1, 0)) else (none)) else (none))) else (some ((⟨#[]⟩ : ByteArray), 10))) else (some ((⟨#[]⟩ : ByteArray), t186))) = some (r1, r2) := H
  have A5 := Aside0.mk A50
  clear A50
  by_cases c6 : t186 = 0
  ·
   rw [if_pos c6] at H
   have c6b0 : (t186 == 0) = true := beq_iff_eq.mpr c6
   have c6b1 : (t186 != 0) = false := bne_eq_false_iff_eq.mpr c6
   clear c6
   by_cases c7 : t184 = a0_0
   ·
    rw [if_pos c7] at H
    have c7b0 : (t184 == a0_0) = true := beq_iff_eq.mpr c7
    have c7b1 : (t184 != a0_0) = false := bne_eq_false_iff_eq.mpr c7
    clear c7
    replace H := Option.bind_eq_some_iff.mp H
    obtain ⟨t187, A80, H⟩ := H
    replace H : (if t187.size + 1 ≤ 9223372036854775807 then (if (t187 ++ (⟨#[32]⟩ : ByteArray)).size + a1.size ≤ 9223372036854775807 then (some ((t187 ++ (⟨#[32]⟩ : ByteArray)) ++ a1, 0)) else (none)) else (none)) = some (r1, r2) := H
    have A8 := Aside0.mk A80
    clear A80
    by_cases c9 : t187.size + 1 ≤ 9223372036854775807
    ·
     rw [if_pos c9] at H
     have c9b0 := eq_true c9
     have c9b1 : decide (t187.size + 1 ≤ 9223372036854775807) = true := decide_eq_true c9
     try have c9b2 : (9223372036854775807 < t187.size + 1) = False := eq_false (Nat.not_lt.2 c9)
     by_cases c10 : (t187 ++ (⟨#[32]⟩ : ByteArray)).size + a1.size ≤ 9223372036854775807
     ·
      rw [if_pos c10] at H
      have c10b0 := eq_true c10
      have c10b1 : decide ((t187 ++ (⟨#[32]⟩ : ByteArray)).size + a1.size ≤ 9223372036854775807) = true := decide_eq_true c10
      try have c10b2 : (9223372036854775807 < (t187 ++ (⟨#[32]⟩ : ByteArray)).size + a1.size) = False := eq_false (Nat.not_lt.2 c10)
      try have c10b3 : (9223372036854775807 < t187.size + 1 + a1.size) = False := eq_false (Nat.not_lt.2 (by have h_ := c10; simp only [ByteArray.size_append] at h_; exact h_))
      simp only [Option.some.injEq, Prod.mk.injEq] at H
      obtain ⟨rfl, rfl⟩ := H
      go_enter Tryz.func6, Tryz.ntmps6
      go_wp2_with (first | ((with_reducible refine gate_dst (N := 2) rfl ?_); refine box_event ?hg (N := 2) ?hd (cs := #[.int .i64 a0_0, .int .i64 a0_1]) (t := 23) ?hr ?_; (case hd => rfl); (case hg => rfl); (case hr => first | (go_simp; done) | (go_simp; rfl)); intro gb182 hg w11 hbox hb; have n0_ := Aside0.mk (below_step (by repeat (first | (with_reducible first | exact HB.out | apply below_alloc | apply pw_below_drewN | apply below_drew1) | exact HB.out)) hb); have n1_ := Aside0.mk (hbox); have n2_ := Aside0.mk ((by rw [hg]; exact (below_size (by repeat (first | (with_reducible first | exact HB.out | apply below_alloc | apply pw_below_drewN | apply below_drew1) | exact HB.out))) : w.heap.size ≤ gb182)); have n3_ := Aside0.mk ((by rw [hg]; exact (below_size (by repeat (first | (with_reducible first | exact HB.out | apply below_alloc | apply pw_below_drewN | apply below_drew1) | exact HB.out))) : w.heap.size ≤ gb182)); clear HB; have HB := n0_; have BK182 := n1_; have GW182 := n2_; have GE182 := n3_; clear n0_ n1_ n2_ n3_; clear hb hbox hg; have hcz12_0 : w11.cell? ⟨gb182, 0, none⟩ = some (.int .i64 a0_0) := (blk_cell BK182.out 0).trans rfl; have hcz12_1 : w11.cell? ⟨gb182, 1, none⟩ = some (.int .i64 a0_1) := (blk_cell BK182.out 1).trans rfl; have hfz12_0 := blk_frozen BK182.out 0; have hfz12_1 := blk_frozen BK182.out 1) | ((with_reducible refine gate_callee (f := 17) rfl ?_); refine goesL_ (some 10) rfl rfl Tryz.func17 (by kernel_rfl) rfl #[.agg #[.int .i64 a0_0, .int .i64 a0_1]] rfl (by (try simp only [List.map_toArray, List.map_cons, List.map_nil]); first | done | rfl | (simp only [List.length_drop, List.length_take]; rfl)) ?_; (with_reducible refine (spileref03_Check.calls k a0_0 a0_1 t183 _ A3.out).mono ?_); rintro e w13 ⟨rfl, hb⟩; refine ⟨_, rfl, ?_⟩; have n0_ := Aside0.mk (blk_below (g := gb182) (o := .cells #[.int .i64 a0_0, .int .i64 a0_1] 23 (0, 0)) (by (with_reducible repeat (first | refine blk_drewN ?_ _ | refine blk_drew ?_ | refine blk_alloc ?_ _)); exact BK182.out) hb); have n1_ := Aside0.mk (below_step (by repeat (first | (with_reducible first | exact HB.out | apply below_alloc | apply pw_below_drewN | apply below_drew1 | refine below_set ?_ GE182.out) | exact HB.out)) hb); clear BK182; clear HB; have BK182 := n0_; have HB := n1_; clear n0_ n1_; (try clear hb); (try clear hb2); (try clear hk); (try clear hi)) | ((with_reducible refine gate_callee (f := 18) rfl ?_); refine goesL_ (some 14) rfl rfl Tryz.func18 (by kernel_rfl) rfl #[.string a1] rfl (by (try simp only [List.map_toArray, List.map_cons, List.map_nil]); first | done | rfl | (simp only [List.length_drop, List.length_take]; rfl)) ?_; (with_reducible refine (spileref03_Unit.calls k a1 t184 t185 t186 _ A5.out).mono ?_); rintro e w14 ⟨rfl, hb⟩; refine ⟨_, rfl, ?_⟩; have n0_ := Aside0.mk (blk_below (g := gb182) (o := .cells #[.int .i64 a0_0, .int .i64 a0_1] 23 (0, 0)) (by (with_reducible repeat (first | refine blk_drewN ?_ _ | refine blk_drew ?_ | refine blk_alloc ?_ _)); exact BK182.out) hb); have n1_ := Aside0.mk (below_step (by repeat (first | (with_reducible first | exact HB.out | apply below_alloc | apply pw_below_drewN | apply below_drew1 | refine below_set ?_ GE182.out) | exact HB.out)) hb); clear BK182; clear HB; have BK182 := n0_; have HB := n1_; clear n0_ n1_; (try clear hb); (try clear hb2); (try clear hk); (try clear hi); have hcz15_0 : w14.cell? ⟨gb182, 0, none⟩ = some (.int .i64 a0_0) := (blk_cell BK182.out 0).trans rfl; have hcz15_1 : w14.cell? ⟨gb182, 1, none⟩ = some (.int .i64 a0_1) := (blk_cell BK182.out 1).trans rfl; have hfz15_0 := blk_frozen BK182.out 0; have hfz15_1 := blk_frozen BK182.out 1) | ((with_reducible refine gate_callee (f := 19) rfl ?_); refine goesL_ (some 28) rfl rfl Tryz.func19 (by kernel_rfl) rfl #[.int .i64 a0_1, .int .i64 t185] rfl (by (try simp only [List.map_toArray, List.map_cons, List.map_nil]); first | done | rfl | (simp only [List.length_drop, List.length_take]; rfl)) ?_; (with_reducible refine (spileref03_decimal.calls k a0_1 t185 t187 _ ?side1 A8.out).mono ?_); (case side1 => exact GI.below HG.out (by repeat (first | (with_reducible first | exact HB.out | apply below_alloc | apply pw_below_drewN | apply below_drew1 | refine below_set ?_ GE182.out) | exact HB.out))); rintro e w16 ⟨rfl, hb⟩; refine ⟨_, rfl, ?_⟩; have n0_ := Aside0.mk (blk_below (g := gb182) (o := .cells #[.int .i64 a0_0, .int .i64 a0_1] 23 (0, 0)) (by (with_reducible repeat (first | refine blk_drewN ?_ _ | refine blk_drew ?_ | refine blk_alloc ?_ _)); exact BK182.out) hb); have n1_ := Aside0.mk (below_step (by repeat (first | (with_reducible first | exact HB.out | apply below_alloc | apply pw_below_drewN | apply below_drew1 | refine below_set ?_ GE182.out) | exact HB.out)) hb); clear BK182; clear HB; have BK182 := n0_; have HB := n1_; clear n0_ n1_; (try clear hb); (try clear hb2); (try clear hk); (try clear hi)))
      go_ret2
      exact ⟨by first | rfl | (simp [errW_none, errW_some] <;> rfl) | (simp [*, errW_none, errW_some] <;> rfl), by repeat (first | (with_reducible first | exact HB.out | apply below_alloc | apply pw_below_drewN | apply below_drew1 | refine below_set ?_ GE182.out) | exact HB.out)⟩
     ·
      rw [if_neg c10] at H
      exact absurd H (by simp)
    ·
     rw [if_neg c9] at H
     exact absurd H (by simp)
   ·
    rw [if_neg c7] at H
    have c7b0 : (t184 == a0_0) = false := beq_eq_false_iff_ne.mpr c7
    have c7b1 : (t184 != a0_0) = true := bne_iff_ne.mpr c7
    simp only [Option.some.injEq, Prod.mk.injEq] at H
    obtain ⟨rfl, rfl⟩ := H
    go_enter Tryz.func6, Tryz.ntmps6
    go_wp2_with (first | ((with_reducible refine gate_dst (N := 2) rfl ?_); refine box_event ?hg (N := 2) ?hd (cs := #[.int .i64 a0_0, .int .i64 a0_1]) (t := 23) ?hr ?_; (case hd => rfl); (case hg => rfl); (case hr => first | (go_simp; done) | (go_simp; rfl)); intro gb182 hg w17 hbox hb; have n0_ := Aside0.mk (below_step (by repeat (first | (with_reducible first | exact HB.out | apply below_alloc | apply pw_below_drewN | apply below_drew1) | exact HB.out)) hb); have n1_ := Aside0.mk (hbox); have n2_ := Aside0.mk ((by rw [hg]; exact (below_size (by repeat (first | (with_reducible first | exact HB.out | apply below_alloc | apply pw_below_drewN | apply below_drew1) | exact HB.out))) : w.heap.size ≤ gb182)); have n3_ := Aside0.mk ((by rw [hg]; exact (below_size (by repeat (first | (with_reducible first | exact HB.out | apply below_alloc | apply pw_below_drewN | apply below_drew1) | exact HB.out))) : w.heap.size ≤ gb182)); clear HB; have HB := n0_; have BK182 := n1_; have GW182 := n2_; have GE182 := n3_; clear n0_ n1_ n2_ n3_; clear hb hbox hg; have hcz18_0 : w17.cell? ⟨gb182, 0, none⟩ = some (.int .i64 a0_0) := (blk_cell BK182.out 0).trans rfl; have hcz18_1 : w17.cell? ⟨gb182, 1, none⟩ = some (.int .i64 a0_1) := (blk_cell BK182.out 1).trans rfl; have hfz18_0 := blk_frozen BK182.out 0; have hfz18_1 := blk_frozen BK182.out 1) | ((with_reducible refine gate_callee (f := 17) rfl ?_); refine goesL_ (some 10) rfl rfl Tryz.func17 (by kernel_rfl) rfl #[.agg #[.int .i64 a0_0, .int .i64 a0_1]] rfl (by (try simp only [List.map_toArray, List.map_cons, List.map_nil]); first | done | rfl | (simp only [List.length_drop, List.length_take]; rfl)) ?_; (with_reducible refine (spileref03_Check.calls k a0_0 a0_1 t183 _ A3.out).mono ?_); rintro e w19 ⟨rfl, hb⟩; refine ⟨_, rfl, ?_⟩; have n0_ := Aside0.mk (blk_below (g := gb182) (o := .cells #[.int .i64 a0_0, .int .i64 a0_1] 23 (0, 0)) (by (with_reducible repeat (first | refine blk_drewN ?_ _ | refine blk_drew ?_ | refine blk_alloc ?_ _)); exact BK182.out) hb); have n1_ := Aside0.mk (below_step (by repeat (first | (with_reducible first | exact HB.out | apply below_alloc | apply pw_below_drewN | apply below_drew1 | refine below_set ?_ GE182.out) | exact HB.out)) hb); clear BK182; clear HB; have BK182 := n0_; have HB := n1_; clear n0_ n1_; (try clear hb); (try clear hb2); (try clear hk); (try clear hi)) | ((with_reducible refine gate_callee (f := 18) rfl ?_); refine goesL_ (some 14) rfl rfl Tryz.func18 (by kernel_rfl) rfl #[.string a1] rfl (by (try simp only [List.map_toArray, List.map_cons, List.map_nil]); first | done | rfl | (simp only [List.length_drop, List.length_take]; rfl)) ?_; (with_reducible refine (spileref03_Unit.calls k a1 t184 t185 t186 _ A5.out).mono ?_); rintro e w20 ⟨rfl, hb⟩; refine ⟨_, rfl, ?_⟩; have n0_ := Aside0.mk (blk_below (g := gb182) (o := .cells #[.int .i64 a0_0, .int .i64 a0_1] 23 (0, 0)) (by (with_reducible repeat (first | refine blk_drewN ?_ _ | refine blk_drew ?_ | refine blk_alloc ?_ _)); exact BK182.out) hb); have n1_ := Aside0.mk (below_step (by repeat (first | (with_reducible first | exact HB.out | apply below_alloc | apply pw_below_drewN | apply below_drew1 | refine below_set ?_ GE182.out) | exact HB.out)) hb); clear BK182; clear HB; have BK182 := n0_; have HB := n1_; clear n0_ n1_; (try clear hb); (try clear hb2); (try clear hk); (try clear hi); have hcz21_0 : w20.cell? ⟨gb182, 0, none⟩ = some (.int .i64 a0_0) := (blk_cell BK182.out 0).trans rfl; have hcz21_1 : w20.cell? ⟨gb182, 1, none⟩ = some (.int .i64 a0_1) := (blk_cell BK182.out 1).trans rfl; have hfz21_0 := blk_frozen BK182.out 0; have hfz21_1 := blk_frozen BK182.out 1))
    go_ret2
    exact ⟨by first | rfl | (simp [errW_none, errW_some] <;> rfl) | (simp [*, errW_none, errW_some] <;> rfl), by repeat (first | (with_reducible first | exact HB.out | apply below_alloc | apply pw_below_drewN | apply below_drew1 | refine below_set ?_ GE182.out) | exact HB.out)⟩
  ·
   rw [if_neg c6] at H
   have c6b0 : (t186 == 0) = false := beq_eq_false_iff_ne.mpr c6
   have c6b1 : (t186 != 0) = true := bne_iff_ne.mpr c6
   simp only [Option.some.injEq, Prod.mk.injEq] at H
   obtain ⟨rfl, rfl⟩ := H
   go_enter Tryz.func6, Tryz.ntmps6
   go_wp2_with (first | ((with_reducible refine gate_dst (N := 2) rfl ?_); refine box_event ?hg (N := 2) ?hd (cs := #[.int .i64 a0_0, .int .i64 a0_1]) (t := 23) ?hr ?_; (case hd => rfl); (case hg => rfl); (case hr => first | (go_simp; done) | (go_simp; rfl)); intro gb182 hg w22 hbox hb; have n0_ := Aside0.mk (below_step (by repeat (first | (with_reducible first | exact HB.out | apply below_alloc | apply pw_below_drewN | apply below_drew1) | exact HB.out)) hb); have n1_ := Aside0.mk (hbox); have n2_ := Aside0.mk ((by rw [hg]; exact (below_size (by repeat (first | (with_reducible first | exact HB.out | apply below_alloc | apply pw_below_drewN | apply below_drew1) | exact HB.out))) : w.heap.size ≤ gb182)); have n3_ := Aside0.mk ((by rw [hg]; exact (below_size (by repeat (first | (with_reducible first | exact HB.out | apply below_alloc | apply pw_below_drewN | apply below_drew1) | exact HB.out))) : w.heap.size ≤ gb182)); clear HB; have HB := n0_; have BK182 := n1_; have GW182 := n2_; have GE182 := n3_; clear n0_ n1_ n2_ n3_; clear hb hbox hg; have hcz23_0 : w22.cell? ⟨gb182, 0, none⟩ = some (.int .i64 a0_0) := (blk_cell BK182.out 0).trans rfl; have hcz23_1 : w22.cell? ⟨gb182, 1, none⟩ = some (.int .i64 a0_1) := (blk_cell BK182.out 1).trans rfl; have hfz23_0 := blk_frozen BK182.out 0; have hfz23_1 := blk_frozen BK182.out 1) | ((with_reducible refine gate_callee (f := 17) rfl ?_); refine goesL_ (some 10) rfl rfl Tryz.func17 (by kernel_rfl) rfl #[.agg #[.int .i64 a0_0, .int .i64 a0_1]] rfl (by (try simp only [List.map_toArray, List.map_cons, List.map_nil]); first | done | rfl | (simp only [List.length_drop, List.length_take]; rfl)) ?_; (with_reducible refine (spileref03_Check.calls k a0_0 a0_1 t183 _ A3.out).mono ?_); rintro e w24 ⟨rfl, hb⟩; refine ⟨_, rfl, ?_⟩; have n0_ := Aside0.mk (blk_below (g := gb182) (o := .cells #[.int .i64 a0_0, .int .i64 a0_1] 23 (0, 0)) (by (with_reducible repeat (first | refine blk_drewN ?_ _ | refine blk_drew ?_ | refine blk_alloc ?_ _)); exact BK182.out) hb); have n1_ := Aside0.mk (below_step (by repeat (first | (with_reducible first | exact HB.out | apply below_alloc | apply pw_below_drewN | apply below_drew1 | refine below_set ?_ GE182.out) | exact HB.out)) hb); clear BK182; clear HB; have BK182 := n0_; have HB := n1_; clear n0_ n1_; (try clear hb); (try clear hb2); (try clear hk); (try clear hi)) | ((with_reducible refine gate_callee (f := 18) rfl ?_); refine goesL_ (some 14) rfl rfl Tryz.func18 (by kernel_rfl) rfl #[.string a1] rfl (by (try simp only [List.map_toArray, List.map_cons, List.map_nil]); first | done | rfl | (simp only [List.length_drop, List.length_take]; rfl)) ?_; (with_reducible refine (spileref03_Unit.calls k a1 t184 t185 t186 _ A5.out).mono ?_); rintro e w25 ⟨rfl, hb⟩; refine ⟨_, rfl, ?_⟩; have n0_ := Aside0.mk (blk_below (g := gb182) (o := .cells #[.int .i64 a0_0, .int .i64 a0_1] 23 (0, 0)) (by (with_reducible repeat (first | refine blk_drewN ?_ _ | refine blk_drew ?_ | refine blk_alloc ?_ _)); exact BK182.out) hb); have n1_ := Aside0.mk (below_step (by repeat (first | (with_reducible first | exact HB.out | apply below_alloc | apply pw_below_drewN | apply below_drew1 | refine below_set ?_ GE182.out) | exact HB.out)) hb); clear BK182; clear HB; have BK182 := n0_; have HB := n1_; clear n0_ n1_; (try clear hb); (try clear hb2); (try clear hk); (try clear hi)))
   go_ret2
   exact ⟨by first | rfl | (simp [errW_none, errW_some] <;> rfl) | (simp [*, errW_none, errW_some] <;> rfl), by repeat (first | (with_reducible first | exact HB.out | apply below_alloc | apply pw_below_drewN | apply below_drew1 | refine below_set ?_ GE182.out) | exact HB.out)⟩
 ·
  rw [if_neg c4] at H
  have c4b0 : (t183 == 0) = false := beq_eq_false_iff_ne.mpr c4
  have c4b1 : (t183 != 0) = true := bne_iff_ne.mpr c4
  simp only [Option.some.injEq, Prod.mk.injEq] at H
  obtain ⟨rfl, rfl⟩ := H
  go_enter Tryz.func6, Tryz.ntmps6
  go_wp2_with (first | ((with_reducible refine gate_dst (N := 2) rfl ?_); refine box_event ?hg (N := 2) ?hd (cs := #[.int .i64 a0_0, .int .i64 a0_1]) (t := 23) ?hr ?_; (case hd => rfl); (case hg => rfl); (case hr => first | (go_simp; done) | (go_simp; rfl)); intro gb182 hg w26 hbox hb; have n0_ := Aside0.mk (below_step (by repeat (first | (with_reducible first | exact HB.out | apply below_alloc | apply pw_below_drewN | apply below_drew1) | exact HB.out)) hb); have n1_ := Aside0.mk (hbox); have n2_ := Aside0.mk ((by rw [hg]; exact (below_size (by repeat (first | (with_reducible first | exact HB.out | apply below_alloc | apply pw_below_drewN | apply below_drew1) | exact HB.out))) : w.heap.size ≤ gb182)); have n3_ := Aside0.mk ((by rw [hg]; exact (below_size (by repeat (first | (with_reducible first | exact HB.out | apply below_alloc | apply pw_below_drewN | apply below_drew1) | exact HB.out))) : w.heap.size ≤ gb182)); clear HB; have HB := n0_; have BK182 := n1_; have GW182 := n2_; have GE182 := n3_; clear n0_ n1_ n2_ n3_; clear hb hbox hg; have hcz27_0 : w26.cell? ⟨gb182, 0, none⟩ = some (.int .i64 a0_0) := (blk_cell BK182.out 0).trans rfl; have hcz27_1 : w26.cell? ⟨gb182, 1, none⟩ = some (.int .i64 a0_1) := (blk_cell BK182.out 1).trans rfl; have hfz27_0 := blk_frozen BK182.out 0; have hfz27_1 := blk_frozen BK182.out 1) | ((with_reducible refine gate_callee (f := 17) rfl ?_); refine goesL_ (some 10) rfl rfl Tryz.func17 (by kernel_rfl) rfl #[.agg #[.int .i64 a0_0, .int .i64 a0_1]] rfl (by (try simp only [List.map_toArray, List.map_cons, List.map_nil]); first | done | rfl | (simp only [List.length_drop, List.length_take]; rfl)) ?_; (with_reducible refine (spileref03_Check.calls k a0_0 a0_1 t183 _ A3.out).mono ?_); rintro e w28 ⟨rfl, hb⟩; refine ⟨_, rfl, ?_⟩; have n0_ := Aside0.mk (blk_below (g := gb182) (o := .cells #[.int .i64 a0_0, .int .i64 a0_1] 23 (0, 0)) (by (with_reducible repeat (first | refine blk_drewN ?_ _ | refine blk_drew ?_ | refine blk_alloc ?_ _)); exact BK182.out) hb); have n1_ := Aside0.mk (below_step (by repeat (first | (with_reducible first | exact HB.out | apply below_alloc | apply pw_below_drewN | apply below_drew1 | refine below_set ?_ GE182.out) | exact HB.out)) hb); clear BK182; clear HB; have BK182 := n0_; have HB := n1_; clear n0_ n1_; (try clear hb); (try clear hb2); (try clear hk); (try clear hi)))
  go_ret2
  exact ⟨by first | rfl | (simp [errW_none, errW_some] <;> rfl) | (simp [*, errW_none, errW_some] <;> rfl), by repeat (first | (with_reducible first | exact HB.out | apply below_alloc | apply pw_below_drewN | apply below_drew1 | refine below_set ?_ GE182.out) | exact HB.out)⟩
end Go.Proofs.YtmjglehdckgcnaaGreatDoor.Pr
namespace Go.Proofs.YtmjglehdckgcnaaGreatDoor.Pr
open Go.RowKit Go.Proofs.YtmjglehdckgcnaaGreatDoorW.PrintWords Go.Proofs.YtmjglehdckgcnaaGreatDoorW.PrintLast Go.Proofs.YtmjglehdckgcnaaGreatDoorW.PrintMore Go.Proofs.YtmjglehdckgcnaaGreatDoor.X
attribute [local go_sem] max2_int min2_int max_two min_two max_three min_three max_four min_four   -- for this text's walks alone
set_option linter.unusedVariables false
set_option linter.unusedSimpArgs false
def spileref03_isDigits.l0 : Nat → ByteArray → Int → Option (Bool)
  | 0, _, _ => none
  | k + 1, x0, x3 => if x3 < (x0.size : Int) then (if 0 ≤ x3 then (if (bt x0 x3) < 48 then (some false) else (if (bt x0 x3) > 57 then (some false) else (spileref03_isDigits.l0 k x0 (wrap64 (x3 + 1))))) else (none)) else (some (x0.toList != ([] : List UInt8)))
def spileref03_isDigits.f (k : Nat) (a0 : ByteArray) : Option (Bool) := spileref03_isDigits.l0 k a0 0
theorem spileref03_isDigits.mono_l : ∀ k, (∀ y0 y1, LeO (spileref03_isDigits.l0 k y0 y1) (spileref03_isDigits.l0 (k + 1) y0 y1))
  | 0 => fun _ _ r h => by simp [spileref03_isDigits.l0] at h
  | k + 1 => by
    have ih0 := spileref03_isDigits.mono_l k
    · intro y0 y1
      unfold spileref03_isDigits.l0
      repeat' first
      | (with_reducible exact ih0 _ _)
      | (with_reducible exact LeO.refl _)
      | (with_reducible exact LeO.none _)
      | (with_reducible refine LeO.ite ?_ ?_)
      | (with_reducible refine LeO.bind ?_ (fun _ => ?_))
      | exact ih0 _ _
      | exact LeO.none _
      | refine LeO.ite ?_ ?_
      | refine LeO.bind ?_ (fun _ => ?_)
theorem spileref03_isDigits.mono : ∀ a0 k, LeO (spileref03_isDigits.f k a0) (spileref03_isDigits.f (k + 1) a0) := by
  intro a0 k
  have ih0 := spileref03_isDigits.mono_l k
  unfold spileref03_isDigits.f
  repeat' first
      | (with_reducible exact ih0 _ _)
      | (with_reducible exact LeO.refl _)
      | (with_reducible exact LeO.none _)
      | (with_reducible refine LeO.ite ?_ ?_)
      | (with_reducible refine LeO.bind ?_ (fun _ => ?_))
      | exact ih0 _ _
      | exact LeO.none _
      | refine LeO.ite ?_ ?_
      | refine LeO.bind ?_ (fun _ => ?_)
set_option maxHeartbeats 8000000 in
set_option maxRecDepth 100000 in
theorem spileref03_isDigits.calls (k : Nat) (a0 : ByteArray) (r : Bool) (w : World) (h : spileref03_isDigits.f k a0 = some r) :
    Calls Tryz.prog 55 #[.string a0] w fun e w' => e = .returned (.bool r) ∧ Drawn0 w w' := by
  have H : (spileref03_isDigits.l0 k a0 0) = some r := h
  clear h
  have H' := Aside0.mk H
  clear H
  go_enter Tryz.func55, Tryz.ntmps55
  go_wp2
  go_loopg [3] k (fun kq v3 w' => ∃ (x3_1 : Int), v3 = .int .i64 x3_1 ∧ Aside0 (spileref03_isDigits.l0 kq a0 x3_1 = some r) ∧ Aside0 (kq ≤ k) ∧ Drawn0 w w')
  case atStart => exact ⟨(0), (by first | rfl | (simp; done) | (simp [*]; done)), H', ⟨Nat.le_refl _⟩, by repeat (first | exact Drawn0.refl _ | apply Drawn0.step)⟩
  case round =>
    clear H'
    obtain ⟨x3_1, rfl, HA, HK1, ⟨m1, rfl⟩⟩ := hrel
    cases gk with
    | zero => exact absurd HA.out (by simp [spileref03_isDigits.l0])
    | succ k1 =>
      have H := HA.out
      clear HA
      simp only [spileref03_isDigits.l0] at H
      by_cases c2 : x3_1 < (a0.size : Int)
      · rw [if_pos c2] at H
        have c2b0 : decide (x3_1 < (a0.size : Int)) = true := decide_eq_true c2
        clear c2
        by_cases c3 : 0 ≤ x3_1
        · rw [if_pos c3] at H
          have c3b0 : decide (0 ≤ x3_1) = true := decide_eq_true c3
          clear c3
          by_cases c5 : (bt a0 x3_1) < 48
          · rw [if_pos c5] at H
            have c5b0 : decide ((bt a0 x3_1) < 48) = true := decide_eq_true c5
            clear c5
            obtain rfl := Option.some.inj H
            have p4 : 0 ≤ (x3_1 : Int) := of_decide_eq_true (by first | (with_reducible assumption) | assumption)
            have q4 : x3_1 < (a0.size : Int) := of_decide_eq_true (by first | (with_reducible assumption) | assumption)
            have hx4 := bt_at a0 x3_1
            replace p4 := eq_true p4
            replace q4 := eq_true q4
            go_wp2
            go_ret
            exact ⟨by first | rfl | (simp; done) | (simp [*]; done) | (cases h_ : a0.toList <;> simp [h_]), by repeat (first | exact Drawn0.refl _ | apply Drawn0.step)⟩
          · rw [if_neg c5] at H
            have c5b0 : decide ((bt a0 x3_1) < 48) = false := decide_eq_false c5
            clear c5
            by_cases c7 : (bt a0 x3_1) > 57
            · rw [if_pos c7] at H
              have c7b0 : decide (57 < (bt a0 x3_1)) = true := decide_eq_true c7
              clear c7
              obtain rfl := Option.some.inj H
              have p4 : 0 ≤ (x3_1 : Int) := of_decide_eq_true (by first | (with_reducible assumption) | assumption)
              have q4 : x3_1 < (a0.size : Int) := of_decide_eq_true (by first | (with_reducible assumption) | assumption)
              have hx4 := bt_at a0 x3_1
              replace p4 := eq_true p4
              replace q4 := eq_true q4
              have p6 : 0 ≤ (x3_1 : Int) := of_decide_eq_true (by first | (with_reducible assumption) | assumption)
              have q6 : x3_1 < (a0.size : Int) := of_decide_eq_true (by first | (with_reducible assumption) | assumption)
              have hx6 := bt_at a0 x3_1
              replace p6 := eq_true p6
              replace q6 := eq_true q6
              go_wp2
              go_ret
              exact ⟨by first | rfl | (simp; done) | (simp [*]; done) | (cases h_ : a0.toList <;> simp [h_]), by repeat (first | exact Drawn0.refl _ | apply Drawn0.step)⟩
            · rw [if_neg c7] at H
              have c7b0 : decide (57 < (bt a0 x3_1)) = false := decide_eq_false c7
              clear c7
              have H' := Aside0.mk H
              clear H
              have p4 : 0 ≤ (x3_1 : Int) := of_decide_eq_true (by first | (with_reducible assumption) | assumption)
              have q4 : x3_1 < (a0.size : Int) := of_decide_eq_true (by first | (with_reducible assumption) | assumption)
              have hx4 := bt_at a0 x3_1
              replace p4 := eq_true p4
              replace q4 := eq_true q4
              have p6 : 0 ≤ (x3_1 : Int) := of_decide_eq_true (by first | (with_reducible assumption) | assumption)
              have q6 : x3_1 < (a0.size : Int) := of_decide_eq_true (by first | (with_reducible assumption) | assumption)
              have hx6 := bt_at a0 x3_1
              replace p6 := eq_true p6
              replace q6 := eq_true q6
              go_wp2
              go_roundg k1
              case measure => have := HK1.out; omega
              case rel => exact ⟨(wrap64 (x3_1 + 1)), (by first | rfl | (simp; done) | (simp [*]; done)), H', ⟨by have := HK1.out; omega⟩, by repeat (first | exact Drawn0.refl _ | apply Drawn0.step)⟩
        · rw [if_neg c3] at H
          exact absurd H (by simp)
      · rw [if_neg c2] at H
        have c2b0 : decide (x3_1 < (a0.size : Int)) = false := decide_eq_false c2
        clear c2
        obtain rfl := Option.some.inj H
        go_wp2
        go_ret
        exact ⟨by first | rfl | (simp; done) | (simp [*]; done) | (cases h_ : a0.toList <;> simp [h_]), by repeat (first | exact Drawn0.refl _ | apply Drawn0.step)⟩
/-- THE ONE PURE STATEMENT of spileref03_isDigits: yours. -/
def spileref03_isDigits.Pure : Prop := ∀ (a0 : ByteArray), a0.size ≤ 140737488351232 → ∃ k, spileref03_isDigits.f k a0 = some true
theorem spileref03_isDigits.walk (P : spileref03_isDigits.Pure) (a0 : ByteArray) (w : World) (w0 : a0.size ≤ 140737488351232) :
    Calls Tryz.prog 55 #[.string a0] w fun e w' => e = .returned (.bool true) ∧ Below w.heap.size w w' := by
  obtain ⟨k, h⟩ := P a0 w0
  refine (spileref03_isDigits.calls k a0 true w h).mono ?_
  rintro e w' ⟨rfl, hd⟩
  exact ⟨rfl, hd.below⟩
def spileref03_index.l0 : Nat → ByteArray → Int → Int → Option (Int)
  | 0, _, _, _ => none
  | k + 1, x0, x1, x5 => if x5 < (x0.size : Int) then (if 0 ≤ x5 then (if (bt x0 x5) = x1 then (some x5) else (spileref03_index.l0 k x0 x1 (wrap64 (x5 + 1)))) else (none)) else (some (-1))
def spileref03_index.f (k : Nat) (a0 : ByteArray) (a1 : Int) : Option (Int) := spileref03_index.l0 k a0 a1 0
theorem spileref03_index.mono_l : ∀ k, (∀ y0 y1 y2, LeO (spileref03_index.l0 k y0 y1 y2) (spileref03_index.l0 (k + 1) y0 y1 y2))
  | 0 => fun _ _ _ r h => by simp [spileref03_index.l0] at h
  | k + 1 => by
    have ih0 := spileref03_index.mono_l k
    · intro y0 y1 y2
      unfold spileref03_index.l0
      repeat' first
      | (with_reducible exact ih0 _ _ _)
      | (with_reducible exact LeO.refl _)
      | (with_reducible exact LeO.none _)
      | (with_reducible refine LeO.ite ?_ ?_)
      | (with_reducible refine LeO.bind ?_ (fun _ => ?_))
      | exact ih0 _ _ _
      | exact LeO.none _
      | refine LeO.ite ?_ ?_
      | refine LeO.bind ?_ (fun _ => ?_)
theorem spileref03_index.mono : ∀ a0 a1 k, LeO (spileref03_index.f k a0 a1) (spileref03_index.f (k + 1) a0 a1) := by
  intro a0 a1 k
  have ih0 := spileref03_index.mono_l k
  unfold spileref03_index.f
  repeat' first
      | (with_reducible exact ih0 _ _ _)
      | (with_reducible exact LeO.refl _)
      | (with_reducible exact LeO.none _)
      | (with_reducible refine LeO.ite ?_ ?_)
      | (with_reducible refine LeO.bind ?_ (fun _ => ?_))
      | exact ih0 _ _ _
      | exact LeO.none _
      | refine LeO.ite ?_ ?_
      | refine LeO.bind ?_ (fun _ => ?_)
set_option maxHeartbeats 8000000 in
set_option maxRecDepth 100000 in
theorem spileref03_index.calls (k : Nat) (a0 : ByteArray) (a1 : Int) (r : Int) (w : World) (h : spileref03_index.f k a0 a1 = some r) :
    Calls Tryz.prog 24 #[.string a0, .int .u8 a1] w fun e w' => e = .returned (.int .i64 r) ∧ Drawn0 w w' := by
  have H : (spileref03_index.l0 k a0 a1 0) = some r := h
  clear h
  have H' := Aside0.mk H
  clear H
  go_enter Tryz.func24, Tryz.ntmps24
  go_wp2
  go_loopg [5] k (fun kq v5 w' => ∃ (x5_1 : Int), v5 = .int .i64 x5_1 ∧ Aside0 (spileref03_index.l0 kq a0 a1 x5_1 = some r) ∧ Aside0 (kq ≤ k) ∧ Drawn0 w w')
  case atStart => exact ⟨(0), (by first | rfl | (simp; done) | (simp [*]; done)), H', ⟨Nat.le_refl _⟩, by repeat (first | exact Drawn0.refl _ | apply Drawn0.step)⟩
  case round =>
    clear H'
    try clear c2
    try clear p2
    obtain ⟨x5_1, rfl, HA, HK1, ⟨m1, rfl⟩⟩ := hrel
    cases gk with
    | zero => exact absurd HA.out (by simp [spileref03_index.l0])
    | succ k1 =>
      have H := HA.out
      clear HA
      simp only [spileref03_index.l0] at H
      by_cases c3 : x5_1 < (a0.size : Int)
      · rw [if_pos c3] at H
        have c3b0 : decide (x5_1 < (a0.size : Int)) = true := decide_eq_true c3
        clear c3
        by_cases c4 : 0 ≤ x5_1
        · rw [if_pos c4] at H
          have c4b0 : decide (0 ≤ x5_1) = true := decide_eq_true c4
          clear c4
          by_cases c6 : (bt a0 x5_1) = a1
          · rw [if_pos c6] at H
            have c6b0 : ((bt a0 x5_1) == a1) = true := beq_iff_eq.mpr c6
            have c6b1 : ((bt a0 x5_1) != a1) = false := bne_eq_false_iff_eq.mpr c6
            clear c6
            obtain rfl := Option.some.inj H
            have p5 : 0 ≤ (x5_1 : Int) := of_decide_eq_true (by first | (with_reducible assumption) | assumption)
            have q5 : x5_1 < (a0.size : Int) := of_decide_eq_true (by first | (with_reducible assumption) | assumption)
            have hx5 := bt_at a0 x5_1
            replace p5 := eq_true p5
            replace q5 := eq_true q5
            go_wp2
            go_ret
            exact ⟨by first | rfl | (simp; done) | (simp [*]; done), by repeat (first | exact Drawn0.refl _ | apply Drawn0.step)⟩
          · rw [if_neg c6] at H
            have c6b0 : ((bt a0 x5_1) == a1) = false := beq_eq_false_iff_ne.mpr c6
            have c6b1 : ((bt a0 x5_1) != a1) = true := bne_iff_ne.mpr c6
            have H' := Aside0.mk H
            clear H
            have p5 : 0 ≤ (x5_1 : Int) := of_decide_eq_true (by first | (with_reducible assumption) | assumption)
            have q5 : x5_1 < (a0.size : Int) := of_decide_eq_true (by first | (with_reducible assumption) | assumption)
            have hx5 := bt_at a0 x5_1
            replace p5 := eq_true p5
            replace q5 := eq_true q5
            go_wp2
            go_roundg k1
            case measure => have := HK1.out; omega
            case rel => exact ⟨(wrap64 (x5_1 + 1)), (by first | rfl | (simp; done) | (simp [*]; done)), H', ⟨by have := HK1.out; omega⟩, by repeat (first | exact Drawn0.refl _ | apply Drawn0.step)⟩
        · rw [if_neg c4] at H
          exact absurd H (by simp)
      · rw [if_neg c3] at H
        have c3b0 : decide (x5_1 < (a0.size : Int)) = false := decide_eq_false c3
        clear c3
        obtain rfl := Option.some.inj H
        go_wp2
        go_ret
        exact ⟨by first | rfl | (simp; done) | (simp [*]; done), by repeat (first | exact Drawn0.refl _ | apply Drawn0.step)⟩
end Go.Proofs.YtmjglehdckgcnaaGreatDoor.Pr
namespace Go.Proofs.YtmjglehdckgcnaaGreatDoor.SQ
def lowK (k : Int) : Int := if k = 5 then -400 else 0
def highK (k : Int) : Int := if k = 1 then 1073741824 else if k = 2 then 10000 else if k = 3 then 10737418240000 else if k = 4 then 128849018880000 else if k = 5 then 600 else if k = 6 then 100000 else if k = 7 then 1125899906842624 else 0
def errQ (q : Int × Int) : Int := if q.1 < 1 ∨ 7 < q.1 then 1 else if q.2 < lowK q.1 ∨ highK q.1 < q.2 then 2 else 0
theorem errQ_zero (q : Int × Int) : errQ q = 0 ↔ (1 ≤ q.1 ∧ q.1 ≤ 7) ∧ lowK q.1 ≤ q.2 ∧ q.2 ≤ highK q.1 := by
  unfold errQ
  split
  · constructor
    · intro h; omega
    · intro h; omega
  · split
    · constructor
      · intro h; omega
      · intro h; omega
    · constructor
      · intro _; omega
      · intro _; rfl
end Go.Proofs.YtmjglehdckgcnaaGreatDoor.SQ
namespace Go.Proofs.YtmjglehdckgcnaaGreatDoor.Pr
open Go Go.RowKit Go.Lib Go.Proofs.YtmjglehdckgcnaaGreatDoorW.PrintWords Go.Proofs.YtmjglehdckgcnaaGreatDoorW.PrintLast Go.Proofs.YtmjglehdckgcnaaGreatDoorW.PrintMore Go.Proofs.YtmjglehdckgcnaaGreatDoor.X Go.Proofs.YtmjglehdckgcnaaGreatDoor.TX Go.Proofs.YtmjglehdckgcnaaGreatDoor.PL Go.Proofs.YtmjglehdckgcnaaGreatDoor.SQ
theorem seven {K : Int} (h : 1 ≤ K ∧ K ≤ 7) : K = 1 ∨ K = 2 ∨ K = 3 ∨ K = 4 ∨ K = 5 ∨ K = 6 ∨ K = 7 := by omega
theorem limits_eq {K : Int} (h : 1 ≤ K ∧ K ≤ 7) : unit_limits.f K = some (lowK K, highK K) := by
  rcases seven h with rfl | rfl | rfl | rfl | rfl | rfl | rfl <;> decide
theorem check_ev (K a : Int) : Ev (fun k => unit_Check.f k K a) (errQ (K, a)) := by
  unfold unit_Check.f
  by_cases h1 : K < 1
  · refine evp h1 ?_
    refine Ev.step (fun k => unit_Check.j0.eq_2 ..) ?_
    refine evp rfl (evr ?_)
    unfold errQ
    rw [if_pos (Or.inl h1)]
  · refine evn h1 ?_
    refine Ev.step (fun k => unit_Check.j0.eq_2 ..) ?_
    by_cases h7 : K > 7
    · refine evp (decide_eq_true h7) (evr ?_)
      unfold errQ
      rw [if_pos (Or.inr h7)]
    · refine evn (by simpa using h7) ?_
      refine evb (evc (fun _ => limits_eq ⟨by omega, by omega⟩) rfl) ?_
      have e : errQ (K, a) = if a < lowK K ∨ highK K < a then 2 else 0 := by
        unfold errQ
        exact if_neg (by show ¬ (K < 1 ∨ 7 < K); omega)
      rw [e]
      show Ev (fun n => if a < lowK K then some 2 else if a > highK K then some 2 else some 0) (if a < lowK K ∨ highK K < a then 2 else 0)
      by_cases c1 : a < lowK K
      · exact evp c1 (evr (if_pos (Or.inl c1)).symm)
      · refine evn c1 ?_
        by_cases c2 : a > highK K
        · exact evp c2 (evr (if_pos (Or.inr c2)).symm)
        · exact evn c2 (evr (if_neg (by omega)).symm)
theorem err_bounds {K a : Int} (h : errQ (K, a) = 0) : (1 ≤ K ∧ K ≤ 7) ∧ -1000 ≤ a ∧ a ≤ 1125899906842624 := by
  obtain ⟨h1, h2, h3⟩ := (errQ_zero (K, a)).1 h
  have h1 : 1 ≤ K ∧ K ≤ 7 := h1
  have h2 : lowK K ≤ a := h2
  have h3 : a ≤ highK K := h3
  refine ⟨h1, ?_, ?_⟩
  · have : -1000 ≤ lowK K := by unfold lowK; split <;> omega
    omega
  · have : highK K ≤ 1125899906842624 := by rcases seven h1 with rfl | rfl | rfl | rfl | rfl | rfl | rfl <;> decide
    omega
theorem ev_from {α : Type} {g : Nat → Option α} {r : α} (n : Nat) (h : ∀ k, n ≤ k → g k = some r) : Ev g r := ⟨n, h⟩
def unitR (s : ByteArray) : Int × Int × Int := match unitAt s.data.toList with
  | none => (0, 0, 4)
  | some p => (p.1, ((10 ^ p.2.toNat : Nat) : Int), 0)
def printR (K a : Int) (s : ByteArray) : ByteArray × Int := if errQ (K, a) = 0 then (match unitAt s.data.toList with
  | none => (⟨#[]⟩, 4)
  | some p => if p.1 = K then (textB a p.2 s, 0) else (⟨#[]⟩, 10)) else (⟨#[]⟩, 1)
theorem print_ev (K a : Int) {s : ByteArray} (hs : s.size ≤ 1000) : Ev (fun k => unit_Print.f k K a s) (printR K a s) := by
  unfold unit_Print.f printR
  refine evb (check_ev K a) ?_
  by_cases c : errQ (K, a) = 0
  · rw [if_pos c]
    refine evp c ?_
    have hb := err_bounds c
    refine ev_from 12 fun k hk => ?_
    rw [if_pos ⟨hk, hs, by omega, by omega⟩]
    cases unitAt s.data.toList with
    | none => rfl
    | some p =>
      show (if p.1 = K then some (textB a p.2 s, (0 : Int)) else some (⟨#[]⟩, 10)) = some (if p.1 = K then (textB a p.2 s, 0) else (⟨#[]⟩, 10))
      split <;> rfl
  · rw [if_neg c]
    exact evn c (evr rfl)
def parse2R (kd : Int) (z : Nat) (neg : Bool) (wl pl : List UInt8) : Int × Int × Int :=
  if z < pl.length then (0, 0, 2) else if 18 < (trimLeftS (wl ++ (pl ++ List.replicate (z - pl.length) 48)) [48]).length then (0, 0, 2)
  else if errQ (kd, signed neg (valT z wl pl)) = 0 then (kd, signed neg (valT z wl pl), 0) else (0, 0, errQ (kd, signed neg (valT z wl pl)))
def parseR (s : ByteArray) : Int × Int × Int :=
  if (s.size : Int) > 64 then (0, 0, 8) else match unitAt (cut1 32 s.data.toList).2.1 with
  | none => (0, 0, 3)
  | some p => match numT (cut1 32 s.data.toList).1 with
    | none => (0, 0, 3)
    | some q => parse2R p.1 p.2.toNat q.1 q.2.1 q.2.2
theorem parse2_ev (kd : Int) (z : Nat) (neg : Bool) (wl pl : List UInt8) : Ev (fun k => parse2 k kd z neg wl pl) (parse2R kd z neg wl pl) := by
  unfold parse2 parse2R
  by_cases c1 : z < pl.length
  · rw [if_pos c1]
    exact evp c1 (evr rfl)
  · rw [if_neg c1]
    refine evn c1 ?_
    by_cases c2 : 18 < (trimLeftS (wl ++ (pl ++ List.replicate (z - pl.length) 48)) [48]).length
    · rw [if_pos c2]
      exact evp c2 (evr rfl)
    · rw [if_neg c2]
      refine evn c2 ?_
      refine evb (check_ev _ _) ?_
      by_cases c3 : errQ (kd, signed neg (valT z wl pl)) = 0
      · exact evp c3 (evr (if_pos c3).symm)
      · exact evn c3 (evr (if_neg c3).symm)
theorem parse_ev {s : ByteArray} (hs : s.size ≤ 1000) : Ev (fun k => unit_Parse.f k s) (parseR s) := by
  have h : Ev (fun k => if (s.size : Int) > 64 then some (0, 0, 8) else parse1 k s) (parseR s) := by
    unfold parseR
    by_cases c : (s.size : Int) > 64
    · rw [if_pos c]
      exact evp c (evr rfl)
    · rw [if_neg c]
      refine evn c ?_
      unfold parse1
      cases unitAt (cut1 32 s.data.toList).2.1 with
      | none => exact evr rfl
      | some p =>
        cases numT (cut1 32 s.data.toList).1 with
        | none => exact evr rfl
        | some q => exact parse2_ev _ _ _ _ _
  obtain ⟨n, h⟩ := h
  refine ev_from (max n 12) fun k hk => ?_
  unfold unit_Parse.f
  rw [if_pos ⟨by omega, hs⟩]
  exact h k (by omega)
/-- What is read, if it is read. -/
theorem parse_ok {s : ByteArray} {K a : Int} (h : parseR s = (K, a, 0)) : ∃ z neg wl pl, ¬ (s.size : Int) > 64 ∧ unitAt (cut1 32 s.data.toList).2.1 = some (K, z) ∧ 0 ≤ z ∧ z ≤ 8 ∧ numT (cut1 32 s.data.toList).1 = some (neg, wl, pl)
    ∧ pl.length ≤ z.toNat ∧ a = signed neg (valT z.toNat wl pl) ∧ errQ (K, a) = 0 := by
  unfold parseR at h
  split at h
  · cases h
  · rename_i c
    cases hu : unitAt (cut1 32 s.data.toList).2.1 with
    | none => rw [hu] at h; cases h
    | some p =>
      obtain ⟨kd, z⟩ := p
      rw [hu] at h
      cases hq : numT (cut1 32 s.data.toList).1 with
      | none => rw [hq] at h; cases h
      | some q =>
        obtain ⟨neg, wl, pl⟩ := q
        rw [hq] at h
        have h : parse2R kd z.toNat neg wl pl = (K, a, 0) := h
        have hsm := unit_small hu
        unfold parse2R at h
        split at h
        · cases h
        · rename_i c1
          split at h
          · cases h
          · split at h
            · rename_i c3
              simp only [Prod.mk.injEq] at h
              obtain ⟨rfl, rfl, -⟩ := h
              exact ⟨z, neg, wl, pl, c, rfl, hsm.2.1, hsm.2.2, rfl, by omega, rfl, c3⟩
            · rename_i c3
              simp only [Prod.mk.injEq] at h
              exact absurd h.2.2 c3
theorem cut_flag {s : List UInt8} {p : Int × Int} (h : unitAt (cut1 32 s).2.1 = some p) : (cut1 32 s).2.2 = true := by
  cases c : (cut1 32 s).2.2 with
  | true => rfl
  | false => exact absurd (cut1_no 32 s c).2 (unitAt_ne h)
/-- A number that is read with a sign is not 0. -/
theorem num_neg {s wl pl : List UInt8} {z : Nat} (h : numT s = some (true, wl, pl)) (hp : pl.length ≤ z) : valT z wl pl ≠ 0 := by
  intro e
  have h1 := decT_numT h hp
  rw [e] at h1
  have h2 : s = [45, 48] := by
    rw [← h1]
    unfold decT
    rw [Nat.zero_div, Nat.zero_mod, rest_zero, digits_small (by decide)]
    decide
  have h3 : numT [45, 48] = none := by decide
  rw [h2, h3] at h
  cases h
theorem signed_abs (neg : Bool) (n : Nat) : (signed neg n).natAbs = n := by
  unfold signed
  split <;> omega
theorem signed_neg {neg : Bool} {n : Nat} (h : neg = true → n ≠ 0) : decide (signed neg n < 0) = neg := by
  unfold signed
  cases neg with
  | true =>
    have := h rfl
    rw [if_pos rfl]
    exact decide_eq_true (by omega)
  | false =>
    rw [if_neg (by simp)]
    exact decide_eq_false (by omega)
/-- What is read is printed as it was. -/
theorem again {s : ByteArray} {K a : Int} (h : parseR s = (K, a, 0)) : (cut1 32 s.data.toList).2.2 = true ∧ printR K a ⟨(cut1 32 s.data.toList).2.1.toArray⟩ = (s, 0) ∧ errQ (K, a) = 0 := by
  obtain ⟨z, neg, wl, pl, hs, hu, h0, h8, hq, hpz, rfl, he⟩ := parse_ok h
  have hf := cut_flag hu
  refine ⟨hf, ?_, he⟩
  unfold printR
  rw [if_pos he]
  show (match unitAt (cut1 32 s.data.toList).2.1 with | none => _ | some p => _) = _
  rw [hu]
  show (if K = K then (textB (signed neg (valT z.toNat wl pl)) z ⟨(cut1 32 s.data.toList).2.1.toArray⟩, (0 : Int)) else (⟨#[]⟩, 10)) = _
  rw [if_pos rfl]
  refine Prod.ext ?_ rfl
  apply bytes_ext
  show decT (decide (signed neg (valT z.toNat wl pl) < 0)) z.toNat (signed neg (valT z.toNat wl pl)).natAbs ++ 32 :: (cut1 32 s.data.toList).2.1 = s.data.toList
  rw [signed_abs, signed_neg (fun e => by subst e; exact num_neg hq hpz), decT_numT hq hpz]
  exact (cut1_sum 32 s.data.toList hf).symm
end Go.Proofs.YtmjglehdckgcnaaGreatDoor.Pr
namespace Go.Proofs.YtmjglehdckgcnaaGreatDoor.Pr
open Go Go.RowKit Go.Lib Go.Proofs.YtmjglehdckgcnaaGreatDoorW.PrintWords Go.Proofs.YtmjglehdckgcnaaGreatDoorW.PrintLast Go.Proofs.YtmjglehdckgcnaaGreatDoorW.PrintMore Go.Proofs.YtmjglehdckgcnaaGreatDoor.X Go.Proofs.YtmjglehdckgcnaaGreatDoor.TX Go.Proofs.YtmjglehdckgcnaaGreatDoor.PL Go.Proofs.YtmjglehdckgcnaaGreatDoor.SQ
theorem unitR_at {s : ByteArray} {kd z : Int} (h : unitAt s.data.toList = some (kd, z)) : unitR s = (kd, ((10 ^ z.toNat : Nat) : Int), 0) := by
  unfold unitR
  rw [h]
def pw (z : Int) : Int := ((10 ^ z.toNat : Nat) : Int)
end Go.Proofs.YtmjglehdckgcnaaGreatDoor.Pr
namespace Go.Proofs.YtmjglehdckgcnaaGreatDoor.Pr
open Go Go.RowKit Go.Lib Go.Proofs.YtmjglehdckgcnaaGreatDoorW.PrintWords Go.Proofs.YtmjglehdckgcnaaGreatDoorW.PrintLast Go.Proofs.YtmjglehdckgcnaaGreatDoorW.PrintMore Go.Proofs.YtmjglehdckgcnaaGreatDoor.X Go.Proofs.YtmjglehdckgcnaaGreatDoor.TX Go.Proofs.YtmjglehdckgcnaaGreatDoor.PL Go.Proofs.YtmjglehdckgcnaaGreatDoor.SQ
theorem bt_list {s : ByteArray} {i : Nat} (h : i < s.data.toList.length) : bt s (i : Int) = ((s.data.toList[i].toNat : Nat) : Int) := by
  have h' : i < s.size := by rw [size_list]; exact h
  unfold bt
  rw [dif_pos (show ((i : Int)).toNat < s.size by rw [Int.toNat_natCast]; exact h')]
  simp only [Int.toNat_natCast]
  rfl
theorem isDig_int (b : UInt8) : isDig b = true ↔ ¬ ((b.toNat : Nat) : Int) < 48 ∧ ¬ ((b.toNat : Nat) : Int) > 57 := by
  rw [isDig_iff]
  omega
theorem dig_loop {s : ByteArray} (hs : s.size ≤ 1000) : ∀ (d i : Nat), i + d = s.data.toList.length → Ev (fun k => spileref03_isDigits.l0 k s (i : Int)) ((s.data.toList.drop i).all isDig && !s.data.toList.isEmpty)
  | 0, i, hi => by
    have := size_list s
    refine Ev.step (fun k => spileref03_isDigits.l0.eq_2 ..) ?_
    rw [List.drop_of_length_le (by omega)]
    refine evn (by omega) (evr ?_)
    rw [ByteArray.toList_eq]
    cases s.data.toList <;> rfl
  | d + 1, i, hi => by
    have hsz := size_list s
    have hil : i < s.data.toList.length := by omega
    refine Ev.step (fun k => spileref03_isDigits.l0.eq_2 ..) ?_
    refine evp (by omega) (evp (by omega) ?_)
    rw [bt_list hil, List.drop_eq_getElem_cons hil, List.all_cons]
    by_cases c : isDig s.data.toList[i] = true
    · obtain ⟨c1, c2⟩ := (isDig_int _).1 c
      refine evn c1 (evn c2 ?_)
      rw [c, Bool.true_and, w64 (by omega) (by omega), show (i : Int) + 1 = ((i + 1 : Nat) : Int) by omega]
      exact dig_loop hs d (i + 1) (by omega)
    · have cf : isDig s.data.toList[i] = false := by simpa using c
      rw [cf, Bool.false_and, Bool.false_and]
      by_cases c1 : ((s.data.toList[i].toNat : Nat) : Int) < 48
      · exact evp c1 (evr rfl)
      · refine evn c1 ?_
        by_cases c2 : ((s.data.toList[i].toNat : Nat) : Int) > 57
        · exact evp c2 (evr rfl)
        · exact absurd ((isDig_int _).2 ⟨c1, c2⟩) c
theorem dig_ev {s : ByteArray} (hs : s.size ≤ 1000) : Ev (fun k => spileref03_isDigits.f k s) (s.data.toList.all isDig && !s.data.toList.isEmpty) := by
  have h := dig_loop hs s.data.toList.length 0 (by omega)
  rw [List.drop_zero] at h
  exact h
/-- Where a byte stands. -/
def posI (c : UInt8) (s : List UInt8) : Int := if (cut1 c s).2.2 = true then ((cut1 c s).1.length : Int) else -1
theorem pos_loop {s : ByteArray} (hs : s.size ≤ 1000) (c : UInt8) (ci : Int) (hc : ci = ((c.toNat : Nat) : Int)) : ∀ (d i : Nat), i + d = s.data.toList.length → Ev (fun k => spileref03_index.l0 k s ci (i : Int)) (if (cut1 c (s.data.toList.drop i)).2.2 = true then ((i + (cut1 c (s.data.toList.drop i)).1.length : Nat) : Int) else -1)
  | 0, i, hi => by
    have := size_list s
    refine Ev.step (fun k => spileref03_index.l0.eq_2 ..) ?_
    rw [List.drop_of_length_le (by omega)]
    exact evn (by omega) (evr rfl)
  | d + 1, i, hi => by
    have hsz := size_list s
    have hil : i < s.data.toList.length := by omega
    refine Ev.step (fun k => spileref03_index.l0.eq_2 ..) ?_
    refine evp (by omega) (evp (by omega) ?_)
    rw [bt_list hil, List.drop_eq_getElem_cons hil]
    unfold cut1
    by_cases e : s.data.toList[i] = c
    · rw [if_pos e]
      refine evp (by rw [e, hc]) (evr ?_)
      simp
    · rw [if_neg e]
      refine evn (fun q => e (UInt8.toNat_inj.1 (by rw [hc] at q; omega))) ?_
      rw [w64 (by omega) (by omega), show (i : Int) + 1 = ((i + 1 : Nat) : Int) by omega]
      have h := pos_loop hs c ci hc d (i + 1) (by omega)
      have e2 : ((i + (s.data.toList[i] :: (cut1 c (s.data.toList.drop (i + 1))).1).length : Nat) : Int) = ((i + 1 + (cut1 c (s.data.toList.drop (i + 1))).1.length : Nat) : Int) := by
        rw [List.length_cons]
        omega
      show Ev _ (if (cut1 c (s.data.toList.drop (i + 1))).2.2 = true then ((i + (s.data.toList[i] :: (cut1 c (s.data.toList.drop (i + 1))).1).length : Nat) : Int) else -1)
      rw [e2]
      exact h
theorem pos_ev {s : ByteArray} (hs : s.size ≤ 1000) (c : UInt8) (ci : Int) (hc : ci = ((c.toNat : Nat) : Int)) : Ev (fun k => spileref03_index.f k s ci) (posI c s.data.toList) := by
  have h := pos_loop hs c ci hc s.data.toList.length 0 (by omega)
  rw [List.drop_zero, Nat.zero_add] at h
  exact h
theorem take_of {l a b : List UInt8} {c : UInt8} (e : l = a ++ c :: b) : l.take a.length = a ∧ l.drop (a.length + 1) = b := by
  subst e
  refine ⟨List.take_left, ?_⟩
  rw [show a ++ c :: b = (a ++ [c]) ++ b by simp]
  exact List.drop_left' (by simp)
theorem pos_yes {c : UInt8} {s : ByteArray} (h : (cut1 c s.data.toList).2.2 = true) : posI c s.data.toList = ((cut1 c s.data.toList).1.length : Int) ∧ s.extract 0 (cut1 c s.data.toList).1.length = ⟨(cut1 c s.data.toList).1.toArray⟩ ∧ s.extract ((cut1 c s.data.toList).1.length + 1) s.size = ⟨(cut1 c s.data.toList).2.1.toArray⟩
    ∧ (cut1 c s.data.toList).1.length + 1 + (cut1 c s.data.toList).2.1.length = s.size := by
  have e := cut1_sum c s.data.toList h
  have hl : s.size = (cut1 c s.data.toList).1.length + ((cut1 c s.data.toList).2.1.length + 1) := by
    rw [size_list]
    exact (congrArg List.length e).trans (by rw [List.length_append, List.length_cons])
  refine ⟨if_pos h, ?_, ?_, by omega⟩
  · apply bytes_ext
    rw [ext_list, List.drop_zero]
    exact (take_of e).1
  · apply bytes_ext
    rw [ext_list, List.take_of_length_le (by rw [← size_list]; exact Nat.le_refl _)]
    exact (take_of e).2
/-- The conditions on the digits ahead of the point. -/
def wok (x6 : Bool) (w p : List UInt8) : Bool := decide (Canon w ∧ w.length + p.length ≤ 20 ∧ ¬ (x6 = true ∧ w = [48] ∧ p = []))
end Go.Proofs.YtmjglehdckgcnaaGreatDoor.Pr
namespace Go.Proofs.YtmjglehdckgcnaaGreatDoor.Pr
open Go Go.RowKit Go.Lib Go.Proofs.YtmjglehdckgcnaaGreatDoorW.PrintWords Go.Proofs.YtmjglehdckgcnaaGreatDoorW.PrintLast Go.Proofs.YtmjglehdckgcnaaGreatDoorW.PrintMore Go.Proofs.YtmjglehdckgcnaaGreatDoor.X Go.Proofs.YtmjglehdckgcnaaGreatDoor.TX Go.Proofs.YtmjglehdckgcnaaGreatDoor.PL
theorem wok_no {x6 : Bool} {w p : List UInt8} (h : (w.all isDig && !w.isEmpty) = false) : wok x6 w p = false := by
  refine decide_eq_false fun q => ?_
  have h1 : w.isEmpty = false := by
    cases w with
    | nil => exact absurd q.1.1 (by simp)
    | cons => rfl
  rw [q.1.2.2, h1] at h
  cases h
theorem wok_zero {w p : List UInt8} (hw : w = [48]) (h : w.length + p.length ≤ 20) : wok false w p = true ∧ wok true w p = !p.isEmpty := by
  subst hw
  refine ⟨decide_eq_true ⟨by decide, h, fun q => by cases q.1⟩, ?_⟩
  cases p with
  | nil => exact decide_eq_false fun q => q.2.2 ⟨rfl, rfl, rfl⟩
  | cons b r => exact decide_eq_true ⟨by decide, h, fun q => by cases q.2.2⟩
theorem wok_long {x6 : Bool} {w p : List UInt8} (h : ¬ w.length + p.length ≤ 20) : wok x6 w p = false := decide_eq_false fun q => h q.2.1
theorem wok_lead {x6 : Bool} {w p : List UInt8} (h : w.head? = some 48) (h2 : w ≠ [48]) : wok x6 w p = false := by
  refine decide_eq_false fun q => q.1.2.1 ⟨?_, h⟩
  match w, h, h2 with
  | [b], h, h2 => exact absurd (by rw [show b = 48 from Option.some.inj h]) h2
  | _ :: _ :: _, _, _ => simp
theorem wok_good {x6 : Bool} {w p : List UInt8} (h0 : (w.all isDig && !w.isEmpty) = true) (h : w.head? ≠ some 48) (h2 : w ≠ [48]) (h3 : w.length + p.length ≤ 20) : wok x6 w p = true := by
  rw [Bool.and_eq_true] at h0
  refine decide_eq_true ⟨⟨?_, fun q => h q.2, h0.1⟩, h3, fun q => h2 q.2.1⟩
  cases w with
  | nil => exact absurd h0.2 (by decide)
  | cons => simp
theorem dig_get {s : ByteArray} (hs : s.size ≤ 1000) {b : Bool} (h : (s.data.toList.all isDig && !s.data.toList.isEmpty) = b) : ∃ k, spileref03_isDigits.f k s = some b := by
  have := (dig_ev hs).rounds
  rw [h] at this
  exact this
theorem beq48 {s : ByteArray} {b : Bool} (h : (s.data.toList == [48]) = b) : (s.toList == ([48] : List UInt8)) = b := by rw [ByteArray.toList_eq]; exact h
def badPlaces (p : List UInt8) : Bool := !(p.all isDig && !p.isEmpty) || decide (p.getLast? = some 48)
def splitF (s : ByteArray) : Bool × ByteArray × ByteArray × Bool :=
  if (cut1 46 (minusCut s.data.toList).2).2.2 = true then
    (if badPlaces (placesB s).data.toList = true then (false, ⟨#[]⟩, ⟨#[]⟩, false) else ((minusCut s.data.toList).1, wholeB s, placesB s, wok (minusCut s.data.toList).1 (wholeB s).data.toList (placesB s).data.toList))
  else ((minusCut s.data.toList).1, ⟨(minusCut s.data.toList).2.toArray⟩, ⟨#[]⟩, wok (minusCut s.data.toList).1 (minusCut s.data.toList).2 [])
def spileref03_split.f (s : ByteArray) : Option (Bool × ByteArray × ByteArray × Bool) := if s.size ≤ 1000 then some (splitF s) else none
theorem ne_empty {s : ByteArray} (h : 0 < s.size) : s.toList.isEmpty = false := by
  rw [ByteArray.toList_eq]
  rw [size_list] at h
  cases e : s.data.toList with
  | nil => rw [e] at h; cases h
  | cons => rfl
set_option maxHeartbeats 8000000 in
set_option maxRecDepth 100000 in
theorem split_e_no (s : ByteArray) (w : World) (hs : s = ⟨#[]⟩) (kx : Nat) (hix : spileref03_index.f kx (⟨#[]⟩ : ByteArray) 46 = some (-1)) (kw : Nat) (hkw : spileref03_isDigits.f kw (⟨#[]⟩ : ByteArray) = some false) :
    Calls Tryz.prog 25 #[.string s] w fun e w' => e = .returned (.tuple #[.bool false, .string ⟨#[]⟩, .string ⟨#[]⟩, .bool false]) ∧ Below w.heap.size w w' := by
  subst hs
  go_enter Tryz.func25, Tryz.ntmps25
  go_wp2_with (first | (go_at_call 24; refine (spileref03_index.calls kx ⟨#[]⟩ 46 (-1) _ hix).mono ?_; rintro e w1 ⟨rfl, hd1⟩; have HBW := Aside0.mk hd1.below) | (go_at_call 55; refine (spileref03_isDigits.calls kw (⟨#[]⟩ : ByteArray) _ _ hkw).mono ?_; rintro e w9 ⟨rfl, hd9⟩; have hb9 := hd9.below))
  ((try simp only [Exit.inBlock, Exit.then]); refine bodyPost_ret (results_tmp4 rfl _ _ _) rfl ?_)
  exact ⟨rfl, below_step HBW.out hb9⟩
set_option maxHeartbeats 8000000 in
set_option maxRecDepth 100000 in
theorem split_m_no (s : ByteArray) (w : World) (h0 : 0 < s.size) (hb : bt s 0 = 45) (x0 : ByteArray) (hx : s.extract 1 s.size = x0) (hW1 : x0.size ≤ 1000) (kx : Nat) (hix : spileref03_index.f kx x0 46 = some (-1)) :
    Calls Tryz.prog 25 #[.string s] w fun e w' => e = .returned (.tuple #[.bool true, .string x0, .string (⟨#[]⟩ : ByteArray), .bool (wok true x0.data.toList (⟨#[]⟩ : ByteArray).data.toList)]) ∧ Below w.heap.size w w' := by
  have f1 : s.toList.isEmpty = false := ne_empty h0
  have f2 : (0 < s.size) = True := eq_true h0
  have f3 : ∀ h : 0 < s.size, ((s[0]'h).toNat : Int) = bt s 0 := bt_at s 0
  have f4 : (bt s 0 == 45) = true := beq_iff_eq.2 hb
  have f5 : (0 < (s.size : Int)) = True := eq_true (by omega)
  have f6 : (1 ≤ (s.size : Int)) = True := eq_true (by omega)
  go_enter Tryz.func25, Tryz.ntmps25
  go_upto_region 10 with (first | (go_at_call 24; refine (spileref03_index.calls kx x0 46 (-1) _ hix).mono ?_; rintro e w1 ⟨rfl, hd1⟩; have HBW := Aside0.mk hd1.below))
  have sW := size_list x0
  have sP : (⟨#[]⟩ : ByteArray).data.toList.length = 0 := rfl
  obtain ⟨bw, hbw⟩ : ∃ b, (x0.data.toList.all isDig && !x0.data.toList.isEmpty) = b := ⟨_, rfl⟩
  obtain ⟨kw, hkw⟩ := dig_get hW1 hbw
  cases bw with
  | false =>
    have hb : wok true x0.data.toList (⟨#[]⟩ : ByteArray).data.toList = false := wok_no hbw
    clear sW sP
    (try clear hw48)
    (try clear hle)
    (try clear hhd)
    (try clear hnh)
    go_wp2_with (first | (go_at_call 55; refine (spileref03_isDigits.calls kw x0 _ _ hkw).mono ?_; rintro e w9 ⟨rfl, hd9⟩; have hb9 := hd9.below))
    ((try simp only [Exit.inBlock, Exit.then]); refine bodyPost_ret (results_tmp4 rfl _ _ _) rfl ?_)
    exact ⟨by first | rfl | (rw [hb]; rfl) | (simp [hb]; done), below_step HBW.out hb9⟩
  | true =>
    have hWne : 0 < x0.size := by
      rw [sW]
      cases e : x0.data.toList with
      | nil => rw [e] at hbw; cases hbw
      | cons => simp
    obtain ⟨sm, hsm⟩ : ∃ sm : Int, sm = (x0.size : Int) := ⟨_, rfl⟩
    have hs2 : wrap64 ((x0.size : Int) + 0) = sm := by rw [hsm, w64 (by omega) (by omega)]; omega
    have hs3 : wrap64 (x0.size : Int) = sm := by rw [hsm, w64 (by omega) (by omega)]
    cases fz : (x0.data.toList == [48]) with
    | true =>
      have fz1 := beq48 fz
      have hw48 : x0.data.toList = [48] := beq_iff_eq.1 fz
      by_cases c20 : sm ≤ 20
      · have f20 : decide (sm ≤ 20) = true := decide_eq_true c20
        have f21 : decide ((x0.size : Int) ≤ 20) = true := hsm ▸ f20
        have hle : x0.data.toList.length + (⟨#[]⟩ : ByteArray).data.toList.length ≤ 20 := by omega
        clear hsm
        have hb : wok true x0.data.toList (⟨#[]⟩ : ByteArray).data.toList = false := (wok_zero hw48 hle).2
        clear sW sP
        (try clear hw48)
        (try clear hle)
        (try clear hhd)
        (try clear hnh)
        go_wp2_with (first | (go_at_call 55; refine (spileref03_isDigits.calls kw x0 _ _ hkw).mono ?_; rintro e w9 ⟨rfl, hd9⟩; have hb9 := hd9.below))
        ((try simp only [Exit.inBlock, Exit.then]); refine bodyPost_ret (results_tmp4 rfl _ _ _) rfl ?_)
        exact ⟨by first | rfl | (rw [hb]; rfl) | (simp [hb]; done), below_step HBW.out hb9⟩
      · have f20 : decide (sm ≤ 20) = false := decide_eq_false c20
        have f21 : decide ((x0.size : Int) ≤ 20) = false := hsm ▸ f20
        have hle : ¬ x0.data.toList.length + (⟨#[]⟩ : ByteArray).data.toList.length ≤ 20 := by omega
        clear hsm
        have hb : wok true x0.data.toList (⟨#[]⟩ : ByteArray).data.toList = false := wok_long hle
        clear sW sP
        (try clear hw48)
        (try clear hle)
        (try clear hhd)
        (try clear hnh)
        go_wp2_with (first | (go_at_call 55; refine (spileref03_isDigits.calls kw x0 _ _ hkw).mono ?_; rintro e w9 ⟨rfl, hd9⟩; have hb9 := hd9.below))
        ((try simp only [Exit.inBlock, Exit.then]); refine bodyPost_ret (results_tmp4 rfl _ _ _) rfl ?_)
        exact ⟨by first | rfl | (rw [hb]; rfl) | (simp [hb]; done), below_step HBW.out hb9⟩
    | false =>
      have fz1 := beq48 fz
      have hw48 : x0.data.toList ≠ [48] := beq_eq_false_iff_ne.1 fz
      have hhd := head_at hWne
      have g2 : (0 < x0.size) = True := eq_true hWne
      have g3 : ∀ h : 0 < x0.size, ((x0[0]'h).toNat : Int) = bt x0 0 := bt_at x0 0
      have g5 : (0 < (x0.size : Int)) = True := eq_true (by omega)
      rw [g3 hWne] at hhd
      cases fh : (bt x0 0 == 48) with
      | true =>
        have fh2 : (bt x0 0 != 48) = false := bne_eq_false_iff_eq.mpr (beq_iff_eq.1 fh)
        clear hsm
        have hb : wok true x0.data.toList (⟨#[]⟩ : ByteArray).data.toList = false := wok_lead (hhd.symm ▸ beq_iff_eq.1 fh) hw48
        clear sW sP
        (try clear hw48)
        (try clear hle)
        (try clear hhd)
        (try clear hnh)
        go_wp2_with (first | (go_at_call 55; refine (spileref03_isDigits.calls kw x0 _ _ hkw).mono ?_; rintro e w9 ⟨rfl, hd9⟩; have hb9 := hd9.below))
        ((try simp only [Exit.inBlock, Exit.then]); refine bodyPost_ret (results_tmp4 rfl _ _ _) rfl ?_)
        exact ⟨by first | rfl | (rw [hb]; rfl) | (simp [hb]; done), below_step HBW.out hb9⟩
      | false =>
        have fh2 : (bt x0 0 != 48) = true := bne_iff_ne.mpr (beq_eq_false_iff_ne.1 fh)
        have hnh : x0.data.toList.head? ≠ some 48 := by rw [Ne, hhd]; exact beq_eq_false_iff_ne.1 fh
        by_cases c20 : sm ≤ 20
        · have f20 : decide (sm ≤ 20) = true := decide_eq_true c20
          have f21 : decide ((x0.size : Int) ≤ 20) = true := hsm ▸ f20
          have hle : x0.data.toList.length + (⟨#[]⟩ : ByteArray).data.toList.length ≤ 20 := by omega
          clear hsm
          have hb : wok true x0.data.toList (⟨#[]⟩ : ByteArray).data.toList = true := wok_good hbw hnh hw48 hle
          clear sW sP
          (try clear hw48)
          (try clear hle)
          (try clear hhd)
          (try clear hnh)
          go_wp2_with (first | (go_at_call 55; refine (spileref03_isDigits.calls kw x0 _ _ hkw).mono ?_; rintro e w9 ⟨rfl, hd9⟩; have hb9 := hd9.below))
          ((try simp only [Exit.inBlock, Exit.then]); refine bodyPost_ret (results_tmp4 rfl _ _ _) rfl ?_)
          exact ⟨by first | rfl | (rw [hb]; rfl) | (simp [hb]; done), below_step HBW.out hb9⟩
        · have f20 : decide (sm ≤ 20) = false := decide_eq_false c20
          have f21 : decide ((x0.size : Int) ≤ 20) = false := hsm ▸ f20
          have hle : ¬ x0.data.toList.length + (⟨#[]⟩ : ByteArray).data.toList.length ≤ 20 := by omega
          clear hsm
          have hb : wok true x0.data.toList (⟨#[]⟩ : ByteArray).data.toList = false := wok_long hle
          clear sW sP
          (try clear hw48)
          (try clear hle)
          (try clear hhd)
          (try clear hnh)
          go_wp2_with (first | (go_at_call 55; refine (spileref03_isDigits.calls kw x0 _ _ hkw).mono ?_; rintro e w9 ⟨rfl, hd9⟩; have hb9 := hd9.below))
          ((try simp only [Exit.inBlock, Exit.then]); refine bodyPost_ret (results_tmp4 rfl _ _ _) rfl ?_)
          exact ⟨by first | rfl | (rw [hb]; rfl) | (simp [hb]; done), below_step HBW.out hb9⟩
set_option maxHeartbeats 8000000 in
set_option maxRecDepth 100000 in
theorem split_m_b1 (s : ByteArray) (w : World) (h0 : 0 < s.size) (hb : bt s 0 = 45) (x0 : ByteArray) (hx : s.extract 1 s.size = x0) (hW0 : x0.size ≤ 1000) (kx : Nat) (ip ip1 : Int) (hix : spileref03_index.f kx x0 46 = some ip) (W P : ByteArray) (i0 : 0 ≤ ip) (i1 : ip + 1 ≤ (x0.size : Int)) (hip : ip1 = ip + 1) (hWx : x0.extract 0 ip.toNat = W) (hPx : x0.extract ip1.toNat x0.size = P) (hW1 : W.size ≤ 1000) (hP1 : P.size ≤ 1000) (kp : Nat) (hkp : spileref03_isDigits.f kp P = some false) :
    Calls Tryz.prog 25 #[.string s] w fun e w' => e = .returned (.tuple #[.bool false, .string ⟨#[]⟩, .string ⟨#[]⟩, .bool false]) ∧ Below w.heap.size w w' := by
  have f1 : s.toList.isEmpty = false := ne_empty h0
  have f2 : (0 < s.size) = True := eq_true h0
  have f3 : ∀ h : 0 < s.size, ((s[0]'h).toNat : Int) = bt s 0 := bt_at s 0
  have f4 : (bt s 0 == 45) = true := beq_iff_eq.2 hb
  have f5 : (0 < (s.size : Int)) = True := eq_true (by omega)
  have f6 : (1 ≤ (s.size : Int)) = True := eq_true (by omega)
  have j1 : decide (ip ≥ 0) = true := decide_eq_true i0
  have j2 : wrap64 (ip + 1) = ip1 := by rw [hip]; exact w64 (by omega) (by omega)
  have j3 : (0 ≤ ip ∧ ip ≤ (x0.size : Int)) = True := eq_true ⟨i0, by omega⟩
  have j4 : (0 ≤ ip1 ∧ ip1 ≤ (x0.size : Int)) = True := eq_true ⟨by omega, by omega⟩
  have j5 : (0 ≤ ip1) = True := eq_true (by omega)
  have j6 : (ip1 ≤ (x0.size : Int)) = True := eq_true (by omega)
  clear hip i0 i1
  have HW1 := Aside0.mk hW1
  have HP1 := Aside0.mk hP1
  clear hW0 hW1 hP1
  go_enter Tryz.func25, Tryz.ntmps25
  go_upto_region 7 with (first | (go_at_call 24; refine (spileref03_index.calls kx x0 46 ip _ hix).mono ?_; rintro e w1 ⟨rfl, hd1⟩; have HBW := Aside0.mk hd1.below))
  refine start_ (n := 9) (S := fun w' => Below w.heap.size w w') (ds := []) #[false, false, false, false, false, false, false, false, false] (by kernel_rfl) rfl rfl (below_drew1 HBW.out) (fun hHeld => ?_)
  generalize World.drew _ = Wd at hHeld ⊢
  refine pure_ (i := 0) (N := some 26) (v := ?_) (a' := ?_) #[true, false, false, false, false, false, false, false, false] rfl rfl (by kernel_rfl) (fun _ _ _ h => h) (Or.inl ⟨by rfl, ?_⟩) ?_ ?_
  rotate_left
  · intro w'
    go_simp
    with_reducible rfl
  rotate_left
  · simp only [Act.put, List.setIfInBounds_toArray, List.set_cons_zero, List.set_cons_succ, i64_w, i32_w]
    rfl
  refine pure_ (i := 1) (N := some 27) (v := ?_) (a' := ?_) #[true, true, false, false, false, false, false, false, false] rfl rfl (by kernel_rfl) (fun _ _ _ h => h) (Or.inl ⟨by rfl, ?_⟩) ?_ ?_
  rotate_left
  · intro w'
    go_simp
    with_reducible rfl
  rotate_left
  · simp only [Act.put, List.setIfInBounds_toArray, List.set_cons_zero, List.set_cons_succ, i64_w, i32_w]
    rfl
  refine pure_ (i := 2) (N := some 28) (v := ?_) (a' := ?_) #[true, true, true, false, false, false, false, false, false] rfl rfl (by kernel_rfl) (fun _ _ _ h => h) (Or.inl ⟨by rfl, ?_⟩) ?_ ?_
  rotate_left
  · intro w'
    go_simp
    with_reducible rfl
  rotate_left
  · simp only [Act.put, List.setIfInBounds_toArray, List.set_cons_zero, List.set_cons_succ, i64_w, i32_w]
    rfl
  refine pure_ (i := 3) (N := some 29) (v := ?_) (a' := ?_) #[true, true, true, true, false, false, false, false, false] rfl rfl (by kernel_rfl) (fun _ _ _ h => h) (Or.inl ⟨by rfl, ?_⟩) ?_ ?_
  rotate_left
  · intro w'
    go_simp
    with_reducible rfl
  rotate_left
  · simp only [Act.put, List.setIfInBounds_toArray, List.set_cons_zero, List.set_cons_succ, i64_w, i32_w]
    rfl
  refine pure_ (i := 4) (N := some 30) (v := ?_) (a' := ?_) #[true, true, true, true, true, false, false, false, false] rfl rfl (by kernel_rfl) (fun _ _ _ h => h) (Or.inl ⟨by rfl, ?_⟩) ?_ ?_
  rotate_left
  · intro w'
    go_simp
    with_reducible rfl
  rotate_left
  · simp only [Act.put, List.setIfInBounds_toArray, List.set_cons_zero, List.set_cons_succ, i64_w, i32_w]
    rfl
  refine pure_ (i := 5) (N := some 31) (v := ?_) (a' := ?_) #[true, true, true, true, true, true, false, false, false] rfl rfl (by kernel_rfl) (fun _ _ _ h => h) (Or.inl ⟨by rfl, ?_⟩) ?_ ?_
  rotate_left
  · intro w'
    go_simp
    with_reducible rfl
  rotate_left
  · simp only [Act.put, List.setIfInBounds_toArray, List.set_cons_zero, List.set_cons_succ, i64_w, i32_w]
    rfl
  refine pure_ (i := 6) (N := some 32) (v := ?_) (a' := ?_) #[true, true, true, true, true, true, true, false, false] rfl rfl (by kernel_rfl) (fun _ _ _ h => h) (Or.inl ⟨by rfl, ?_⟩) ?_ ?_
  rotate_left
  · intro w'
    go_simp
    with_reducible rfl
  rotate_left
  · simp only [Act.put, List.setIfInBounds_toArray, List.set_cons_zero, List.set_cons_succ, i64_w, i32_w]
    rfl
  refine pure_ (i := 7) (N := some 7) (v := ?_) (a' := ?_) #[true, true, true, true, true, true, true, true, false] rfl rfl (by kernel_rfl) (fun _ _ _ h => h) (Or.inl ⟨by rfl, ?_⟩) ?_ ?_
  rotate_left
  · intro w'
    go_simp
    with_reducible rfl
  rotate_left
  · simp only [Act.put, List.setIfInBounds_toArray, List.set_cons_zero, List.set_cons_succ, i64_w, i32_w]
    rfl
  refine pure_ (i := 8) (N := some 8) (v := ?_) (a' := ?_) #[true, true, true, true, true, true, true, true, true] rfl rfl (by kernel_rfl) (fun _ _ _ h => h) (Or.inl ⟨by rfl, ?_⟩) ?_ ?_
  rotate_left
  · intro w'
    go_simp
    with_reducible rfl
  rotate_left
  · simp only [Act.put, List.setIfInBounds_toArray, List.set_cons_zero, List.set_cons_succ, i64_w, i32_w]
    rfl
  refine done_ (by kernel_rfl) ?_
  have HBW2 := Aside0.mk hHeld
  clear hHeld HBW
  go_wp2_with (first | (go_at_call 55; refine (spileref03_isDigits.calls kp P false _ hkp).mono ?_; rintro e w8 ⟨rfl, hd8⟩; have HB8 := Aside0.mk (below_step HBW2.out hd8.below)))
  ((try simp only [Exit.inBlock, Exit.then]); refine bodyPost_ret (results_tmp4 rfl _ _ _) rfl ?_)
  exact ⟨rfl, HB8.out⟩
set_option maxHeartbeats 8000000 in
set_option maxRecDepth 100000 in
theorem split_m_b2 (s : ByteArray) (w : World) (h0 : 0 < s.size) (hb : bt s 0 = 45) (x0 : ByteArray) (hx : s.extract 1 s.size = x0) (hW0 : x0.size ≤ 1000) (kx : Nat) (ip ip1 : Int) (hix : spileref03_index.f kx x0 46 = some ip) (W P : ByteArray) (i0 : 0 ≤ ip) (i1 : ip + 1 ≤ (x0.size : Int)) (hip : ip1 = ip + 1) (hWx : x0.extract 0 ip.toNat = W) (hPx : x0.extract ip1.toNat x0.size = P) (hW1 : W.size ≤ 1000) (hP1 : P.size ≤ 1000) (kp : Nat) (hkp : spileref03_isDigits.f kp P = some true) (pl : Int) (hpl : wrap64 ((P.size : Int) - 1) = pl) (l0 : 0 ≤ pl) (l1 : pl < (P.size : Int)) (hl : bt P pl = 48) :
    Calls Tryz.prog 25 #[.string s] w fun e w' => e = .returned (.tuple #[.bool false, .string ⟨#[]⟩, .string ⟨#[]⟩, .bool false]) ∧ Below w.heap.size w w' := by
  have m1 : decide (0 ≤ pl) = true := decide_eq_true l0
  have m2 : (0 ≤ pl) = True := eq_true l0
  have m3 : (pl < (P.size : Int)) = True := eq_true l1
  have m4 : ∀ h : pl.toNat < P.size, ((P[pl.toNat]'h).toNat : Int) = bt P pl := bt_at P pl
  have m5 : (0 ≤ pl ∧ pl < (P.size : Int)) = True := eq_true ⟨l0, l1⟩
  have m6 : (pl.toNat < P.size) = True := eq_true (by omega)
  have m7 : (bt P pl == 48) = true := beq_iff_eq.2 hl
  have f1 : s.toList.isEmpty = false := ne_empty h0
  have f2 : (0 < s.size) = True := eq_true h0
  have f3 : ∀ h : 0 < s.size, ((s[0]'h).toNat : Int) = bt s 0 := bt_at s 0
  have f4 : (bt s 0 == 45) = true := beq_iff_eq.2 hb
  have f5 : (0 < (s.size : Int)) = True := eq_true (by omega)
  have f6 : (1 ≤ (s.size : Int)) = True := eq_true (by omega)
  have j1 : decide (ip ≥ 0) = true := decide_eq_true i0
  have j2 : wrap64 (ip + 1) = ip1 := by rw [hip]; exact w64 (by omega) (by omega)
  have j3 : (0 ≤ ip ∧ ip ≤ (x0.size : Int)) = True := eq_true ⟨i0, by omega⟩
  have j4 : (0 ≤ ip1 ∧ ip1 ≤ (x0.size : Int)) = True := eq_true ⟨by omega, by omega⟩
  have j5 : (0 ≤ ip1) = True := eq_true (by omega)
  have j6 : (ip1 ≤ (x0.size : Int)) = True := eq_true (by omega)
  clear hip i0 i1
  have HW1 := Aside0.mk hW1
  have HP1 := Aside0.mk hP1
  clear hW0 hW1 hP1
  go_enter Tryz.func25, Tryz.ntmps25
  go_upto_region 7 with (first | (go_at_call 24; refine (spileref03_index.calls kx x0 46 ip _ hix).mono ?_; rintro e w1 ⟨rfl, hd1⟩; have HBW := Aside0.mk hd1.below))
  refine start_ (n := 9) (S := fun w' => Below w.heap.size w w') (ds := []) #[false, false, false, false, false, false, false, false, false] (by kernel_rfl) rfl rfl (below_drew1 HBW.out) (fun hHeld => ?_)
  generalize World.drew _ = Wd at hHeld ⊢
  refine pure_ (i := 0) (N := some 26) (v := ?_) (a' := ?_) #[true, false, false, false, false, false, false, false, false] rfl rfl (by kernel_rfl) (fun _ _ _ h => h) (Or.inl ⟨by rfl, ?_⟩) ?_ ?_
  rotate_left
  · intro w'
    go_simp
    with_reducible rfl
  rotate_left
  · simp only [Act.put, List.setIfInBounds_toArray, List.set_cons_zero, List.set_cons_succ, i64_w, i32_w]
    rfl
  refine pure_ (i := 1) (N := some 27) (v := ?_) (a' := ?_) #[true, true, false, false, false, false, false, false, false] rfl rfl (by kernel_rfl) (fun _ _ _ h => h) (Or.inl ⟨by rfl, ?_⟩) ?_ ?_
  rotate_left
  · intro w'
    go_simp
    with_reducible rfl
  rotate_left
  · simp only [Act.put, List.setIfInBounds_toArray, List.set_cons_zero, List.set_cons_succ, i64_w, i32_w]
    rfl
  refine pure_ (i := 2) (N := some 28) (v := ?_) (a' := ?_) #[true, true, true, false, false, false, false, false, false] rfl rfl (by kernel_rfl) (fun _ _ _ h => h) (Or.inl ⟨by rfl, ?_⟩) ?_ ?_
  rotate_left
  · intro w'
    go_simp
    with_reducible rfl
  rotate_left
  · simp only [Act.put, List.setIfInBounds_toArray, List.set_cons_zero, List.set_cons_succ, i64_w, i32_w]
    rfl
  refine pure_ (i := 3) (N := some 29) (v := ?_) (a' := ?_) #[true, true, true, true, false, false, false, false, false] rfl rfl (by kernel_rfl) (fun _ _ _ h => h) (Or.inl ⟨by rfl, ?_⟩) ?_ ?_
  rotate_left
  · intro w'
    go_simp
    with_reducible rfl
  rotate_left
  · simp only [Act.put, List.setIfInBounds_toArray, List.set_cons_zero, List.set_cons_succ, i64_w, i32_w]
    rfl
  refine pure_ (i := 4) (N := some 30) (v := ?_) (a' := ?_) #[true, true, true, true, true, false, false, false, false] rfl rfl (by kernel_rfl) (fun _ _ _ h => h) (Or.inl ⟨by rfl, ?_⟩) ?_ ?_
  rotate_left
  · intro w'
    go_simp
    with_reducible rfl
  rotate_left
  · simp only [Act.put, List.setIfInBounds_toArray, List.set_cons_zero, List.set_cons_succ, i64_w, i32_w]
    rfl
  refine pure_ (i := 5) (N := some 31) (v := ?_) (a' := ?_) #[true, true, true, true, true, true, false, false, false] rfl rfl (by kernel_rfl) (fun _ _ _ h => h) (Or.inl ⟨by rfl, ?_⟩) ?_ ?_
  rotate_left
  · intro w'
    go_simp
    with_reducible rfl
  rotate_left
  · simp only [Act.put, List.setIfInBounds_toArray, List.set_cons_zero, List.set_cons_succ, i64_w, i32_w]
    rfl
  refine pure_ (i := 6) (N := some 32) (v := ?_) (a' := ?_) #[true, true, true, true, true, true, true, false, false] rfl rfl (by kernel_rfl) (fun _ _ _ h => h) (Or.inl ⟨by rfl, ?_⟩) ?_ ?_
  rotate_left
  · intro w'
    go_simp
    with_reducible rfl
  rotate_left
  · simp only [Act.put, List.setIfInBounds_toArray, List.set_cons_zero, List.set_cons_succ, i64_w, i32_w]
    rfl
  refine pure_ (i := 7) (N := some 7) (v := ?_) (a' := ?_) #[true, true, true, true, true, true, true, true, false] rfl rfl (by kernel_rfl) (fun _ _ _ h => h) (Or.inl ⟨by rfl, ?_⟩) ?_ ?_
  rotate_left
  · intro w'
    go_simp
    with_reducible rfl
  rotate_left
  · simp only [Act.put, List.setIfInBounds_toArray, List.set_cons_zero, List.set_cons_succ, i64_w, i32_w]
    rfl
  refine pure_ (i := 8) (N := some 8) (v := ?_) (a' := ?_) #[true, true, true, true, true, true, true, true, true] rfl rfl (by kernel_rfl) (fun _ _ _ h => h) (Or.inl ⟨by rfl, ?_⟩) ?_ ?_
  rotate_left
  · intro w'
    go_simp
    with_reducible rfl
  rotate_left
  · simp only [Act.put, List.setIfInBounds_toArray, List.set_cons_zero, List.set_cons_succ, i64_w, i32_w]
    rfl
  refine done_ (by kernel_rfl) ?_
  have HBW2 := Aside0.mk hHeld
  clear hHeld HBW
  go_wp2_with (first | (go_at_call 55; refine (spileref03_isDigits.calls kp P true _ hkp).mono ?_; rintro e w8 ⟨rfl, hd8⟩; have HB8 := Aside0.mk (below_step HBW2.out hd8.below)))
  ((try simp only [Exit.inBlock, Exit.then]); refine bodyPost_ret (results_tmp4 rfl _ _ _) rfl ?_)
  exact ⟨rfl, HB8.out⟩
set_option maxHeartbeats 8000000 in
set_option maxRecDepth 100000 in
theorem split_m_ok (s : ByteArray) (w : World) (h0 : 0 < s.size) (hb : bt s 0 = 45) (x0 : ByteArray) (hx : s.extract 1 s.size = x0) (hW0 : x0.size ≤ 1000) (kx : Nat) (ip ip1 : Int) (hix : spileref03_index.f kx x0 46 = some ip) (W P : ByteArray) (i0 : 0 ≤ ip) (i1 : ip + 1 ≤ (x0.size : Int)) (hip : ip1 = ip + 1) (hWx : x0.extract 0 ip.toNat = W) (hPx : x0.extract ip1.toNat x0.size = P) (hW1 : W.size ≤ 1000) (hP1 : P.size ≤ 1000) (kp : Nat) (hkp : spileref03_isDigits.f kp P = some true) (pl : Int) (hpl : wrap64 ((P.size : Int) - 1) = pl) (l0 : 0 ≤ pl) (l1 : pl < (P.size : Int)) (hl : bt P pl ≠ 48) :
    Calls Tryz.prog 25 #[.string s] w fun e w' => e = .returned (.tuple #[.bool true, .string W, .string P, .bool (wok true W.data.toList P.data.toList)]) ∧ Below w.heap.size w w' := by
  have m1 : decide (0 ≤ pl) = true := decide_eq_true l0
  have m2 : (0 ≤ pl) = True := eq_true l0
  have m3 : (pl < (P.size : Int)) = True := eq_true l1
  have m4 : ∀ h : pl.toNat < P.size, ((P[pl.toNat]'h).toNat : Int) = bt P pl := bt_at P pl
  have m5 : (0 ≤ pl ∧ pl < (P.size : Int)) = True := eq_true ⟨l0, l1⟩
  have m6 : (pl.toNat < P.size) = True := eq_true (by omega)
  have m7 : (bt P pl == 48) = false := beq_eq_false_iff_ne.2 hl
  have f1 : s.toList.isEmpty = false := ne_empty h0
  have f2 : (0 < s.size) = True := eq_true h0
  have f3 : ∀ h : 0 < s.size, ((s[0]'h).toNat : Int) = bt s 0 := bt_at s 0
  have f4 : (bt s 0 == 45) = true := beq_iff_eq.2 hb
  have f5 : (0 < (s.size : Int)) = True := eq_true (by omega)
  have f6 : (1 ≤ (s.size : Int)) = True := eq_true (by omega)
  have j1 : decide (ip ≥ 0) = true := decide_eq_true i0
  have j2 : wrap64 (ip + 1) = ip1 := by rw [hip]; exact w64 (by omega) (by omega)
  have j3 : (0 ≤ ip ∧ ip ≤ (x0.size : Int)) = True := eq_true ⟨i0, by omega⟩
  have j4 : (0 ≤ ip1 ∧ ip1 ≤ (x0.size : Int)) = True := eq_true ⟨by omega, by omega⟩
  have j5 : (0 ≤ ip1) = True := eq_true (by omega)
  have j6 : (ip1 ≤ (x0.size : Int)) = True := eq_true (by omega)
  clear hip i0 i1
  have HW1 := Aside0.mk hW1
  have HP1 := Aside0.mk hP1
  clear hW0 hW1 hP1
  go_enter Tryz.func25, Tryz.ntmps25
  go_upto_region 7 with (first | (go_at_call 24; refine (spileref03_index.calls kx x0 46 ip _ hix).mono ?_; rintro e w1 ⟨rfl, hd1⟩; have HBW := Aside0.mk hd1.below))
  refine start_ (n := 9) (S := fun w' => Below w.heap.size w w') (ds := []) #[false, false, false, false, false, false, false, false, false] (by kernel_rfl) rfl rfl (below_drew1 HBW.out) (fun hHeld => ?_)
  generalize World.drew _ = Wd at hHeld ⊢
  refine pure_ (i := 0) (N := some 26) (v := ?_) (a' := ?_) #[true, false, false, false, false, false, false, false, false] rfl rfl (by kernel_rfl) (fun _ _ _ h => h) (Or.inl ⟨by rfl, ?_⟩) ?_ ?_
  rotate_left
  · intro w'
    go_simp
    with_reducible rfl
  rotate_left
  · simp only [Act.put, List.setIfInBounds_toArray, List.set_cons_zero, List.set_cons_succ, i64_w, i32_w]
    rfl
  refine pure_ (i := 1) (N := some 27) (v := ?_) (a' := ?_) #[true, true, false, false, false, false, false, false, false] rfl rfl (by kernel_rfl) (fun _ _ _ h => h) (Or.inl ⟨by rfl, ?_⟩) ?_ ?_
  rotate_left
  · intro w'
    go_simp
    with_reducible rfl
  rotate_left
  · simp only [Act.put, List.setIfInBounds_toArray, List.set_cons_zero, List.set_cons_succ, i64_w, i32_w]
    rfl
  refine pure_ (i := 2) (N := some 28) (v := ?_) (a' := ?_) #[true, true, true, false, false, false, false, false, false] rfl rfl (by kernel_rfl) (fun _ _ _ h => h) (Or.inl ⟨by rfl, ?_⟩) ?_ ?_
  rotate_left
  · intro w'
    go_simp
    with_reducible rfl
  rotate_left
  · simp only [Act.put, List.setIfInBounds_toArray, List.set_cons_zero, List.set_cons_succ, i64_w, i32_w]
    rfl
  refine pure_ (i := 3) (N := some 29) (v := ?_) (a' := ?_) #[true, true, true, true, false, false, false, false, false] rfl rfl (by kernel_rfl) (fun _ _ _ h => h) (Or.inl ⟨by rfl, ?_⟩) ?_ ?_
  rotate_left
  · intro w'
    go_simp
    with_reducible rfl
  rotate_left
  · simp only [Act.put, List.setIfInBounds_toArray, List.set_cons_zero, List.set_cons_succ, i64_w, i32_w]
    rfl
  refine pure_ (i := 4) (N := some 30) (v := ?_) (a' := ?_) #[true, true, true, true, true, false, false, false, false] rfl rfl (by kernel_rfl) (fun _ _ _ h => h) (Or.inl ⟨by rfl, ?_⟩) ?_ ?_
  rotate_left
  · intro w'
    go_simp
    with_reducible rfl
  rotate_left
  · simp only [Act.put, List.setIfInBounds_toArray, List.set_cons_zero, List.set_cons_succ, i64_w, i32_w]
    rfl
  refine pure_ (i := 5) (N := some 31) (v := ?_) (a' := ?_) #[true, true, true, true, true, true, false, false, false] rfl rfl (by kernel_rfl) (fun _ _ _ h => h) (Or.inl ⟨by rfl, ?_⟩) ?_ ?_
  rotate_left
  · intro w'
    go_simp
    with_reducible rfl
  rotate_left
  · simp only [Act.put, List.setIfInBounds_toArray, List.set_cons_zero, List.set_cons_succ, i64_w, i32_w]
    rfl
  refine pure_ (i := 6) (N := some 32) (v := ?_) (a' := ?_) #[true, true, true, true, true, true, true, false, false] rfl rfl (by kernel_rfl) (fun _ _ _ h => h) (Or.inl ⟨by rfl, ?_⟩) ?_ ?_
  rotate_left
  · intro w'
    go_simp
    with_reducible rfl
  rotate_left
  · simp only [Act.put, List.setIfInBounds_toArray, List.set_cons_zero, List.set_cons_succ, i64_w, i32_w]
    rfl
  refine pure_ (i := 7) (N := some 7) (v := ?_) (a' := ?_) #[true, true, true, true, true, true, true, true, false] rfl rfl (by kernel_rfl) (fun _ _ _ h => h) (Or.inl ⟨by rfl, ?_⟩) ?_ ?_
  rotate_left
  · intro w'
    go_simp
    with_reducible rfl
  rotate_left
  · simp only [Act.put, List.setIfInBounds_toArray, List.set_cons_zero, List.set_cons_succ, i64_w, i32_w]
    rfl
  refine pure_ (i := 8) (N := some 8) (v := ?_) (a' := ?_) #[true, true, true, true, true, true, true, true, true] rfl rfl (by kernel_rfl) (fun _ _ _ h => h) (Or.inl ⟨by rfl, ?_⟩) ?_ ?_
  rotate_left
  · intro w'
    go_simp
    with_reducible rfl
  rotate_left
  · simp only [Act.put, List.setIfInBounds_toArray, List.set_cons_zero, List.set_cons_succ, i64_w, i32_w]
    rfl
  refine done_ (by kernel_rfl) ?_
  have HBW2 := Aside0.mk hHeld
  clear hHeld HBW
  go_upto_region 10 with (first | (go_at_call 55; refine (spileref03_isDigits.calls kp P true _ hkp).mono ?_; rintro e w8 ⟨rfl, hd8⟩; have HB8 := Aside0.mk (below_step HBW2.out hd8.below)))
  (try clear m1)
  (try clear m2)
  (try clear m3)
  (try clear m4)
  (try clear m5)
  (try clear m6)
  (try clear m7)
  (try clear j1)
  (try clear j2)
  (try clear j3)
  (try clear j4)
  (try clear j5)
  (try clear j6)
  (try clear hWx)
  (try clear hPx)
  (try clear hl)
  (try clear hpl)
  (try clear l0)
  (try clear l1)
  (try clear hkp)
  (try clear hix)
  (try clear f1)
  (try clear f2)
  (try clear f3)
  (try clear f4)
  (try clear f5)
  (try clear f6)
  (try clear hb)
  (try clear hx)
  (try clear h0)
  (try clear hd1)
  (try clear hd8)
  (try clear hu)
  have hW1 := HW1.out
  have hP1 := HP1.out
  have sW := size_list W
  have sP := size_list P
  obtain ⟨bw, hbw⟩ : ∃ b, (W.data.toList.all isDig && !W.data.toList.isEmpty) = b := ⟨_, rfl⟩
  obtain ⟨kw, hkw⟩ := dig_get hW1 hbw
  cases bw with
  | false =>
    have hb : wok true W.data.toList P.data.toList = false := wok_no hbw
    clear hW1 hP1
    clear sW sP
    (try clear hw48)
    (try clear hle)
    (try clear hhd)
    (try clear hnh)
    go_wp2_with (first | (go_at_call 55; refine (spileref03_isDigits.calls kw W _ _ hkw).mono ?_; rintro e w9 ⟨rfl, hd9⟩; have hb9 := hd9.below))
    ((try simp only [Exit.inBlock, Exit.then]); refine bodyPost_ret (results_tmp4 rfl _ _ _) rfl ?_)
    exact ⟨by first | rfl | (rw [hb]; rfl) | (simp [hb]; done), below_step HB8.out hb9⟩
  | true =>
    have hWne : 0 < W.size := by
      rw [sW]
      cases e : W.data.toList with
      | nil => rw [e] at hbw; cases hbw
      | cons => simp
    obtain ⟨sm, hsm⟩ : ∃ sm : Int, sm = (W.size : Int) + (P.size : Int) := ⟨_, rfl⟩
    have hs1 : wrap64 ((W.size : Int) + (P.size : Int)) = sm := by rw [hsm]; exact w64 (by omega) (by omega)
    cases fz : (W.data.toList == [48]) with
    | true =>
      have fz1 := beq48 fz
      have hw48 : W.data.toList = [48] := beq_iff_eq.1 fz
      by_cases c20 : sm ≤ 20
      · have f20 : decide (sm ≤ 20) = true := decide_eq_true c20
        have f21 : decide ((W.size : Int) + (P.size : Int) ≤ 20) = true := hsm ▸ f20
        have hle : W.data.toList.length + P.data.toList.length ≤ 20 := by omega
        clear hsm
        cases fp : P.toList.isEmpty with
        | true =>
          have hb : wok true W.data.toList P.data.toList = false := by rw [(wok_zero hw48 hle).2, ← empty_list, fp]; rfl
          clear hW1 hP1
          clear sW sP
          (try clear hw48)
          (try clear hle)
          (try clear hhd)
          (try clear hnh)
          go_wp2_with (first | (go_at_call 55; refine (spileref03_isDigits.calls kw W _ _ hkw).mono ?_; rintro e w9 ⟨rfl, hd9⟩; have hb9 := hd9.below))
          ((try simp only [Exit.inBlock, Exit.then]); refine bodyPost_ret (results_tmp4 rfl _ _ _) rfl ?_)
          exact ⟨by first | rfl | (rw [hb]; rfl) | (simp [hb]; done), below_step HB8.out hb9⟩
        | false =>
          have hb : wok true W.data.toList P.data.toList = true := by rw [(wok_zero hw48 hle).2, ← empty_list, fp]; rfl
          clear hW1 hP1
          clear sW sP
          (try clear hw48)
          (try clear hle)
          (try clear hhd)
          (try clear hnh)
          go_wp2_with (first | (go_at_call 55; refine (spileref03_isDigits.calls kw W _ _ hkw).mono ?_; rintro e w9 ⟨rfl, hd9⟩; have hb9 := hd9.below))
          ((try simp only [Exit.inBlock, Exit.then]); refine bodyPost_ret (results_tmp4 rfl _ _ _) rfl ?_)
          exact ⟨by first | rfl | (rw [hb]; rfl) | (simp [hb]; done), below_step HB8.out hb9⟩
      · have f20 : decide (sm ≤ 20) = false := decide_eq_false c20
        have f21 : decide ((W.size : Int) + (P.size : Int) ≤ 20) = false := hsm ▸ f20
        have hle : ¬ W.data.toList.length + P.data.toList.length ≤ 20 := by omega
        clear hsm
        have hb : wok true W.data.toList P.data.toList = false := wok_long hle
        clear hW1 hP1
        clear sW sP
        (try clear hw48)
        (try clear hle)
        (try clear hhd)
        (try clear hnh)
        go_wp2_with (first | (go_at_call 55; refine (spileref03_isDigits.calls kw W _ _ hkw).mono ?_; rintro e w9 ⟨rfl, hd9⟩; have hb9 := hd9.below))
        ((try simp only [Exit.inBlock, Exit.then]); refine bodyPost_ret (results_tmp4 rfl _ _ _) rfl ?_)
        exact ⟨by first | rfl | (rw [hb]; rfl) | (simp [hb]; done), below_step HB8.out hb9⟩
    | false =>
      have fz1 := beq48 fz
      have hw48 : W.data.toList ≠ [48] := beq_eq_false_iff_ne.1 fz
      have hhd := head_at hWne
      have g2 : (0 < W.size) = True := eq_true hWne
      have g3 : ∀ h : 0 < W.size, ((W[0]'h).toNat : Int) = bt W 0 := bt_at W 0
      have g5 : (0 < (W.size : Int)) = True := eq_true (by omega)
      rw [g3 hWne] at hhd
      cases fh : (bt W 0 == 48) with
      | true =>
        have fh2 : (bt W 0 != 48) = false := bne_eq_false_iff_eq.mpr (beq_iff_eq.1 fh)
        clear hsm
        have hb : wok true W.data.toList P.data.toList = false := wok_lead (hhd.symm ▸ beq_iff_eq.1 fh) hw48
        clear hW1 hP1
        clear sW sP
        (try clear hw48)
        (try clear hle)
        (try clear hhd)
        (try clear hnh)
        go_wp2_with (first | (go_at_call 55; refine (spileref03_isDigits.calls kw W _ _ hkw).mono ?_; rintro e w9 ⟨rfl, hd9⟩; have hb9 := hd9.below))
        ((try simp only [Exit.inBlock, Exit.then]); refine bodyPost_ret (results_tmp4 rfl _ _ _) rfl ?_)
        exact ⟨by first | rfl | (rw [hb]; rfl) | (simp [hb]; done), below_step HB8.out hb9⟩
      | false =>
        have fh2 : (bt W 0 != 48) = true := bne_iff_ne.mpr (beq_eq_false_iff_ne.1 fh)
        have hnh : W.data.toList.head? ≠ some 48 := by rw [Ne, hhd]; exact beq_eq_false_iff_ne.1 fh
        by_cases c20 : sm ≤ 20
        · have f20 : decide (sm ≤ 20) = true := decide_eq_true c20
          have f21 : decide ((W.size : Int) + (P.size : Int) ≤ 20) = true := hsm ▸ f20
          have hle : W.data.toList.length + P.data.toList.length ≤ 20 := by omega
          clear hsm
          have hb : wok true W.data.toList P.data.toList = true := wok_good hbw hnh hw48 hle
          clear hW1 hP1
          clear sW sP
          (try clear hw48)
          (try clear hle)
          (try clear hhd)
          (try clear hnh)
          go_wp2_with (first | (go_at_call 55; refine (spileref03_isDigits.calls kw W _ _ hkw).mono ?_; rintro e w9 ⟨rfl, hd9⟩; have hb9 := hd9.below))
          ((try simp only [Exit.inBlock, Exit.then]); refine bodyPost_ret (results_tmp4 rfl _ _ _) rfl ?_)
          exact ⟨by first | rfl | (rw [hb]; rfl) | (simp [hb]; done), below_step HB8.out hb9⟩
        · have f20 : decide (sm ≤ 20) = false := decide_eq_false c20
          have f21 : decide ((W.size : Int) + (P.size : Int) ≤ 20) = false := hsm ▸ f20
          have hle : ¬ W.data.toList.length + P.data.toList.length ≤ 20 := by omega
          clear hsm
          have hb : wok true W.data.toList P.data.toList = false := wok_long hle
          clear hW1 hP1
          clear sW sP
          (try clear hw48)
          (try clear hle)
          (try clear hhd)
          (try clear hnh)
          go_wp2_with (first | (go_at_call 55; refine (spileref03_isDigits.calls kw W _ _ hkw).mono ?_; rintro e w9 ⟨rfl, hd9⟩; have hb9 := hd9.below))
          ((try simp only [Exit.inBlock, Exit.then]); refine bodyPost_ret (results_tmp4 rfl _ _ _) rfl ?_)
          exact ⟨by first | rfl | (rw [hb]; rfl) | (simp [hb]; done), below_step HB8.out hb9⟩
set_option maxHeartbeats 8000000 in
set_option maxRecDepth 100000 in
theorem split_p_no (s : ByteArray) (w : World) (h0 : 0 < s.size) (hb : bt s 0 ≠ 45) (hW1 : s.size ≤ 1000) (kx : Nat) (hix : spileref03_index.f kx s 46 = some (-1)) :
    Calls Tryz.prog 25 #[.string s] w fun e w' => e = .returned (.tuple #[.bool false, .string s, .string (⟨#[]⟩ : ByteArray), .bool (wok false s.data.toList (⟨#[]⟩ : ByteArray).data.toList)]) ∧ Below w.heap.size w w' := by
  have f1 : s.toList.isEmpty = false := ne_empty h0
  have f2 : (0 < s.size) = True := eq_true h0
  have f3 : ∀ h : 0 < s.size, ((s[0]'h).toNat : Int) = bt s 0 := bt_at s 0
  have f4 : (bt s 0 == 45) = false := beq_eq_false_iff_ne.2 hb
  have f5 : (0 < (s.size : Int)) = True := eq_true (by omega)
  go_enter Tryz.func25, Tryz.ntmps25
  go_upto_region 10 with (first | (go_at_call 24; refine (spileref03_index.calls kx s 46 (-1) _ hix).mono ?_; rintro e w1 ⟨rfl, hd1⟩; have HBW := Aside0.mk hd1.below))
  have sW := size_list s
  have sP : (⟨#[]⟩ : ByteArray).data.toList.length = 0 := rfl
  obtain ⟨bw, hbw⟩ : ∃ b, (s.data.toList.all isDig && !s.data.toList.isEmpty) = b := ⟨_, rfl⟩
  obtain ⟨kw, hkw⟩ := dig_get hW1 hbw
  cases bw with
  | false =>
    have hb : wok false s.data.toList (⟨#[]⟩ : ByteArray).data.toList = false := wok_no hbw
    clear sW sP
    (try clear hw48)
    (try clear hle)
    (try clear hhd)
    (try clear hnh)
    go_wp2_with (first | (go_at_call 55; refine (spileref03_isDigits.calls kw s _ _ hkw).mono ?_; rintro e w9 ⟨rfl, hd9⟩; have hb9 := hd9.below))
    ((try simp only [Exit.inBlock, Exit.then]); refine bodyPost_ret (results_tmp4 rfl _ _ _) rfl ?_)
    exact ⟨by first | rfl | (rw [hb]; rfl) | (simp [hb]; done), below_step HBW.out hb9⟩
  | true =>
    have hWne : 0 < s.size := by
      rw [sW]
      cases e : s.data.toList with
      | nil => rw [e] at hbw; cases hbw
      | cons => simp
    obtain ⟨sm, hsm⟩ : ∃ sm : Int, sm = (s.size : Int) := ⟨_, rfl⟩
    have hs2 : wrap64 ((s.size : Int) + 0) = sm := by rw [hsm, w64 (by omega) (by omega)]; omega
    have hs3 : wrap64 (s.size : Int) = sm := by rw [hsm, w64 (by omega) (by omega)]
    cases fz : (s.data.toList == [48]) with
    | true =>
      have fz1 := beq48 fz
      have hw48 : s.data.toList = [48] := beq_iff_eq.1 fz
      by_cases c20 : sm ≤ 20
      · have f20 : decide (sm ≤ 20) = true := decide_eq_true c20
        have f21 : decide ((s.size : Int) ≤ 20) = true := hsm ▸ f20
        have hle : s.data.toList.length + (⟨#[]⟩ : ByteArray).data.toList.length ≤ 20 := by omega
        clear hsm
        have hb : wok false s.data.toList (⟨#[]⟩ : ByteArray).data.toList = true := (wok_zero hw48 hle).1
        clear sW sP
        (try clear hw48)
        (try clear hle)
        (try clear hhd)
        (try clear hnh)
        go_wp2_with (first | (go_at_call 55; refine (spileref03_isDigits.calls kw s _ _ hkw).mono ?_; rintro e w9 ⟨rfl, hd9⟩; have hb9 := hd9.below))
        ((try simp only [Exit.inBlock, Exit.then]); refine bodyPost_ret (results_tmp4 rfl _ _ _) rfl ?_)
        exact ⟨by first | rfl | (rw [hb]; rfl) | (simp [hb]; done), below_step HBW.out hb9⟩
      · have f20 : decide (sm ≤ 20) = false := decide_eq_false c20
        have f21 : decide ((s.size : Int) ≤ 20) = false := hsm ▸ f20
        have hle : ¬ s.data.toList.length + (⟨#[]⟩ : ByteArray).data.toList.length ≤ 20 := by omega
        clear hsm
        have hb : wok false s.data.toList (⟨#[]⟩ : ByteArray).data.toList = false := wok_long hle
        clear sW sP
        (try clear hw48)
        (try clear hle)
        (try clear hhd)
        (try clear hnh)
        go_wp2_with (first | (go_at_call 55; refine (spileref03_isDigits.calls kw s _ _ hkw).mono ?_; rintro e w9 ⟨rfl, hd9⟩; have hb9 := hd9.below))
        ((try simp only [Exit.inBlock, Exit.then]); refine bodyPost_ret (results_tmp4 rfl _ _ _) rfl ?_)
        exact ⟨by first | rfl | (rw [hb]; rfl) | (simp [hb]; done), below_step HBW.out hb9⟩
    | false =>
      have fz1 := beq48 fz
      have hw48 : s.data.toList ≠ [48] := beq_eq_false_iff_ne.1 fz
      have hhd := head_at hWne
      have g2 : (0 < s.size) = True := eq_true hWne
      have g3 : ∀ h : 0 < s.size, ((s[0]'h).toNat : Int) = bt s 0 := bt_at s 0
      have g5 : (0 < (s.size : Int)) = True := eq_true (by omega)
      rw [g3 hWne] at hhd
      cases fh : (bt s 0 == 48) with
      | true =>
        have fh2 : (bt s 0 != 48) = false := bne_eq_false_iff_eq.mpr (beq_iff_eq.1 fh)
        clear hsm
        have hb : wok false s.data.toList (⟨#[]⟩ : ByteArray).data.toList = false := wok_lead (hhd.symm ▸ beq_iff_eq.1 fh) hw48
        clear sW sP
        (try clear hw48)
        (try clear hle)
        (try clear hhd)
        (try clear hnh)
        go_wp2_with (first | (go_at_call 55; refine (spileref03_isDigits.calls kw s _ _ hkw).mono ?_; rintro e w9 ⟨rfl, hd9⟩; have hb9 := hd9.below))
        ((try simp only [Exit.inBlock, Exit.then]); refine bodyPost_ret (results_tmp4 rfl _ _ _) rfl ?_)
        exact ⟨by first | rfl | (rw [hb]; rfl) | (simp [hb]; done), below_step HBW.out hb9⟩
      | false =>
        have fh2 : (bt s 0 != 48) = true := bne_iff_ne.mpr (beq_eq_false_iff_ne.1 fh)
        have hnh : s.data.toList.head? ≠ some 48 := by rw [Ne, hhd]; exact beq_eq_false_iff_ne.1 fh
        by_cases c20 : sm ≤ 20
        · have f20 : decide (sm ≤ 20) = true := decide_eq_true c20
          have f21 : decide ((s.size : Int) ≤ 20) = true := hsm ▸ f20
          have hle : s.data.toList.length + (⟨#[]⟩ : ByteArray).data.toList.length ≤ 20 := by omega
          clear hsm
          have hb : wok false s.data.toList (⟨#[]⟩ : ByteArray).data.toList = true := wok_good hbw hnh hw48 hle
          clear sW sP
          (try clear hw48)
          (try clear hle)
          (try clear hhd)
          (try clear hnh)
          go_wp2_with (first | (go_at_call 55; refine (spileref03_isDigits.calls kw s _ _ hkw).mono ?_; rintro e w9 ⟨rfl, hd9⟩; have hb9 := hd9.below))
          ((try simp only [Exit.inBlock, Exit.then]); refine bodyPost_ret (results_tmp4 rfl _ _ _) rfl ?_)
          exact ⟨by first | rfl | (rw [hb]; rfl) | (simp [hb]; done), below_step HBW.out hb9⟩
        · have f20 : decide (sm ≤ 20) = false := decide_eq_false c20
          have f21 : decide ((s.size : Int) ≤ 20) = false := hsm ▸ f20
          have hle : ¬ s.data.toList.length + (⟨#[]⟩ : ByteArray).data.toList.length ≤ 20 := by omega
          clear hsm
          have hb : wok false s.data.toList (⟨#[]⟩ : ByteArray).data.toList = false := wok_long hle
          clear sW sP
          (try clear hw48)
          (try clear hle)
          (try clear hhd)
          (try clear hnh)
          go_wp2_with (first | (go_at_call 55; refine (spileref03_isDigits.calls kw s _ _ hkw).mono ?_; rintro e w9 ⟨rfl, hd9⟩; have hb9 := hd9.below))
          ((try simp only [Exit.inBlock, Exit.then]); refine bodyPost_ret (results_tmp4 rfl _ _ _) rfl ?_)
          exact ⟨by first | rfl | (rw [hb]; rfl) | (simp [hb]; done), below_step HBW.out hb9⟩
set_option maxHeartbeats 8000000 in
set_option maxRecDepth 100000 in
theorem split_p_b1 (s : ByteArray) (w : World) (h0 : 0 < s.size) (hb : bt s 0 ≠ 45) (hW0 : s.size ≤ 1000) (kx : Nat) (ip ip1 : Int) (hix : spileref03_index.f kx s 46 = some ip) (W P : ByteArray) (i0 : 0 ≤ ip) (i1 : ip + 1 ≤ (s.size : Int)) (hip : ip1 = ip + 1) (hWx : s.extract 0 ip.toNat = W) (hPx : s.extract ip1.toNat s.size = P) (hW1 : W.size ≤ 1000) (hP1 : P.size ≤ 1000) (kp : Nat) (hkp : spileref03_isDigits.f kp P = some false) :
    Calls Tryz.prog 25 #[.string s] w fun e w' => e = .returned (.tuple #[.bool false, .string ⟨#[]⟩, .string ⟨#[]⟩, .bool false]) ∧ Below w.heap.size w w' := by
  have f1 : s.toList.isEmpty = false := ne_empty h0
  have f2 : (0 < s.size) = True := eq_true h0
  have f3 : ∀ h : 0 < s.size, ((s[0]'h).toNat : Int) = bt s 0 := bt_at s 0
  have f4 : (bt s 0 == 45) = false := beq_eq_false_iff_ne.2 hb
  have f5 : (0 < (s.size : Int)) = True := eq_true (by omega)
  have j1 : decide (ip ≥ 0) = true := decide_eq_true i0
  have j2 : wrap64 (ip + 1) = ip1 := by rw [hip]; exact w64 (by omega) (by omega)
  have j3 : (0 ≤ ip ∧ ip ≤ (s.size : Int)) = True := eq_true ⟨i0, by omega⟩
  have j4 : (0 ≤ ip1 ∧ ip1 ≤ (s.size : Int)) = True := eq_true ⟨by omega, by omega⟩
  have j5 : (0 ≤ ip1) = True := eq_true (by omega)
  have j6 : (ip1 ≤ (s.size : Int)) = True := eq_true (by omega)
  clear hip i0 i1
  have HW1 := Aside0.mk hW1
  have HP1 := Aside0.mk hP1
  clear hW0 hW1 hP1
  go_enter Tryz.func25, Tryz.ntmps25
  go_upto_region 7 with (first | (go_at_call 24; refine (spileref03_index.calls kx s 46 ip _ hix).mono ?_; rintro e w1 ⟨rfl, hd1⟩; have HBW := Aside0.mk hd1.below))
  refine start_ (n := 9) (S := fun w' => Below w.heap.size w w') (ds := []) #[false, false, false, false, false, false, false, false, false] (by kernel_rfl) rfl rfl (below_drew1 HBW.out) (fun hHeld => ?_)
  generalize World.drew _ = Wd at hHeld ⊢
  refine pure_ (i := 0) (N := some 26) (v := ?_) (a' := ?_) #[true, false, false, false, false, false, false, false, false] rfl rfl (by kernel_rfl) (fun _ _ _ h => h) (Or.inl ⟨by rfl, ?_⟩) ?_ ?_
  rotate_left
  · intro w'
    go_simp
    with_reducible rfl
  rotate_left
  · simp only [Act.put, List.setIfInBounds_toArray, List.set_cons_zero, List.set_cons_succ, i64_w, i32_w]
    rfl
  refine pure_ (i := 1) (N := some 27) (v := ?_) (a' := ?_) #[true, true, false, false, false, false, false, false, false] rfl rfl (by kernel_rfl) (fun _ _ _ h => h) (Or.inl ⟨by rfl, ?_⟩) ?_ ?_
  rotate_left
  · intro w'
    go_simp
    with_reducible rfl
  rotate_left
  · simp only [Act.put, List.setIfInBounds_toArray, List.set_cons_zero, List.set_cons_succ, i64_w, i32_w]
    rfl
  refine pure_ (i := 2) (N := some 28) (v := ?_) (a' := ?_) #[true, true, true, false, false, false, false, false, false] rfl rfl (by kernel_rfl) (fun _ _ _ h => h) (Or.inl ⟨by rfl, ?_⟩) ?_ ?_
  rotate_left
  · intro w'
    go_simp
    with_reducible rfl
  rotate_left
  · simp only [Act.put, List.setIfInBounds_toArray, List.set_cons_zero, List.set_cons_succ, i64_w, i32_w]
    rfl
  refine pure_ (i := 3) (N := some 29) (v := ?_) (a' := ?_) #[true, true, true, true, false, false, false, false, false] rfl rfl (by kernel_rfl) (fun _ _ _ h => h) (Or.inl ⟨by rfl, ?_⟩) ?_ ?_
  rotate_left
  · intro w'
    go_simp
    with_reducible rfl
  rotate_left
  · simp only [Act.put, List.setIfInBounds_toArray, List.set_cons_zero, List.set_cons_succ, i64_w, i32_w]
    rfl
  refine pure_ (i := 4) (N := some 30) (v := ?_) (a' := ?_) #[true, true, true, true, true, false, false, false, false] rfl rfl (by kernel_rfl) (fun _ _ _ h => h) (Or.inl ⟨by rfl, ?_⟩) ?_ ?_
  rotate_left
  · intro w'
    go_simp
    with_reducible rfl
  rotate_left
  · simp only [Act.put, List.setIfInBounds_toArray, List.set_cons_zero, List.set_cons_succ, i64_w, i32_w]
    rfl
  refine pure_ (i := 5) (N := some 31) (v := ?_) (a' := ?_) #[true, true, true, true, true, true, false, false, false] rfl rfl (by kernel_rfl) (fun _ _ _ h => h) (Or.inl ⟨by rfl, ?_⟩) ?_ ?_
  rotate_left
  · intro w'
    go_simp
    with_reducible rfl
  rotate_left
  · simp only [Act.put, List.setIfInBounds_toArray, List.set_cons_zero, List.set_cons_succ, i64_w, i32_w]
    rfl
  refine pure_ (i := 6) (N := some 32) (v := ?_) (a' := ?_) #[true, true, true, true, true, true, true, false, false] rfl rfl (by kernel_rfl) (fun _ _ _ h => h) (Or.inl ⟨by rfl, ?_⟩) ?_ ?_
  rotate_left
  · intro w'
    go_simp
    with_reducible rfl
  rotate_left
  · simp only [Act.put, List.setIfInBounds_toArray, List.set_cons_zero, List.set_cons_succ, i64_w, i32_w]
    rfl
  refine pure_ (i := 7) (N := some 7) (v := ?_) (a' := ?_) #[true, true, true, true, true, true, true, true, false] rfl rfl (by kernel_rfl) (fun _ _ _ h => h) (Or.inl ⟨by rfl, ?_⟩) ?_ ?_
  rotate_left
  · intro w'
    go_simp
    with_reducible rfl
  rotate_left
  · simp only [Act.put, List.setIfInBounds_toArray, List.set_cons_zero, List.set_cons_succ, i64_w, i32_w]
    rfl
  refine pure_ (i := 8) (N := some 8) (v := ?_) (a' := ?_) #[true, true, true, true, true, true, true, true, true] rfl rfl (by kernel_rfl) (fun _ _ _ h => h) (Or.inl ⟨by rfl, ?_⟩) ?_ ?_
  rotate_left
  · intro w'
    go_simp
    with_reducible rfl
  rotate_left
  · simp only [Act.put, List.setIfInBounds_toArray, List.set_cons_zero, List.set_cons_succ, i64_w, i32_w]
    rfl
  refine done_ (by kernel_rfl) ?_
  have HBW2 := Aside0.mk hHeld
  clear hHeld HBW
  go_wp2_with (first | (go_at_call 55; refine (spileref03_isDigits.calls kp P false _ hkp).mono ?_; rintro e w8 ⟨rfl, hd8⟩; have HB8 := Aside0.mk (below_step HBW2.out hd8.below)))
  ((try simp only [Exit.inBlock, Exit.then]); refine bodyPost_ret (results_tmp4 rfl _ _ _) rfl ?_)
  exact ⟨rfl, HB8.out⟩
set_option maxHeartbeats 8000000 in
set_option maxRecDepth 100000 in
theorem split_p_b2 (s : ByteArray) (w : World) (h0 : 0 < s.size) (hb : bt s 0 ≠ 45) (hW0 : s.size ≤ 1000) (kx : Nat) (ip ip1 : Int) (hix : spileref03_index.f kx s 46 = some ip) (W P : ByteArray) (i0 : 0 ≤ ip) (i1 : ip + 1 ≤ (s.size : Int)) (hip : ip1 = ip + 1) (hWx : s.extract 0 ip.toNat = W) (hPx : s.extract ip1.toNat s.size = P) (hW1 : W.size ≤ 1000) (hP1 : P.size ≤ 1000) (kp : Nat) (hkp : spileref03_isDigits.f kp P = some true) (pl : Int) (hpl : wrap64 ((P.size : Int) - 1) = pl) (l0 : 0 ≤ pl) (l1 : pl < (P.size : Int)) (hl : bt P pl = 48) :
    Calls Tryz.prog 25 #[.string s] w fun e w' => e = .returned (.tuple #[.bool false, .string ⟨#[]⟩, .string ⟨#[]⟩, .bool false]) ∧ Below w.heap.size w w' := by
  have m1 : decide (0 ≤ pl) = true := decide_eq_true l0
  have m2 : (0 ≤ pl) = True := eq_true l0
  have m3 : (pl < (P.size : Int)) = True := eq_true l1
  have m4 : ∀ h : pl.toNat < P.size, ((P[pl.toNat]'h).toNat : Int) = bt P pl := bt_at P pl
  have m5 : (0 ≤ pl ∧ pl < (P.size : Int)) = True := eq_true ⟨l0, l1⟩
  have m6 : (pl.toNat < P.size) = True := eq_true (by omega)
  have m7 : (bt P pl == 48) = true := beq_iff_eq.2 hl
  have f1 : s.toList.isEmpty = false := ne_empty h0
  have f2 : (0 < s.size) = True := eq_true h0
  have f3 : ∀ h : 0 < s.size, ((s[0]'h).toNat : Int) = bt s 0 := bt_at s 0
  have f4 : (bt s 0 == 45) = false := beq_eq_false_iff_ne.2 hb
  have f5 : (0 < (s.size : Int)) = True := eq_true (by omega)
  have j1 : decide (ip ≥ 0) = true := decide_eq_true i0
  have j2 : wrap64 (ip + 1) = ip1 := by rw [hip]; exact w64 (by omega) (by omega)
  have j3 : (0 ≤ ip ∧ ip ≤ (s.size : Int)) = True := eq_true ⟨i0, by omega⟩
  have j4 : (0 ≤ ip1 ∧ ip1 ≤ (s.size : Int)) = True := eq_true ⟨by omega, by omega⟩
  have j5 : (0 ≤ ip1) = True := eq_true (by omega)
  have j6 : (ip1 ≤ (s.size : Int)) = True := eq_true (by omega)
  clear hip i0 i1
  have HW1 := Aside0.mk hW1
  have HP1 := Aside0.mk hP1
  clear hW0 hW1 hP1
  go_enter Tryz.func25, Tryz.ntmps25
  go_upto_region 7 with (first | (go_at_call 24; refine (spileref03_index.calls kx s 46 ip _ hix).mono ?_; rintro e w1 ⟨rfl, hd1⟩; have HBW := Aside0.mk hd1.below))
  refine start_ (n := 9) (S := fun w' => Below w.heap.size w w') (ds := []) #[false, false, false, false, false, false, false, false, false] (by kernel_rfl) rfl rfl (below_drew1 HBW.out) (fun hHeld => ?_)
  generalize World.drew _ = Wd at hHeld ⊢
  refine pure_ (i := 0) (N := some 26) (v := ?_) (a' := ?_) #[true, false, false, false, false, false, false, false, false] rfl rfl (by kernel_rfl) (fun _ _ _ h => h) (Or.inl ⟨by rfl, ?_⟩) ?_ ?_
  rotate_left
  · intro w'
    go_simp
    with_reducible rfl
  rotate_left
  · simp only [Act.put, List.setIfInBounds_toArray, List.set_cons_zero, List.set_cons_succ, i64_w, i32_w]
    rfl
  refine pure_ (i := 1) (N := some 27) (v := ?_) (a' := ?_) #[true, true, false, false, false, false, false, false, false] rfl rfl (by kernel_rfl) (fun _ _ _ h => h) (Or.inl ⟨by rfl, ?_⟩) ?_ ?_
  rotate_left
  · intro w'
    go_simp
    with_reducible rfl
  rotate_left
  · simp only [Act.put, List.setIfInBounds_toArray, List.set_cons_zero, List.set_cons_succ, i64_w, i32_w]
    rfl
  refine pure_ (i := 2) (N := some 28) (v := ?_) (a' := ?_) #[true, true, true, false, false, false, false, false, false] rfl rfl (by kernel_rfl) (fun _ _ _ h => h) (Or.inl ⟨by rfl, ?_⟩) ?_ ?_
  rotate_left
  · intro w'
    go_simp
    with_reducible rfl
  rotate_left
  · simp only [Act.put, List.setIfInBounds_toArray, List.set_cons_zero, List.set_cons_succ, i64_w, i32_w]
    rfl
  refine pure_ (i := 3) (N := some 29) (v := ?_) (a' := ?_) #[true, true, true, true, false, false, false, false, false] rfl rfl (by kernel_rfl) (fun _ _ _ h => h) (Or.inl ⟨by rfl, ?_⟩) ?_ ?_
  rotate_left
  · intro w'
    go_simp
    with_reducible rfl
  rotate_left
  · simp only [Act.put, List.setIfInBounds_toArray, List.set_cons_zero, List.set_cons_succ, i64_w, i32_w]
    rfl
  refine pure_ (i := 4) (N := some 30) (v := ?_) (a' := ?_) #[true, true, true, true, true, false, false, false, false] rfl rfl (by kernel_rfl) (fun _ _ _ h => h) (Or.inl ⟨by rfl, ?_⟩) ?_ ?_
  rotate_left
  · intro w'
    go_simp
    with_reducible rfl
  rotate_left
  · simp only [Act.put, List.setIfInBounds_toArray, List.set_cons_zero, List.set_cons_succ, i64_w, i32_w]
    rfl
  refine pure_ (i := 5) (N := some 31) (v := ?_) (a' := ?_) #[true, true, true, true, true, true, false, false, false] rfl rfl (by kernel_rfl) (fun _ _ _ h => h) (Or.inl ⟨by rfl, ?_⟩) ?_ ?_
  rotate_left
  · intro w'
    go_simp
    with_reducible rfl
  rotate_left
  · simp only [Act.put, List.setIfInBounds_toArray, List.set_cons_zero, List.set_cons_succ, i64_w, i32_w]
    rfl
  refine pure_ (i := 6) (N := some 32) (v := ?_) (a' := ?_) #[true, true, true, true, true, true, true, false, false] rfl rfl (by kernel_rfl) (fun _ _ _ h => h) (Or.inl ⟨by rfl, ?_⟩) ?_ ?_
  rotate_left
  · intro w'
    go_simp
    with_reducible rfl
  rotate_left
  · simp only [Act.put, List.setIfInBounds_toArray, List.set_cons_zero, List.set_cons_succ, i64_w, i32_w]
    rfl
  refine pure_ (i := 7) (N := some 7) (v := ?_) (a' := ?_) #[true, true, true, true, true, true, true, true, false] rfl rfl (by kernel_rfl) (fun _ _ _ h => h) (Or.inl ⟨by rfl, ?_⟩) ?_ ?_
  rotate_left
  · intro w'
    go_simp
    with_reducible rfl
  rotate_left
  · simp only [Act.put, List.setIfInBounds_toArray, List.set_cons_zero, List.set_cons_succ, i64_w, i32_w]
    rfl
  refine pure_ (i := 8) (N := some 8) (v := ?_) (a' := ?_) #[true, true, true, true, true, true, true, true, true] rfl rfl (by kernel_rfl) (fun _ _ _ h => h) (Or.inl ⟨by rfl, ?_⟩) ?_ ?_
  rotate_left
  · intro w'
    go_simp
    with_reducible rfl
  rotate_left
  · simp only [Act.put, List.setIfInBounds_toArray, List.set_cons_zero, List.set_cons_succ, i64_w, i32_w]
    rfl
  refine done_ (by kernel_rfl) ?_
  have HBW2 := Aside0.mk hHeld
  clear hHeld HBW
  go_wp2_with (first | (go_at_call 55; refine (spileref03_isDigits.calls kp P true _ hkp).mono ?_; rintro e w8 ⟨rfl, hd8⟩; have HB8 := Aside0.mk (below_step HBW2.out hd8.below)))
  ((try simp only [Exit.inBlock, Exit.then]); refine bodyPost_ret (results_tmp4 rfl _ _ _) rfl ?_)
  exact ⟨rfl, HB8.out⟩
set_option maxHeartbeats 8000000 in
set_option maxRecDepth 100000 in
theorem split_p_ok (s : ByteArray) (w : World) (h0 : 0 < s.size) (hb : bt s 0 ≠ 45) (hW0 : s.size ≤ 1000) (kx : Nat) (ip ip1 : Int) (hix : spileref03_index.f kx s 46 = some ip) (W P : ByteArray) (i0 : 0 ≤ ip) (i1 : ip + 1 ≤ (s.size : Int)) (hip : ip1 = ip + 1) (hWx : s.extract 0 ip.toNat = W) (hPx : s.extract ip1.toNat s.size = P) (hW1 : W.size ≤ 1000) (hP1 : P.size ≤ 1000) (kp : Nat) (hkp : spileref03_isDigits.f kp P = some true) (pl : Int) (hpl : wrap64 ((P.size : Int) - 1) = pl) (l0 : 0 ≤ pl) (l1 : pl < (P.size : Int)) (hl : bt P pl ≠ 48) :
    Calls Tryz.prog 25 #[.string s] w fun e w' => e = .returned (.tuple #[.bool false, .string W, .string P, .bool (wok false W.data.toList P.data.toList)]) ∧ Below w.heap.size w w' := by
  have m1 : decide (0 ≤ pl) = true := decide_eq_true l0
  have m2 : (0 ≤ pl) = True := eq_true l0
  have m3 : (pl < (P.size : Int)) = True := eq_true l1
  have m4 : ∀ h : pl.toNat < P.size, ((P[pl.toNat]'h).toNat : Int) = bt P pl := bt_at P pl
  have m5 : (0 ≤ pl ∧ pl < (P.size : Int)) = True := eq_true ⟨l0, l1⟩
  have m6 : (pl.toNat < P.size) = True := eq_true (by omega)
  have m7 : (bt P pl == 48) = false := beq_eq_false_iff_ne.2 hl
  have f1 : s.toList.isEmpty = false := ne_empty h0
  have f2 : (0 < s.size) = True := eq_true h0
  have f3 : ∀ h : 0 < s.size, ((s[0]'h).toNat : Int) = bt s 0 := bt_at s 0
  have f4 : (bt s 0 == 45) = false := beq_eq_false_iff_ne.2 hb
  have f5 : (0 < (s.size : Int)) = True := eq_true (by omega)
  have j1 : decide (ip ≥ 0) = true := decide_eq_true i0
  have j2 : wrap64 (ip + 1) = ip1 := by rw [hip]; exact w64 (by omega) (by omega)
  have j3 : (0 ≤ ip ∧ ip ≤ (s.size : Int)) = True := eq_true ⟨i0, by omega⟩
  have j4 : (0 ≤ ip1 ∧ ip1 ≤ (s.size : Int)) = True := eq_true ⟨by omega, by omega⟩
  have j5 : (0 ≤ ip1) = True := eq_true (by omega)
  have j6 : (ip1 ≤ (s.size : Int)) = True := eq_true (by omega)
  clear hip i0 i1
  have HW1 := Aside0.mk hW1
  have HP1 := Aside0.mk hP1
  clear hW0 hW1 hP1
  go_enter Tryz.func25, Tryz.ntmps25
  go_upto_region 7 with (first | (go_at_call 24; refine (spileref03_index.calls kx s 46 ip _ hix).mono ?_; rintro e w1 ⟨rfl, hd1⟩; have HBW := Aside0.mk hd1.below))
  refine start_ (n := 9) (S := fun w' => Below w.heap.size w w') (ds := []) #[false, false, false, false, false, false, false, false, false] (by kernel_rfl) rfl rfl (below_drew1 HBW.out) (fun hHeld => ?_)
  generalize World.drew _ = Wd at hHeld ⊢
  refine pure_ (i := 0) (N := some 26) (v := ?_) (a' := ?_) #[true, false, false, false, false, false, false, false, false] rfl rfl (by kernel_rfl) (fun _ _ _ h => h) (Or.inl ⟨by rfl, ?_⟩) ?_ ?_
  rotate_left
  · intro w'
    go_simp
    with_reducible rfl
  rotate_left
  · simp only [Act.put, List.setIfInBounds_toArray, List.set_cons_zero, List.set_cons_succ, i64_w, i32_w]
    rfl
  refine pure_ (i := 1) (N := some 27) (v := ?_) (a' := ?_) #[true, true, false, false, false, false, false, false, false] rfl rfl (by kernel_rfl) (fun _ _ _ h => h) (Or.inl ⟨by rfl, ?_⟩) ?_ ?_
  rotate_left
  · intro w'
    go_simp
    with_reducible rfl
  rotate_left
  · simp only [Act.put, List.setIfInBounds_toArray, List.set_cons_zero, List.set_cons_succ, i64_w, i32_w]
    rfl
  refine pure_ (i := 2) (N := some 28) (v := ?_) (a' := ?_) #[true, true, true, false, false, false, false, false, false] rfl rfl (by kernel_rfl) (fun _ _ _ h => h) (Or.inl ⟨by rfl, ?_⟩) ?_ ?_
  rotate_left
  · intro w'
    go_simp
    with_reducible rfl
  rotate_left
  · simp only [Act.put, List.setIfInBounds_toArray, List.set_cons_zero, List.set_cons_succ, i64_w, i32_w]
    rfl
  refine pure_ (i := 3) (N := some 29) (v := ?_) (a' := ?_) #[true, true, true, true, false, false, false, false, false] rfl rfl (by kernel_rfl) (fun _ _ _ h => h) (Or.inl ⟨by rfl, ?_⟩) ?_ ?_
  rotate_left
  · intro w'
    go_simp
    with_reducible rfl
  rotate_left
  · simp only [Act.put, List.setIfInBounds_toArray, List.set_cons_zero, List.set_cons_succ, i64_w, i32_w]
    rfl
  refine pure_ (i := 4) (N := some 30) (v := ?_) (a' := ?_) #[true, true, true, true, true, false, false, false, false] rfl rfl (by kernel_rfl) (fun _ _ _ h => h) (Or.inl ⟨by rfl, ?_⟩) ?_ ?_
  rotate_left
  · intro w'
    go_simp
    with_reducible rfl
  rotate_left
  · simp only [Act.put, List.setIfInBounds_toArray, List.set_cons_zero, List.set_cons_succ, i64_w, i32_w]
    rfl
  refine pure_ (i := 5) (N := some 31) (v := ?_) (a' := ?_) #[true, true, true, true, true, true, false, false, false] rfl rfl (by kernel_rfl) (fun _ _ _ h => h) (Or.inl ⟨by rfl, ?_⟩) ?_ ?_
  rotate_left
  · intro w'
    go_simp
    with_reducible rfl
  rotate_left
  · simp only [Act.put, List.setIfInBounds_toArray, List.set_cons_zero, List.set_cons_succ, i64_w, i32_w]
    rfl
  refine pure_ (i := 6) (N := some 32) (v := ?_) (a' := ?_) #[true, true, true, true, true, true, true, false, false] rfl rfl (by kernel_rfl) (fun _ _ _ h => h) (Or.inl ⟨by rfl, ?_⟩) ?_ ?_
  rotate_left
  · intro w'
    go_simp
    with_reducible rfl
  rotate_left
  · simp only [Act.put, List.setIfInBounds_toArray, List.set_cons_zero, List.set_cons_succ, i64_w, i32_w]
    rfl
  refine pure_ (i := 7) (N := some 7) (v := ?_) (a' := ?_) #[true, true, true, true, true, true, true, true, false] rfl rfl (by kernel_rfl) (fun _ _ _ h => h) (Or.inl ⟨by rfl, ?_⟩) ?_ ?_
  rotate_left
  · intro w'
    go_simp
    with_reducible rfl
  rotate_left
  · simp only [Act.put, List.setIfInBounds_toArray, List.set_cons_zero, List.set_cons_succ, i64_w, i32_w]
    rfl
  refine pure_ (i := 8) (N := some 8) (v := ?_) (a' := ?_) #[true, true, true, true, true, true, true, true, true] rfl rfl (by kernel_rfl) (fun _ _ _ h => h) (Or.inl ⟨by rfl, ?_⟩) ?_ ?_
  rotate_left
  · intro w'
    go_simp
    with_reducible rfl
  rotate_left
  · simp only [Act.put, List.setIfInBounds_toArray, List.set_cons_zero, List.set_cons_succ, i64_w, i32_w]
    rfl
  refine done_ (by kernel_rfl) ?_
  have HBW2 := Aside0.mk hHeld
  clear hHeld HBW
  go_upto_region 10 with (first | (go_at_call 55; refine (spileref03_isDigits.calls kp P true _ hkp).mono ?_; rintro e w8 ⟨rfl, hd8⟩; have HB8 := Aside0.mk (below_step HBW2.out hd8.below)))
  (try clear m1)
  (try clear m2)
  (try clear m3)
  (try clear m4)
  (try clear m5)
  (try clear m6)
  (try clear m7)
  (try clear j1)
  (try clear j2)
  (try clear j3)
  (try clear j4)
  (try clear j5)
  (try clear j6)
  (try clear hWx)
  (try clear hPx)
  (try clear hl)
  (try clear hpl)
  (try clear l0)
  (try clear l1)
  (try clear hkp)
  (try clear hix)
  (try clear f1)
  (try clear f2)
  (try clear f3)
  (try clear f4)
  (try clear f5)
  (try clear f6)
  (try clear hb)
  (try clear hx)
  (try clear h0)
  (try clear hd1)
  (try clear hd8)
  (try clear hu)
  have hW1 := HW1.out
  have hP1 := HP1.out
  have sW := size_list W
  have sP := size_list P
  obtain ⟨bw, hbw⟩ : ∃ b, (W.data.toList.all isDig && !W.data.toList.isEmpty) = b := ⟨_, rfl⟩
  obtain ⟨kw, hkw⟩ := dig_get hW1 hbw
  cases bw with
  | false =>
    have hb : wok false W.data.toList P.data.toList = false := wok_no hbw
    clear hW1 hP1
    clear sW sP
    (try clear hw48)
    (try clear hle)
    (try clear hhd)
    (try clear hnh)
    go_wp2_with (first | (go_at_call 55; refine (spileref03_isDigits.calls kw W _ _ hkw).mono ?_; rintro e w9 ⟨rfl, hd9⟩; have hb9 := hd9.below))
    ((try simp only [Exit.inBlock, Exit.then]); refine bodyPost_ret (results_tmp4 rfl _ _ _) rfl ?_)
    exact ⟨by first | rfl | (rw [hb]; rfl) | (simp [hb]; done), below_step HB8.out hb9⟩
  | true =>
    have hWne : 0 < W.size := by
      rw [sW]
      cases e : W.data.toList with
      | nil => rw [e] at hbw; cases hbw
      | cons => simp
    obtain ⟨sm, hsm⟩ : ∃ sm : Int, sm = (W.size : Int) + (P.size : Int) := ⟨_, rfl⟩
    have hs1 : wrap64 ((W.size : Int) + (P.size : Int)) = sm := by rw [hsm]; exact w64 (by omega) (by omega)
    cases fz : (W.data.toList == [48]) with
    | true =>
      have fz1 := beq48 fz
      have hw48 : W.data.toList = [48] := beq_iff_eq.1 fz
      by_cases c20 : sm ≤ 20
      · have f20 : decide (sm ≤ 20) = true := decide_eq_true c20
        have f21 : decide ((W.size : Int) + (P.size : Int) ≤ 20) = true := hsm ▸ f20
        have hle : W.data.toList.length + P.data.toList.length ≤ 20 := by omega
        clear hsm
        have hb : wok false W.data.toList P.data.toList = true := (wok_zero hw48 hle).1
        clear hW1 hP1
        clear sW sP
        (try clear hw48)
        (try clear hle)
        (try clear hhd)
        (try clear hnh)
        go_wp2_with (first | (go_at_call 55; refine (spileref03_isDigits.calls kw W _ _ hkw).mono ?_; rintro e w9 ⟨rfl, hd9⟩; have hb9 := hd9.below))
        ((try simp only [Exit.inBlock, Exit.then]); refine bodyPost_ret (results_tmp4 rfl _ _ _) rfl ?_)
        exact ⟨by first | rfl | (rw [hb]; rfl) | (simp [hb]; done), below_step HB8.out hb9⟩
      · have f20 : decide (sm ≤ 20) = false := decide_eq_false c20
        have f21 : decide ((W.size : Int) + (P.size : Int) ≤ 20) = false := hsm ▸ f20
        have hle : ¬ W.data.toList.length + P.data.toList.length ≤ 20 := by omega
        clear hsm
        have hb : wok false W.data.toList P.data.toList = false := wok_long hle
        clear hW1 hP1
        clear sW sP
        (try clear hw48)
        (try clear hle)
        (try clear hhd)
        (try clear hnh)
        go_wp2_with (first | (go_at_call 55; refine (spileref03_isDigits.calls kw W _ _ hkw).mono ?_; rintro e w9 ⟨rfl, hd9⟩; have hb9 := hd9.below))
        ((try simp only [Exit.inBlock, Exit.then]); refine bodyPost_ret (results_tmp4 rfl _ _ _) rfl ?_)
        exact ⟨by first | rfl | (rw [hb]; rfl) | (simp [hb]; done), below_step HB8.out hb9⟩
    | false =>
      have fz1 := beq48 fz
      have hw48 : W.data.toList ≠ [48] := beq_eq_false_iff_ne.1 fz
      have hhd := head_at hWne
      have g2 : (0 < W.size) = True := eq_true hWne
      have g3 : ∀ h : 0 < W.size, ((W[0]'h).toNat : Int) = bt W 0 := bt_at W 0
      have g5 : (0 < (W.size : Int)) = True := eq_true (by omega)
      rw [g3 hWne] at hhd
      cases fh : (bt W 0 == 48) with
      | true =>
        have fh2 : (bt W 0 != 48) = false := bne_eq_false_iff_eq.mpr (beq_iff_eq.1 fh)
        clear hsm
        have hb : wok false W.data.toList P.data.toList = false := wok_lead (hhd.symm ▸ beq_iff_eq.1 fh) hw48
        clear hW1 hP1
        clear sW sP
        (try clear hw48)
        (try clear hle)
        (try clear hhd)
        (try clear hnh)
        go_wp2_with (first | (go_at_call 55; refine (spileref03_isDigits.calls kw W _ _ hkw).mono ?_; rintro e w9 ⟨rfl, hd9⟩; have hb9 := hd9.below))
        ((try simp only [Exit.inBlock, Exit.then]); refine bodyPost_ret (results_tmp4 rfl _ _ _) rfl ?_)
        exact ⟨by first | rfl | (rw [hb]; rfl) | (simp [hb]; done), below_step HB8.out hb9⟩
      | false =>
        have fh2 : (bt W 0 != 48) = true := bne_iff_ne.mpr (beq_eq_false_iff_ne.1 fh)
        have hnh : W.data.toList.head? ≠ some 48 := by rw [Ne, hhd]; exact beq_eq_false_iff_ne.1 fh
        by_cases c20 : sm ≤ 20
        · have f20 : decide (sm ≤ 20) = true := decide_eq_true c20
          have f21 : decide ((W.size : Int) + (P.size : Int) ≤ 20) = true := hsm ▸ f20
          have hle : W.data.toList.length + P.data.toList.length ≤ 20 := by omega
          clear hsm
          have hb : wok false W.data.toList P.data.toList = true := wok_good hbw hnh hw48 hle
          clear hW1 hP1
          clear sW sP
          (try clear hw48)
          (try clear hle)
          (try clear hhd)
          (try clear hnh)
          go_wp2_with (first | (go_at_call 55; refine (spileref03_isDigits.calls kw W _ _ hkw).mono ?_; rintro e w9 ⟨rfl, hd9⟩; have hb9 := hd9.below))
          ((try simp only [Exit.inBlock, Exit.then]); refine bodyPost_ret (results_tmp4 rfl _ _ _) rfl ?_)
          exact ⟨by first | rfl | (rw [hb]; rfl) | (simp [hb]; done), below_step HB8.out hb9⟩
        · have f20 : decide (sm ≤ 20) = false := decide_eq_false c20
          have f21 : decide ((W.size : Int) + (P.size : Int) ≤ 20) = false := hsm ▸ f20
          have hle : ¬ W.data.toList.length + P.data.toList.length ≤ 20 := by omega
          clear hsm
          have hb : wok false W.data.toList P.data.toList = false := wok_long hle
          clear hW1 hP1
          clear sW sP
          (try clear hw48)
          (try clear hle)
          (try clear hhd)
          (try clear hnh)
          go_wp2_with (first | (go_at_call 55; refine (spileref03_isDigits.calls kw W _ _ hkw).mono ?_; rintro e w9 ⟨rfl, hd9⟩; have hb9 := hd9.below))
          ((try simp only [Exit.inBlock, Exit.then]); refine bodyPost_ret (results_tmp4 rfl _ _ _) rfl ?_)
          exact ⟨by first | rfl | (rw [hb]; rfl) | (simp [hb]; done), below_step HB8.out hb9⟩
end Go.Proofs.YtmjglehdckgcnaaGreatDoor.Pr
namespace Go.Proofs.YtmjglehdckgcnaaGreatDoor.Pr
open Go Go.RowKit Go.Lib Go.Proofs.YtmjglehdckgcnaaGreatDoorW.PrintWords Go.Proofs.YtmjglehdckgcnaaGreatDoorW.PrintLast Go.Proofs.YtmjglehdckgcnaaGreatDoorW.PrintMore Go.Proofs.YtmjglehdckgcnaaGreatDoor.X Go.Proofs.YtmjglehdckgcnaaGreatDoor.TX Go.Proofs.YtmjglehdckgcnaaGreatDoor.PL
theorem last_bt {P : ByteArray} (h : 0 < P.size) (hs : P.size ≤ 1000) : ∃ pl : Int, wrap64 ((P.size : Int) - 1) = pl ∧ 0 ≤ pl ∧ pl < (P.size : Int) ∧ (bt P pl = 48 ↔ P.data.toList.getLast? = some 48) := by
  have sP := size_list P
  have hn : P.size - 1 < P.data.toList.length := by omega
  refine ⟨((P.size - 1 : Nat) : Int), by rw [w64 (by omega) (by omega)]; omega, by omega, by omega, ?_⟩
  rw [bt_list hn, List.getLast?_eq_getElem?, ← sP, List.getElem?_eq_getElem hn]
  constructor
  · intro q
    exact congrArg some (UInt8.toNat_inj.1 (by have : (48 : UInt8).toNat = 48 := rfl; omega))
  · intro q
    rw [Option.some.inj q]
    rfl
theorem split_m (s : ByteArray) (w : World) (hs : s.size ≤ 1000) (h0 : 0 < s.size) (hb : bt s 0 = 45) (x0 : ByteArray) (hx : s.extract 1 s.size = x0) (hm : minusCut s.data.toList = (true, x0.data.toList)) (hsx : x0.size ≤ 1000) (r1 : Bool) (r2 r3 : ByteArray) (r4 : Bool) (h : splitF s = (r1, r2, r3, r4)) :
    Calls Tryz.prog 25 #[.string s] w fun e w' => e = .returned (.tuple #[.bool r1, .string r2, .string r3, .bool r4]) ∧ Below w.heap.size w w' := by
  unfold splitF wholeB placesB at h
  rw [hm] at h
  have h : (if (cut1 46 x0.data.toList).2.2 = true then
    (if badPlaces (cut1 46 x0.data.toList).2.1 = true then (false, (⟨#[]⟩ : ByteArray), (⟨#[]⟩ : ByteArray), false) else (true, ⟨(cut1 46 x0.data.toList).1.toArray⟩, ⟨(cut1 46 x0.data.toList).2.1.toArray⟩, wok true (cut1 46 x0.data.toList).1 (cut1 46 x0.data.toList).2.1))
    else (true, ⟨x0.data.toList.toArray⟩, ⟨#[]⟩, wok true x0.data.toList [])) = (r1, r2, r3, r4) := h
  obtain ⟨kx, hix⟩ := (pos_ev hsx 46 46 rfl).rounds
  by_cases c : (cut1 46 x0.data.toList).2.2 = true
  · rw [if_pos c] at h
    obtain ⟨p1, p2, p3, p4⟩ := pos_yes c
    have hl := size_list x0
    obtain ⟨W, hW⟩ : ∃ W : ByteArray, W = ⟨(cut1 46 x0.data.toList).1.toArray⟩ := ⟨_, rfl⟩
    obtain ⟨P, hP⟩ : ∃ P : ByteArray, P = ⟨(cut1 46 x0.data.toList).2.1.toArray⟩ := ⟨_, rfl⟩
    have lW : (cut1 46 x0.data.toList).1 = W.data.toList := by rw [hW]
    have lP : (cut1 46 x0.data.toList).2.1 = P.data.toList := by rw [hP]
    have sW : W.size = (cut1 46 x0.data.toList).1.length := by rw [size_list, lW]
    have sP : P.size = (cut1 46 x0.data.toList).2.1.length := by rw [size_list, lP]
    rw [← hW] at p2
    rw [← hP] at p3
    rw [← hW, ← hP, lW, lP] at h
    rw [p1] at hix
    have hip : (((cut1 46 x0.data.toList).1.length + 1 : Nat) : Int) = ((cut1 46 x0.data.toList).1.length : Int) + 1 := by omega
    have hW1 : W.size ≤ 1000 := by omega
    have hP1 : P.size ≤ 1000 := by omega
    cases hd : (P.data.toList.all isDig && !P.data.toList.isEmpty) with
    | false =>
      obtain ⟨kp, hkp⟩ := dig_get hP1 hd
      have hbad : badPlaces P.data.toList = true := by unfold badPlaces; rw [hd]; rfl
      rw [if_pos hbad] at h
      simp only [Prod.mk.injEq] at h
      obtain ⟨rfl, rfl, rfl, rfl⟩ := h
      exact split_m_b1 s w h0 hb x0 hx hsx kx _ _ hix W P (by omega) (by omega) hip (by rw [Int.toNat_natCast]; exact p2) (by rw [Int.toNat_natCast]; exact p3) hW1 hP1 kp hkp
    | true =>
      obtain ⟨kp, hkp⟩ := dig_get hP1 hd
      have hne : 0 < P.size := by
        rw [size_list]
        cases e : P.data.toList with
        | nil => rw [e] at hd; cases hd
        | cons => simp
      obtain ⟨pl, l1, l2, l3, l4⟩ := last_bt hne hP1
      by_cases c2 : bt P pl = 48
      · have hbad : badPlaces P.data.toList = true := by unfold badPlaces; rw [hd, decide_eq_true (l4.1 c2)]; rfl
        rw [if_pos hbad] at h
        simp only [Prod.mk.injEq] at h
        obtain ⟨rfl, rfl, rfl, rfl⟩ := h
        exact split_m_b2 s w h0 hb x0 hx hsx kx _ _ hix W P (by omega) (by omega) hip (by rw [Int.toNat_natCast]; exact p2) (by rw [Int.toNat_natCast]; exact p3) hW1 hP1 kp hkp pl l1 l2 l3 c2
      · have hbad : ¬ badPlaces P.data.toList = true := by unfold badPlaces; rw [hd, decide_eq_false (fun q => c2 (l4.2 q))]; decide
        rw [if_neg hbad] at h
        simp only [Prod.mk.injEq] at h
        obtain ⟨rfl, rfl, rfl, rfl⟩ := h
        exact split_m_ok s w h0 hb x0 hx hsx kx _ _ hix W P (by omega) (by omega) hip (by rw [Int.toNat_natCast]; exact p2) (by rw [Int.toNat_natCast]; exact p3) hW1 hP1 kp hkp pl l1 l2 l3 c2
  · rw [if_neg c] at h
    have hp : posI 46 x0.data.toList = -1 := if_neg c
    rw [hp] at hix
    have ex : (⟨x0.data.toList.toArray⟩ : ByteArray) = x0 := bytes_ext rfl
    rw [ex] at h
    simp only [Prod.mk.injEq] at h
    obtain ⟨rfl, rfl, rfl, rfl⟩ := h
    exact split_m_no s w h0 hb x0 hx hsx kx hix
theorem split_p (s : ByteArray) (w : World) (hs : s.size ≤ 1000) (h0 : 0 < s.size) (hb : bt s 0 ≠ 45) (hm : minusCut s.data.toList = (false, s.data.toList)) (hsx : s.size ≤ 1000) (r1 : Bool) (r2 r3 : ByteArray) (r4 : Bool) (h : splitF s = (r1, r2, r3, r4)) :
    Calls Tryz.prog 25 #[.string s] w fun e w' => e = .returned (.tuple #[.bool r1, .string r2, .string r3, .bool r4]) ∧ Below w.heap.size w w' := by
  unfold splitF wholeB placesB at h
  rw [hm] at h
  have h : (if (cut1 46 s.data.toList).2.2 = true then
    (if badPlaces (cut1 46 s.data.toList).2.1 = true then (false, (⟨#[]⟩ : ByteArray), (⟨#[]⟩ : ByteArray), false) else (false, ⟨(cut1 46 s.data.toList).1.toArray⟩, ⟨(cut1 46 s.data.toList).2.1.toArray⟩, wok false (cut1 46 s.data.toList).1 (cut1 46 s.data.toList).2.1))
    else (false, ⟨s.data.toList.toArray⟩, ⟨#[]⟩, wok false s.data.toList [])) = (r1, r2, r3, r4) := h
  obtain ⟨kx, hix⟩ := (pos_ev hsx 46 46 rfl).rounds
  by_cases c : (cut1 46 s.data.toList).2.2 = true
  · rw [if_pos c] at h
    obtain ⟨p1, p2, p3, p4⟩ := pos_yes c
    have hl := size_list s
    obtain ⟨W, hW⟩ : ∃ W : ByteArray, W = ⟨(cut1 46 s.data.toList).1.toArray⟩ := ⟨_, rfl⟩
    obtain ⟨P, hP⟩ : ∃ P : ByteArray, P = ⟨(cut1 46 s.data.toList).2.1.toArray⟩ := ⟨_, rfl⟩
    have lW : (cut1 46 s.data.toList).1 = W.data.toList := by rw [hW]
    have lP : (cut1 46 s.data.toList).2.1 = P.data.toList := by rw [hP]
    have sW : W.size = (cut1 46 s.data.toList).1.length := by rw [size_list, lW]
    have sP : P.size = (cut1 46 s.data.toList).2.1.length := by rw [size_list, lP]
    rw [← hW] at p2
    rw [← hP] at p3
    rw [← hW, ← hP, lW, lP] at h
    rw [p1] at hix
    have hip : (((cut1 46 s.data.toList).1.length + 1 : Nat) : Int) = ((cut1 46 s.data.toList).1.length : Int) + 1 := by omega
    have hW1 : W.size ≤ 1000 := by omega
    have hP1 : P.size ≤ 1000 := by omega
    cases hd : (P.data.toList.all isDig && !P.data.toList.isEmpty) with
    | false =>
      obtain ⟨kp, hkp⟩ := dig_get hP1 hd
      have hbad : badPlaces P.data.toList = true := by unfold badPlaces; rw [hd]; rfl
      rw [if_pos hbad] at h
      simp only [Prod.mk.injEq] at h
      obtain ⟨rfl, rfl, rfl, rfl⟩ := h
      exact split_p_b1 s w h0 hb hsx kx _ _ hix W P (by omega) (by omega) hip (by rw [Int.toNat_natCast]; exact p2) (by rw [Int.toNat_natCast]; exact p3) hW1 hP1 kp hkp
    | true =>
      obtain ⟨kp, hkp⟩ := dig_get hP1 hd
      have hne : 0 < P.size := by
        rw [size_list]
        cases e : P.data.toList with
        | nil => rw [e] at hd; cases hd
        | cons => simp
      obtain ⟨pl, l1, l2, l3, l4⟩ := last_bt hne hP1
      by_cases c2 : bt P pl = 48
      · have hbad : badPlaces P.data.toList = true := by unfold badPlaces; rw [hd, decide_eq_true (l4.1 c2)]; rfl
        rw [if_pos hbad] at h
        simp only [Prod.mk.injEq] at h
        obtain ⟨rfl, rfl, rfl, rfl⟩ := h
        exact split_p_b2 s w h0 hb hsx kx _ _ hix W P (by omega) (by omega) hip (by rw [Int.toNat_natCast]; exact p2) (by rw [Int.toNat_natCast]; exact p3) hW1 hP1 kp hkp pl l1 l2 l3 c2
      · have hbad : ¬ badPlaces P.data.toList = true := by unfold badPlaces; rw [hd, decide_eq_false (fun q => c2 (l4.2 q))]; decide
        rw [if_neg hbad] at h
        simp only [Prod.mk.injEq] at h
        obtain ⟨rfl, rfl, rfl, rfl⟩ := h
        exact split_p_ok s w h0 hb hsx kx _ _ hix W P (by omega) (by omega) hip (by rw [Int.toNat_natCast]; exact p2) (by rw [Int.toNat_natCast]; exact p3) hW1 hP1 kp hkp pl l1 l2 l3 c2
  · rw [if_neg c] at h
    have hp : posI 46 s.data.toList = -1 := if_neg c
    rw [hp] at hix
    have ex : (⟨s.data.toList.toArray⟩ : ByteArray) = s := bytes_ext rfl
    rw [ex] at h
    simp only [Prod.mk.injEq] at h
    obtain ⟨rfl, rfl, rfl, rfl⟩ := h
    exact split_p_no s w h0 hb hsx kx hix
theorem spileref03_split.calls (a0 : ByteArray) (r1 : Bool) (r2 r3 : ByteArray) (r4 : Bool) (w : World) (h : spileref03_split.f a0 = some (r1, r2, r3, r4)) :
    Calls Tryz.prog 25 #[.string a0] w fun e w' => e = .returned (.tuple #[.bool r1, .string r2, .string r3, .bool r4]) ∧ Below w.heap.size w w' := by
  unfold spileref03_split.f at h
  split at h
  · rename_i hs
    have h := Option.some.inj h
    have sl := size_list a0
    cases hl : a0.data.toList with
    | nil =>
      have es : a0 = ⟨#[]⟩ := bytes_ext hl
      obtain ⟨kx, hix⟩ := (pos_ev (s := (⟨#[]⟩ : ByteArray)) (by decide) 46 46 rfl).rounds
      obtain ⟨kw, hkw⟩ := dig_get (s := (⟨#[]⟩ : ByteArray)) (by decide) (b := false) rfl
      have e0 : splitF a0 = (false, ⟨#[]⟩, ⟨#[]⟩, false) := by rw [es]; rfl
      rw [e0] at h
      simp only [Prod.mk.injEq] at h
      obtain ⟨rfl, rfl, rfl, rfl⟩ := h
      exact split_e_no a0 w es kx hix kw hkw
    | cons b r =>
      have h0 : 0 < a0.size := by rw [sl, hl]; simp
      have hb0 : bt a0 0 = ((b.toNat : Nat) : Int) := by
        have hn : 0 < a0.data.toList.length := by rw [hl]; simp
        have := bt_list hn
        rw [show ((0 : Nat) : Int) = 0 from rfl] at this
        rw [this]
        simp only [hl, List.getElem_cons_zero]
      by_cases c : b = 45
      · have hx : (a0.extract 1 a0.size).data.toList = r := by
          rw [ext_list, List.take_of_length_le (by rw [← size_list]; exact Nat.le_refl _), hl]
          rfl
        refine split_m a0 w hs h0 (by rw [hb0, c]; rfl) _ rfl ?_ ?_ r1 r2 r3 r4 h
        · rw [hx]
          unfold minusCut
          rw [hl, if_pos (by rw [c]; rfl)]
          rfl
        · rw [size_list, hx]
          rw [sl, hl, List.length_cons] at hs
          omega
      · refine split_p a0 w hs h0 (fun q => c ?_) ?_ hs r1 r2 r3 r4 h
        · rw [hb0] at q
          exact UInt8.toNat_inj.1 (by have : (45 : UInt8).toNat = 45 := rfl; omega)
        · unfold minusCut
          rw [if_neg (fun q => c (by rw [hl] at q; exact Option.some.inj q))]
  · cases h
end Go.Proofs.YtmjglehdckgcnaaGreatDoor.Pr
namespace Go.Proofs.YtmjglehdckgcnaaGreatDoor.Pr
open Go.RowKit Go.Proofs.YtmjglehdckgcnaaGreatDoorW.PrintWords Go.Proofs.YtmjglehdckgcnaaGreatDoorW.PrintLast Go.Proofs.YtmjglehdckgcnaaGreatDoorW.PrintMore Go.Proofs.YtmjglehdckgcnaaGreatDoor.X
attribute [local go_sem] max2_int min2_int max_two min_two max_three min_three max_four min_four   -- for this text's walks alone
set_option linter.unusedVariables false
set_option linter.unusedSimpArgs false
attribute [local go_sem high] eqA23
mutual
def spileref03_scaled.l0 : Nat → ByteArray → ByteArray → Int → Int → Option (Int)
 | 0, _, _, _, _ => none
 | k + 1, x0, x1, x2, x3 => if x2 > 1 then (if x1.toList = ([] : List UInt8) then (if x0.size + 1 ≤ 9223372036854775807 then (spileref03_scaled.l0 k (x0 ++ (⟨#[48]⟩ : ByteArray)) x1 (wrap64 (Int.tdiv x2 10)) x3) else (none)) else (if 0 ≤ 1 then (if 1 ≤ (x1.size : Int) then (if x0.size + (x1.extract 0 1).size ≤ 9223372036854775807 then (spileref03_scaled.l0 k (x0 ++ (x1.extract 0 1)) (x1.extract 1 x1.size) (wrap64 (Int.tdiv x2 10)) x3) else (none)) else (none)) else (none))) else (if x1.toList = ([] : List UInt8) then (spileref03_scaled.l1 k x0 x3 0 0) else (some (-1)))
def spileref03_scaled.l1 : Nat → ByteArray → Int → Int → Int → Option (Int)
 | 0, _, _, _, _ => none
 | k + 1, x0, x3, x9, x10 => if x10 < (x0.size : Int) then (if 0 ≤ x10 then (if (wrap64 ((wrap64 (10 * x9)) + (((bt x0 x10) - 48) % 256))) > x3 then (some (-1)) else (spileref03_scaled.l1 k x0 x3 (wrap64 ((wrap64 (10 * x9)) + (((bt x0 x10) - 48) % 256))) (wrap64 (x10 + 1)))) else (none)) else (some x9)
end
def spileref03_scaled.f (k : Nat) (a0 : ByteArray) (a1 : ByteArray) (a2 : Int) (a3 : Int) : Option (Int) := spileref03_scaled.l0 k a0 a1 a2 a3
set_option maxHeartbeats 8000000 in
set_option maxRecDepth 100000 in
theorem spileref03_scaled.calls (k : Nat) (a0 : ByteArray) (a1 : ByteArray) (a2 : Int) (a3 : Int) (r : Int) (w : World) (h : spileref03_scaled.f k a0 a1 a2 a3 = some r) :
  Calls Tryz.prog 26 #[.string a0, .string a1, .int .i64 a2, .int .i64 a3] w fun e w' => e = .returned (.int .i64 r) ∧ Drawn0 w w' := by
 have H : (spileref03_scaled.l0 k a0 a1 a2 a3) = some r := h
 clear h
 have H' := Aside0.mk H
 clear H
 go_enter Tryz.func26, Tryz.ntmps26
 go_wp2
 repeat (go_quiet (fail); try go_wp2)
 go_loopg [0, 1, 2] k (fun kq v0 v1 v2 w' => ∃ (x0_1 : ByteArray) (x1_1 : ByteArray) (x2_1 : Int), v0 = .string x0_1 ∧ v1 = .string x1_1 ∧ v2 = .int .i64 x2_1 ∧ Aside0 (spileref03_scaled.l0 kq x0_1 x1_1 x2_1 a3 = some r) ∧ Aside0 (kq ≤ k) ∧ Drawn0 w w')
 case atStart => exact ⟨(a0), (a1), (a2), (by first | rfl | (simp; done) | (simp [*]; done)), (by first | rfl | (simp; done) | (simp [*]; done)), (by first | rfl | (simp; done) | (simp [*]; done)), H', ⟨Nat.le_refl _⟩, by repeat (first | exact Drawn0.refl _ | apply Drawn0.step)⟩
 case round =>
  clear H'
  try clear c2
  try clear p2
  obtain ⟨x0_1, x1_1, x2_1, rfl, rfl, rfl, HA, HK1, ⟨m1, rfl⟩⟩ := hrel
  cases gk with
  | zero => exact absurd HA.out (by simp [spileref03_scaled.l0])
  | succ k1 =>
   have H := HA.out
   clear HA
   simp only [spileref03_scaled.l0] at H
   by_cases c5 : x2_1 > 1
   ·
    rw [if_pos c5] at H
    have c5b0 : decide (1 < x2_1) = true := decide_eq_true c5
    clear c5
    by_cases c6 : x1_1.toList = ([] : List UInt8)
    ·
     rw [if_pos c6] at H
     have c6b0 : (x1_1.toList == ([] : List UInt8)) = true := beq_iff_eq.mpr c6
     have c6b1 : (x1_1.toList != ([] : List UInt8)) = false := bne_eq_false_iff_eq.mpr c6
     clear c6
     by_cases c7 : x0_1.size + 1 ≤ 9223372036854775807
     ·
      rw [if_pos c7] at H
      have c7b0 := eq_true c7
      have c7b1 : decide (x0_1.size + 1 ≤ 9223372036854775807) = true := decide_eq_true c7
      try have c7b2 : (9223372036854775807 < x0_1.size + 1) = False := eq_false (Nat.not_lt.2 c7)
      have H' := Aside0.mk H
      clear H
      go_wp2
      repeat (go_quiet (fail); try go_wp2)
      go_roundg k1
      case measure => have := HK1.out; omega
      case rel => exact ⟨(x0_1 ++ (⟨#[48]⟩ : ByteArray)), (x1_1), (wrap64 (Int.tdiv x2_1 10)), (by first | rfl | (simp; done) | (simp [*]; done)), (by first | rfl | (simp; done) | (simp [*]; done)), (by first | rfl | (simp; done) | (simp [*]; done)), H', ⟨by have := HK1.out; omega⟩, by repeat (first | exact Drawn0.refl _ | apply Drawn0.step)⟩
     ·
      rw [if_neg c7] at H
      exact absurd H (by simp)
    ·
     rw [if_neg c6] at H
     have c6b0 : (x1_1.toList == ([] : List UInt8)) = false := beq_eq_false_iff_ne.mpr c6
     have c6b1 : (x1_1.toList != ([] : List UInt8)) = true := bne_iff_ne.mpr c6
     by_cases c8 : 0 ≤ 1
     ·
      rw [if_pos c8] at H
      have c8b0 := eq_true c8
      have c8b1 : decide (0 ≤ 1) = true := decide_eq_true c8
      clear c8
      by_cases c9 : 1 ≤ (x1_1.size : Int)
      ·
       rw [if_pos c9] at H
       have c9b0 := eq_true c9
       have c9b1 : decide (1 ≤ (x1_1.size : Int)) = true := decide_eq_true c9
       clear c9
       by_cases c10 : x0_1.size + (x1_1.extract 0 1).size ≤ 9223372036854775807
       ·
        rw [if_pos c10] at H
        have c10b0 := eq_true c10
        have c10b1 : decide (x0_1.size + (x1_1.extract 0 1).size ≤ 9223372036854775807) = true := decide_eq_true c10
        try have c10b2 : (9223372036854775807 < x0_1.size + (x1_1.extract 0 1).size) = False := eq_false (Nat.not_lt.2 c10)
        have c11b0 := eq_true (of_decide_eq_true (by first | (with_reducible assumption) | assumption) : 1 ≤ (x1_1.size : Int))
        have H' := Aside0.mk H
        clear H
        go_wp2
        repeat (go_quiet (fail); try go_wp2)
        go_roundg k1
        case measure => have := HK1.out; omega
        case rel => exact ⟨(x0_1 ++ (x1_1.extract 0 1)), (x1_1.extract 1 x1_1.size), (wrap64 (Int.tdiv x2_1 10)), (by first | rfl | (simp; done) | (simp [*]; done)), (by first | rfl | (simp; done) | (simp [*]; done)), (by first | rfl | (simp; done) | (simp [*]; done)), H', ⟨by have := HK1.out; omega⟩, by repeat (first | exact Drawn0.refl _ | apply Drawn0.step)⟩
       ·
        rw [if_neg c10] at H
        exact absurd H (by simp)
      ·
       rw [if_neg c9] at H
       exact absurd H (by simp)
     ·
      rw [if_neg c8] at H
      exact absurd H (by simp)
   ·
    rw [if_neg c5] at H
    have c5b0 : decide (1 < x2_1) = false := decide_eq_false c5
    clear c5
    by_cases c12 : x1_1.toList = ([] : List UInt8)
    ·
     rw [if_pos c12] at H
     have c12b0 : (x1_1.toList == ([] : List UInt8)) = true := beq_iff_eq.mpr c12
     have c12b1 : (x1_1.toList != ([] : List UInt8)) = false := bne_eq_false_iff_eq.mpr c12
     clear c12
     have H' := Aside0.mk H
     clear H
     go_wp2
     repeat (go_quiet (fail); try go_wp2)
     go_loopg [9, 10] k1 (fun kq v9 v10 w' => ∃ (x9_2 : Int) (x10_2 : Int), v9 = .int .i64 x9_2 ∧ v10 = .int .i64 x10_2 ∧ Aside0 (spileref03_scaled.l1 kq x0_1 a3 x9_2 x10_2 = some r) ∧ Aside0 (kq ≤ k1) ∧ Drawn0 w w')
     case atStart => exact ⟨(0), (0), (by first | rfl | (simp; done) | (simp [*]; done)), (by first | rfl | (simp; done) | (simp [*]; done)), H', ⟨Nat.le_refl _⟩, by repeat (first | exact Drawn0.refl _ | apply Drawn0.step)⟩
     case round =>
      clear H'
      try clear c1
      try clear c2
      try clear p2
      try clear c5
      try clear c5b0
      try clear c6
      try clear c6b0
      try clear c6b1
      try clear p6
      try clear c7
      try clear c7b0
      try clear c7b1
      try clear c7b2
      try clear c8
      try clear c8b0
      try clear c8b1
      try clear c9
      try clear c9b0
      try clear c9b1
      try clear c10
      try clear c10b0
      try clear c10b1
      try clear c10b2
      try clear c11
      try clear c11b0
      try clear c12
      try clear c12b0
      try clear c12b1
      try clear p2
      obtain ⟨x9_2, x10_2, rfl, rfl, HA, HK2, ⟨m2, rfl⟩⟩ := hrel
      cases gk with
      | zero => exact absurd HA.out (by simp [spileref03_scaled.l1])
      | succ k2 =>
       have H := HA.out
       clear HA
       simp only [spileref03_scaled.l1] at H
       by_cases c13 : x10_2 < (x0_1.size : Int)
       ·
        rw [if_pos c13] at H
        have c13b0 : decide (x10_2 < (x0_1.size : Int)) = true := decide_eq_true c13
        clear c13
        by_cases c14 : 0 ≤ x10_2
        ·
         rw [if_pos c14] at H
         have c14b0 : decide (0 ≤ x10_2) = true := decide_eq_true c14
         clear c14
         by_cases c16 : (wrap64 ((wrap64 (10 * x9_2)) + (((bt x0_1 x10_2) - 48) % 256))) > a3
         ·
          rw [if_pos c16] at H
          have c16b0 : decide (a3 < (wrap64 ((wrap64 (10 * x9_2)) + (((bt x0_1 x10_2) - 48) % 256)))) = true := decide_eq_true c16
          clear c16
          obtain rfl := Option.some.inj H
          have p15 : 0 ≤ (x10_2 : Int) := of_decide_eq_true (by first | (with_reducible assumption) | assumption)
          have q15 : x10_2 < (x0_1.size : Int) := of_decide_eq_true (by first | (with_reducible assumption) | assumption)
          have hx15 := bt_at x0_1 x10_2
          replace p15 := eq_true p15
          replace q15 := eq_true q15
          go_wp2
          repeat (go_quiet (fail); try go_wp2)
          go_ret
          exact ⟨by first | rfl | (simp; done) | (simp [*]; done), by repeat (first | exact Drawn0.refl _ | apply Drawn0.step)⟩
         ·
          rw [if_neg c16] at H
          have c16b0 : decide (a3 < (wrap64 ((wrap64 (10 * x9_2)) + (((bt x0_1 x10_2) - 48) % 256)))) = false := decide_eq_false c16
          clear c16
          have H' := Aside0.mk H
          clear H
          have p15 : 0 ≤ (x10_2 : Int) := of_decide_eq_true (by first | (with_reducible assumption) | assumption)
          have q15 : x10_2 < (x0_1.size : Int) := of_decide_eq_true (by first | (with_reducible assumption) | assumption)
          have hx15 := bt_at x0_1 x10_2
          replace p15 := eq_true p15
          replace q15 := eq_true q15
          go_wp2
          repeat (go_quiet (fail); try go_wp2)
          go_roundg k2
          case measure => have := HK1.out; have := HK2.out; omega
          case rel => exact ⟨(wrap64 ((wrap64 (10 * x9_2)) + (((bt x0_1 x10_2) - 48) % 256))), (wrap64 (x10_2 + 1)), (by first | rfl | (simp; done) | (simp [*]; done)), (by first | rfl | (simp; done) | (simp [*]; done)), H', ⟨by have := HK1.out; have := HK2.out; omega⟩, by repeat (first | exact Drawn0.refl _ | apply Drawn0.step)⟩
        ·
         rw [if_neg c14] at H
         exact absurd H (by simp)
       ·
        rw [if_neg c13] at H
        have c13b0 : decide (x10_2 < (x0_1.size : Int)) = false := decide_eq_false c13
        clear c13
        obtain rfl := Option.some.inj H
        go_wp2
        repeat (go_quiet (fail); try go_wp2)
        go_ret
        exact ⟨by first | rfl | (simp; done) | (simp [*]; done), by repeat (first | exact Drawn0.refl _ | apply Drawn0.step)⟩
    ·
     rw [if_neg c12] at H
     have c12b0 : (x1_1.toList == ([] : List UInt8)) = false := beq_eq_false_iff_ne.mpr c12
     have c12b1 : (x1_1.toList != ([] : List UInt8)) = true := bne_iff_ne.mpr c12
     obtain rfl := Option.some.inj H
     go_wp2
     repeat (go_quiet (fail); try go_wp2)
     go_ret
     exact ⟨by first | rfl | (simp; done) | (simp [*]; done), by repeat (first | exact Drawn0.refl _ | apply Drawn0.step)⟩
def spileref03_Parse.j0 : Nat → Int → Int → Bool → ByteArray → ByteArray → Bool → Option (Int × Int × Int)
 | 0, _, _, _, _, _, _ => none
 | k + 1, x5, x6, x8, x9, x10, x46 => if x46 = true then (some (0, 0, 3)) else ((spileref03_scaled.f k x9 x10 x6 1125899906842624).bind fun t197 => (if t197 < 0 then (some (0, 0, 2)) else (if x8 = true then ((spileref03_in.f x5 (wrap64 (-t197))).bind fun t199 => (if t199 = true then (some (x5, wrap64 (-t197), 0)) else (some (0, 0, 2)))) else ((spileref03_in.f x5 t197).bind fun t201 => (if t201 = true then (some (x5, t197, 0)) else (some (0, 0, 2)))))))
def spileref03_Parse.f (k : Nat) (a0 : ByteArray) : Option (Int × Int × Int) := if (a0.size : Int) > 64 then (some (0, 0, 8)) else ((spileref03_index.f k a0 32).bind fun t189 => (if t189 < 0 then (some (0, 0, 3)) else (if 0 ≤ (wrap64 (t189 + 1)) then (if (wrap64 (t189 + 1)) ≤ (a0.size : Int) then ((spileref03_Unit.f k (a0.extract ((wrap64 (t189 + 1)) : Int).toNat a0.size)).bind fun bt190 => (if 0 ≤ t189 then (if t189 ≤ (a0.size : Int) then ((spileref03_split.f (a0.extract 0 (t189 : Int).toNat)).bind fun bt193 => (if bt190.2.2 = 0 then (spileref03_Parse.j0 k bt190.1 bt190.2.1 bt193.1 bt193.2.1 bt193.2.2.1 (!bt193.2.2.2)) else (spileref03_Parse.j0 k bt190.1 bt190.2.1 bt193.1 bt193.2.1 bt193.2.2.1 true))) else (none)) else (none))) else (none)) else (none))))
set_option maxHeartbeats 8000000 in
set_option maxRecDepth 100000 in
theorem spileref03_Parse.calls (k : Nat) (a0 : ByteArray) (r1 : Int) (r2 : Int) (r3 : Int) (w : World) (h : spileref03_Parse.f k a0 = some (r1, r2, r3)) :
  Calls Tryz.prog 8 #[.string a0] w fun e w' => e = .returned (.tuple #[.agg #[.int .i64 r1, .int .i64 r2], .int .i64 r3]) ∧ Below w.heap.size w w' := by
 have hu23 := Tryz.underlying23
 have HB := Aside0.mk (Below.refl w.heap.size w)
 have H : (if (a0.size : Int) > 64 then (some (0, 0, 8)) else ((spileref03_index.f k a0 32).bind fun t189 => (if t189 < 0 then (some (0, 0, 3)) else (if 0 ≤ (wrap64 (t189 + 1)) then (if (wrap64 (t189 + 1)) ≤ (a0.size : Int) then ((spileref03_Unit.f k (a0.extract ((wrap64 (t189 + 1)) : Int).toNat a0.size)).bind fun bt190 => (if 0 ≤ t189 then (if t189 ≤ (a0.size : Int) then ((spileref03_split.f (a0.extract 0 (t189 : Int).toNat)).bind fun bt193 => (if bt190.2.2 = 0 then (spileref03_Parse.j0 k bt190.1 bt190.2.1 bt193.1 bt193.2.1 bt193.2.2.1 (!bt193.2.2.2)) else (spileref03_Parse.j0 k bt190.1 bt190.2.1 bt193.1 bt193.2.1 bt193.2.2.1 true))) else (none)) else (none))) else (none)) else (none))))) = some (r1, r2, r3) := h
 clear h
 by_cases c2 : (a0.size : Int) > 64
 ·
  rw [if_pos c2] at H
  have c2b0 : decide (64 < (a0.size : Int)) = true := decide_eq_true c2
  have c2b1 : decide (64 < a0.size) = true := decide_eq_true (by omega)
  clear c2
  simp only [Option.some.injEq, Prod.mk.injEq] at H
  obtain ⟨rfl, rfl, rfl⟩ := H
  go_enter Tryz.func8, Tryz.ntmps8
  go_wp2_with (first | ((with_reducible refine gate_dst (N := 2) rfl ?_); refine box_event ?hg (N := 2) ?hd (cs := #[.int .i64 0, .int .i64 0]) (t := 23) ?hr ?_; (case hd => rfl); (case hg => rfl); (case hr => first | (go_simp; done) | (go_simp; rfl)); intro gb188 hg w3 hbox hb; have n0_ := Aside0.mk (below_step (by repeat (first | (with_reducible first | exact HB.out | apply below_alloc | apply pw_below_drewN | apply below_drew1) | exact HB.out)) hb); have n1_ := Aside0.mk (hbox); have n2_ := Aside0.mk ((by rw [hg]; exact (below_size (by repeat (first | (with_reducible first | exact HB.out | apply below_alloc | apply pw_below_drewN | apply below_drew1) | exact HB.out))) : w.heap.size ≤ gb188)); have n3_ := Aside0.mk ((by rw [hg]; exact (below_size (by repeat (first | (with_reducible first | exact HB.out | apply below_alloc | apply pw_below_drewN | apply below_drew1) | exact HB.out))) : w.heap.size ≤ gb188)); clear HB; have HB := n0_; have BK188 := n1_; have GW188 := n2_; have GE188 := n3_; clear n0_ n1_ n2_ n3_; clear hb hbox hg; have hcz4_0 : w3.cell? ⟨gb188, 0, none⟩ = some (.int .i64 0) := (blk_cell BK188.out 0).trans rfl; have hcz4_1 : w3.cell? ⟨gb188, 1, none⟩ = some (.int .i64 0) := (blk_cell BK188.out 1).trans rfl; have hfz4_0 := blk_frozen BK188.out 0; have hfz4_1 := blk_frozen BK188.out 1))
  refine bodyPost_ret (results_ct rfl _ _ gb188 23 #[.int .i64 0, .int .i64 0] (0, 0) _ rfl (by (with_reducible repeat (first | refine blk_drewN ?_ _ | refine blk_drew ?_ | refine blk_alloc ?_ _)); refine blk_put (cs := #[.int .i64 0, .int .i64 0]) ?_ 1 _ rfl; (with_reducible repeat (first | refine blk_drewN ?_ _ | refine blk_drew ?_ | refine blk_alloc ?_ _)); refine blk_put (cs := #[.int .i64 0, .int .i64 0]) ?_ 0 _ rfl; (with_reducible repeat (first | refine blk_drewN ?_ _ | refine blk_drew ?_ | refine blk_alloc ?_ _)); exact BK188.out) Tryz.underlying23 rfl (by kernel_rfl)) rfl ?_
  exact ⟨by first | rfl | (simp [errW_none, errW_some] <;> rfl) | (simp [*, errW_none, errW_some] <;> rfl), by repeat (first | (with_reducible first | exact HB.out | apply below_alloc | apply pw_below_drewN | apply below_drew1 | refine below_set ?_ GE188.out) | exact HB.out)⟩
 ·
  rw [if_neg c2] at H
  have c2b0 : decide (64 < (a0.size : Int)) = false := decide_eq_false c2
  have c2b1 : decide (64 < a0.size) = false := decide_eq_false (by omega)
  clear c2
  replace H := Option.bind_eq_some_iff.mp H
  obtain ⟨t189, A50, H⟩ := H
  replace H : (if t189 < 0 then (some (0, 0, 3)) else (if 0 ≤ (wrap64 (t189 + 1)) then (if (wrap64 (t189 + 1)) ≤ (a0.size : Int) then ((spileref03_Unit.f k (a0.extract ((wrap64 (t189 + 1)) : Int).toNat a0.size)).bind fun bt190 => (if 0 ≤ t189 then (if t189 ≤ (a0.size : Int) then ((spileref03_split.f (a0.extract 0 (t189 : Int).toNat)).bind fun bt193 => (if bt190.2.2 = 0 then (spileref03_Parse.j0 k bt190.1 bt190.2.1 bt193.1 bt193.2.1 bt193.2.2.1 (!bt193.2.2.2)) else (spileref03_Parse.j0 k bt190.1 bt190.2.1 bt193.1 bt193.2.1 bt193.2.2.1 true))) else (none)) else (none))) else (none)) else (none))) = some (r1, r2, r3) := H
  have A5 := Aside0.mk A50
  clear A50
  by_cases c6 : t189 < 0
  ·
   rw [if_pos c6] at H
   have c6b0 : decide (t189 < 0) = true := decide_eq_true c6
   clear c6
   simp only [Option.some.injEq, Prod.mk.injEq] at H
   obtain ⟨rfl, rfl, rfl⟩ := H
   go_enter Tryz.func8, Tryz.ntmps8
   go_wp2_with (first | ((with_reducible refine gate_dst (N := 2) rfl ?_); refine box_event ?hg (N := 2) ?hd (cs := #[.int .i64 0, .int .i64 0]) (t := 23) ?hr ?_; (case hd => rfl); (case hg => rfl); (case hr => first | (go_simp; done) | (go_simp; rfl)); intro gb188 hg w7 hbox hb; have n0_ := Aside0.mk (below_step (by repeat (first | (with_reducible first | exact HB.out | apply below_alloc | apply pw_below_drewN | apply below_drew1) | exact HB.out)) hb); have n1_ := Aside0.mk (hbox); have n2_ := Aside0.mk ((by rw [hg]; exact (below_size (by repeat (first | (with_reducible first | exact HB.out | apply below_alloc | apply pw_below_drewN | apply below_drew1) | exact HB.out))) : w.heap.size ≤ gb188)); have n3_ := Aside0.mk ((by rw [hg]; exact (below_size (by repeat (first | (with_reducible first | exact HB.out | apply below_alloc | apply pw_below_drewN | apply below_drew1) | exact HB.out))) : w.heap.size ≤ gb188)); clear HB; have HB := n0_; have BK188 := n1_; have GW188 := n2_; have GE188 := n3_; clear n0_ n1_ n2_ n3_; clear hb hbox hg) | ((with_reducible refine gate_callee (f := 24) rfl ?_); refine goesL_ (some 19) rfl rfl Tryz.func24 (by kernel_rfl) rfl #[.string a0, .int .u8 32] rfl (by (try simp only [List.map_toArray, List.map_cons, List.map_nil]); first | done | rfl | (simp only [List.length_drop, List.length_take]; rfl)) ?_; (with_reducible refine (spileref03_index.calls k a0 32 t189 _ A5.out).mono ?_); rintro e w' ⟨rfl, ⟨nd, rfl⟩⟩; refine ⟨_, rfl, ?_⟩; (try (rw [drewN_self w7]; generalize hq_ : World.drewN w7 _ = w7; have n0_ : Aside0 (w7.heap[gb188]? = some (.cells #[.int .i64 0, .int .i64 0] 23 (0, 0))) := ⟨by rw [← hq_]; exact (by (with_reducible repeat (first | refine blk_drewN ?_ _ | refine blk_drew ?_ | refine blk_alloc ?_ _)); exact BK188.out)⟩; have n1_ : Aside0 (Below w.heap.size w w7) := ⟨by rw [← hq_]; exact (by repeat (first | (with_reducible first | exact HB.out | apply below_alloc | apply pw_below_drewN | apply below_drew1 | refine below_set ?_ GE188.out) | exact HB.out))⟩; clear BK188 HB hq_; have BK188 := n0_; have HB := n1_; clear n0_ n1_)); have hcz8_0 : w7.cell? ⟨gb188, 0, none⟩ = some (.int .i64 0) := (blk_cell BK188.out 0).trans rfl; have hcz8_1 : w7.cell? ⟨gb188, 1, none⟩ = some (.int .i64 0) := (blk_cell BK188.out 1).trans rfl; have hfz8_0 := blk_frozen BK188.out 0; have hfz8_1 := blk_frozen BK188.out 1))
   refine bodyPost_ret (results_ct rfl _ _ gb188 23 #[.int .i64 0, .int .i64 0] (0, 0) _ rfl (by (with_reducible repeat (first | refine blk_drewN ?_ _ | refine blk_drew ?_ | refine blk_alloc ?_ _)); refine blk_put (cs := #[.int .i64 0, .int .i64 0]) ?_ 1 _ rfl; (with_reducible repeat (first | refine blk_drewN ?_ _ | refine blk_drew ?_ | refine blk_alloc ?_ _)); refine blk_put (cs := #[.int .i64 0, .int .i64 0]) ?_ 0 _ rfl; (with_reducible repeat (first | refine blk_drewN ?_ _ | refine blk_drew ?_ | refine blk_alloc ?_ _)); exact BK188.out) Tryz.underlying23 rfl (by kernel_rfl)) rfl ?_
   exact ⟨by first | rfl | (simp [errW_none, errW_some] <;> rfl) | (simp [*, errW_none, errW_some] <;> rfl), by repeat (first | (with_reducible first | exact HB.out | apply below_alloc | apply pw_below_drewN | apply below_drew1 | refine below_set ?_ GE188.out) | exact HB.out)⟩
  ·
   rw [if_neg c6] at H
   have c6b0 : decide (t189 < 0) = false := decide_eq_false c6
   clear c6
   obtain ⟨ji9, hji9⟩ : ∃ j_ : Int, (wrap64 (t189 + 1)) = j_ := ⟨_, rfl⟩
   replace H : (if 0 ≤ (ji9) then (if (ji9) ≤ (a0.size : Int) then ((spileref03_Unit.f k (a0.extract ((ji9) : Int).toNat a0.size)).bind fun bt190 => (if 0 ≤ t189 then (if t189 ≤ (a0.size : Int) then ((spileref03_split.f (a0.extract 0 (t189 : Int).toNat)).bind fun bt193 => (if bt190.2.2 = 0 then (spileref03_Parse.j0 k bt190.1 bt190.2.1 bt193.1 bt193.2.1 bt193.2.2.1 (!bt193.2.2.2)) else (spileref03_Parse.j0 k bt190.1 bt190.2.1 bt193.1 bt193.2.1 bt193.2.2.1 true))) else (none)) else (none))) else (none)) else (none)) = some (r1, r2, r3) := by first | (rw [hji9] at H; exact H) | (simp only [hji9] at H ⊢; exact H)
   (try rw [hji9] at A5)
   have hji9w : (IntKind.i64.wrap (t189 + 1)) = ji9 := (i64_w _).trans hji9
   by_cases c10 : 0 ≤ (ji9)
   ·
    rw [if_pos c10] at H
    have c10b0 := eq_true c10
    have c10b1 : decide (0 ≤ (ji9)) = true := decide_eq_true c10
    clear c10
    by_cases c11 : (ji9) ≤ (a0.size : Int)
    ·
     rw [if_pos c11] at H
     have c11b0 := eq_true c11
     have c11b1 : decide ((ji9) ≤ (a0.size : Int)) = true := decide_eq_true c11
     clear c11
     replace H := Option.bind_eq_some_iff.mp H
     obtain ⟨⟨t190, t191, t192⟩, A120, H⟩ := H
     replace H : (if 0 ≤ t189 then (if t189 ≤ (a0.size : Int) then ((spileref03_split.f (a0.extract 0 (t189 : Int).toNat)).bind fun bt193 => (if t192 = 0 then (spileref03_Parse.j0 k t190 t191 bt193.1 bt193.2.1 bt193.2.2.1 (!bt193.2.2.2)) else (spileref03_Parse.j0 k t190 t191 bt193.1 bt193.2.1 bt193.2.2.1 true))) else (none)) else (none)) = some (r1, r2, r3) := H
     have A12 := Aside0.mk A120
     clear A120
     by_cases c13 : 0 ≤ t189
     ·
      rw [if_pos c13] at H
      have c13b0 := eq_true c13
      have c13b1 : decide (0 ≤ t189) = true := decide_eq_true c13
      clear c13
      by_cases c14 : t189 ≤ (a0.size : Int)
      ·
       rw [if_pos c14] at H
       have c14b0 := eq_true c14
       have c14b1 : decide (t189 ≤ (a0.size : Int)) = true := decide_eq_true c14
       clear c14
       replace H := Option.bind_eq_some_iff.mp H
       obtain ⟨⟨t193, t194, t195, t196⟩, A150, H⟩ := H
       replace H : (if t192 = 0 then (spileref03_Parse.j0 k t190 t191 t193 t194 t195 (!t196)) else (spileref03_Parse.j0 k t190 t191 t193 t194 t195 true)) = some (r1, r2, r3) := H
       have A15 := Aside0.mk A150
       clear A150
       have HC16 := Aside0.mk H
       clear H
       go_enter Tryz.func8, Tryz.ntmps8
       go_upto_region 8 with (first | ((with_reducible refine gate_dst (N := 2) rfl ?_); refine box_event ?hg (N := 2) ?hd (cs := #[.int .i64 0, .int .i64 0]) (t := 23) ?hr ?_; (case hd => rfl); (case hg => rfl); (case hr => first | (go_simp; done) | (go_simp; rfl)); intro gb188 hg w17 hbox hb; have n0_ := Aside0.mk (below_step (by repeat (first | (with_reducible first | exact HB.out | apply below_alloc | apply pw_below_drewN | apply below_drew1) | exact HB.out)) hb); have n1_ := Aside0.mk (hbox); have n2_ := Aside0.mk ((by rw [hg]; exact (below_size (by repeat (first | (with_reducible first | exact HB.out | apply below_alloc | apply pw_below_drewN | apply below_drew1) | exact HB.out))) : w.heap.size ≤ gb188)); have n3_ := Aside0.mk ((by rw [hg]; exact (below_size (by repeat (first | (with_reducible first | exact HB.out | apply below_alloc | apply pw_below_drewN | apply below_drew1) | exact HB.out))) : w.heap.size ≤ gb188)); clear HB; have HB := n0_; have BK188 := n1_; have GW188 := n2_; have GE188 := n3_; clear n0_ n1_ n2_ n3_; clear hb hbox hg) | ((with_reducible refine gate_callee (f := 24) rfl ?_); refine goesL_ (some 19) rfl rfl Tryz.func24 (by kernel_rfl) rfl #[.string a0, .int .u8 32] rfl (by (try simp only [List.map_toArray, List.map_cons, List.map_nil]); first | done | rfl | (simp only [List.length_drop, List.length_take]; rfl)) ?_; (with_reducible refine (spileref03_index.calls k a0 32 t189 _ A5.out).mono ?_); rintro e w' ⟨rfl, ⟨nd, rfl⟩⟩; refine ⟨_, rfl, ?_⟩) | ((with_reducible refine gate_callee (f := 18) rfl ?_); refine goesL_ (some 28) rfl rfl Tryz.func18 (by kernel_rfl) rfl #[.string (a0.extract ((ji9) : Int).toNat a0.size)] rfl (by (try simp only [List.map_toArray, List.map_cons, List.map_nil]); first | done | (simp only [hji9]; rfl) | rfl | (simp only [List.length_drop, List.length_take]; rfl)) ?_; (with_reducible refine (spileref03_Unit.calls k (a0.extract ((ji9) : Int).toNat a0.size) t190 t191 t192 _ A12.out).mono ?_); rintro e w18 ⟨rfl, hb⟩; refine ⟨_, rfl, ?_⟩; have n0_ := Aside0.mk (blk_below (g := gb188) (o := .cells #[.int .i64 0, .int .i64 0] 23 (0, 0)) (by (with_reducible repeat (first | refine blk_drewN ?_ _ | refine blk_drew ?_ | refine blk_alloc ?_ _)); exact BK188.out) hb); have n1_ := Aside0.mk (below_step (by repeat (first | (with_reducible first | exact HB.out | apply below_alloc | apply pw_below_drewN | apply below_drew1 | refine below_set ?_ GE188.out) | exact HB.out)) hb); clear BK188; clear HB; have BK188 := n0_; have HB := n1_; clear n0_ n1_; (try clear hb); (try clear hb2); (try clear hk); (try clear hi)) | ((with_reducible refine gate_callee (f := 25) rfl ?_); refine goesL_ (some 36) rfl rfl Tryz.func25 (by kernel_rfl) rfl #[.string (a0.extract 0 (t189 : Int).toNat)] rfl (by (try simp only [List.map_toArray, List.map_cons, List.map_nil]); first | done | rfl | (simp only [List.length_drop, List.length_take]; rfl)) ?_; (with_reducible refine (spileref03_split.calls (a0.extract 0 (t189 : Int).toNat) t193 t194 t195 t196 _ A15.out).mono ?_); rintro e w19 ⟨rfl, hb⟩; refine ⟨_, rfl, ?_⟩; have n0_ := Aside0.mk (blk_below (g := gb188) (o := .cells #[.int .i64 0, .int .i64 0] 23 (0, 0)) (by (with_reducible repeat (first | refine blk_drewN ?_ _ | refine blk_drew ?_ | refine blk_alloc ?_ _)); exact BK188.out) hb); have n1_ := Aside0.mk (below_step (by repeat (first | (with_reducible first | exact HB.out | apply below_alloc | apply pw_below_drewN | apply below_drew1 | refine below_set ?_ GE188.out) | exact HB.out)) hb); clear BK188; clear HB; have BK188 := n0_; have HB := n1_; clear n0_ n1_; (try clear hb); (try clear hb2); (try clear hk); (try clear hi)))
       (try simp only [Act.put, List.setIfInBounds_toArray, List.set_cons_zero, List.set_cons_succ])
       go_cut [46] (fun v46 wc => ∃ (kq : Nat) (x46_15 : Bool), v46 = .bool x46_15 ∧ Aside0 (spileref03_Parse.j0 kq t190 t191 t193 t194 t195 x46_15 = some (r1, r2, r3)) ∧ Aside0 (kq ≤ k) ∧ Aside0 (wc.heap[gb188]? = some (.cells #[.int .i64 0, .int .i64 0] 23 (0, 0))) ∧ Aside0 (Below w.heap.size w wc))
       case first =>
        have H := HC16.out
        clear HC16
        by_cases c20 : t192 = 0
        ·
         rw [if_pos c20] at H
         have c20b0 : (t192 == 0) = true := beq_iff_eq.mpr c20
         have c20b1 : (t192 != 0) = false := bne_eq_false_iff_eq.mpr c20
         clear c20
         (first | rw [c20b0] | (simp only [i64_w, i32_w]; rw [c20b0]) | skip)
         have H' := Aside0.mk H
         clear H
         go_wp2
         go_meet
         case rel => exact ⟨_, (!t196), (by first | rfl | (simp; done) | (simp [*]; done)), H', ⟨by first | omega | exact Nat.le_refl _⟩, ⟨by (with_reducible repeat (first | refine blk_drewN ?_ _ | refine blk_drew ?_ | refine blk_alloc ?_ _)); exact BK188.out⟩, ⟨by repeat (first | (with_reducible first | exact HB.out | apply below_alloc | apply pw_below_drewN | apply below_drew1 | refine below_set ?_ GE188.out) | exact HB.out)⟩⟩
        ·
         rw [if_neg c20] at H
         have c20b0 : (t192 == 0) = false := beq_eq_false_iff_ne.mpr c20
         have c20b1 : (t192 != 0) = true := bne_iff_ne.mpr c20
         (first | rw [c20b0] | (simp only [i64_w, i32_w]; rw [c20b0]) | skip)
         have H' := Aside0.mk H
         clear H
         go_wp2
         go_meet
         case rel => exact ⟨_, (true), (by first | rfl | (simp; done) | (simp [*]; done)), H', ⟨by first | omega | exact Nat.le_refl _⟩, ⟨by (with_reducible repeat (first | refine blk_drewN ?_ _ | refine blk_drew ?_ | refine blk_alloc ?_ _)); exact BK188.out⟩, ⟨by repeat (first | (with_reducible first | exact HB.out | apply below_alloc | apply pw_below_drewN | apply below_drew1 | refine below_set ?_ GE188.out) | exact HB.out)⟩⟩
       case rest =>
        clear HC16
        try clear c1
        try clear c2
        try clear c2b0
        try clear c2b1
        try clear p2
        try clear c6
        try clear c6b0
        try clear p6
        try clear c8
        try clear c10
        try clear c10b0
        try clear c10b1
        try clear c11
        try clear c11b0
        try clear c11b1
        try clear c13
        try clear c13b0
        try clear c13b1
        try clear c14
        try clear c14b0
        try clear c14b1
        try clear c18
        try clear c20
        try clear c20b0
        try clear c20b1
        try clear hcz4_0
        try clear hcz4_1
        try clear hcz8_0
        try clear hcz8_1
        try clear hfz4_0
        try clear hfz4_1
        try clear hfz8_0
        try clear hfz8_1
        obtain ⟨kq, x46_15, rfl, HA, HJ15, BK188, HB⟩ := hcut
        cases kq with
        | zero => exact absurd HA.out (by simp [spileref03_Parse.j0])
        | succ kj15 =>
         have H := HA.out
         clear HA
         simp only [spileref03_Parse.j0] at H
         by_cases c21 : x46_15 = true
         ·
          subst c21
          have H1 : (some (0, 0, 3)) = some (r1, r2, r3) := by rw [if_pos rfl] at H; exact H
          clear H
          have H := H1
          clear H1
          simp only [Option.some.injEq, Prod.mk.injEq] at H
          obtain ⟨rfl, rfl, rfl⟩ := H
          have hcz22_0 : wc.cell? ⟨gb188, 0, none⟩ = some (.int .i64 0) := (blk_cell BK188.out 0).trans rfl
          have hcz22_1 : wc.cell? ⟨gb188, 1, none⟩ = some (.int .i64 0) := (blk_cell BK188.out 1).trans rfl
          have hfz22_0 := blk_frozen BK188.out 0
          have hfz22_1 := blk_frozen BK188.out 1
          go_wp2
          refine bodyPost_ret (results_ct rfl _ _ gb188 23 #[.int .i64 0, .int .i64 0] (0, 0) _ rfl (by (with_reducible repeat (first | refine blk_drewN ?_ _ | refine blk_drew ?_ | refine blk_alloc ?_ _)); refine blk_put (cs := #[.int .i64 0, .int .i64 0]) ?_ 1 _ rfl; (with_reducible repeat (first | refine blk_drewN ?_ _ | refine blk_drew ?_ | refine blk_alloc ?_ _)); refine blk_put (cs := #[.int .i64 0, .int .i64 0]) ?_ 0 _ rfl; (with_reducible repeat (first | refine blk_drewN ?_ _ | refine blk_drew ?_ | refine blk_alloc ?_ _)); exact BK188.out) Tryz.underlying23 rfl (by kernel_rfl)) rfl ?_
          exact ⟨by first | rfl | (simp [errW_none, errW_some] <;> rfl) | (simp only [← hji9]; first | rfl | (simp [errW_none, errW_some] <;> rfl)) | (simp [*, errW_none, errW_some] <;> rfl), by repeat (first | (with_reducible first | exact HB.out | apply below_alloc | apply pw_below_drewN | apply below_drew1 | refine below_set ?_ GE188.out) | exact HB.out)⟩
         ·
          replace c21 := Bool.eq_false_iff.mpr c21
          subst c21
          have H1 : ((spileref03_scaled.f kj15 t194 t195 t191 1125899906842624).bind fun t197 => (if t197 < 0 then (some (0, 0, 2)) else (if t193 = true then ((spileref03_in.f t190 (wrap64 (-t197))).bind fun t199 => (if t199 = true then (some (t190, wrap64 (-t197), 0)) else (some (0, 0, 2)))) else ((spileref03_in.f t190 t197).bind fun t201 => (if t201 = true then (some (t190, t197, 0)) else (some (0, 0, 2))))))) = some (r1, r2, r3) := by rw [if_neg (show ¬ (false = true) by decide)] at H; exact H
          clear H
          have H := H1
          clear H1
          replace H := Option.bind_eq_some_iff.mp H
          obtain ⟨t197, A230, H⟩ := H
          replace H : (if t197 < 0 then (some (0, 0, 2)) else (if t193 = true then ((spileref03_in.f t190 (wrap64 (-t197))).bind fun t199 => (if t199 = true then (some (t190, wrap64 (-t197), 0)) else (some (0, 0, 2)))) else ((spileref03_in.f t190 t197).bind fun t201 => (if t201 = true then (some (t190, t197, 0)) else (some (0, 0, 2)))))) = some (r1, r2, r3) := H
          have A23 := Aside0.mk A230
          clear A230
          by_cases c24 : t197 < 0
          ·
           rw [if_pos c24] at H
           have c24b0 : decide (t197 < 0) = true := decide_eq_true c24
           clear c24
           simp only [Option.some.injEq, Prod.mk.injEq] at H
           obtain ⟨rfl, rfl, rfl⟩ := H
           go_wp2_with (first | ((with_reducible refine gate_callee (f := 26) rfl ?_); refine goesL_ (some 51) rfl rfl Tryz.func26 (by kernel_rfl) rfl #[.string t194, .string t195, .int .i64 t191, .int .i64 1125899906842624] rfl (by (try simp only [List.map_toArray, List.map_cons, List.map_nil]); first | done | rfl | (simp only [List.length_drop, List.length_take]; rfl)) ?_; (with_reducible refine (spileref03_scaled.calls kj15 t194 t195 t191 1125899906842624 t197 _ A23.out).mono ?_); rintro e w' ⟨rfl, ⟨nd, rfl⟩⟩; refine ⟨_, rfl, ?_⟩; (try (rw [drewN_self wc]; generalize hq_ : World.drewN wc _ = wc; have n0_ : Aside0 (wc.heap[gb188]? = some (.cells #[.int .i64 0, .int .i64 0] 23 (0, 0))) := ⟨by rw [← hq_]; exact (by (with_reducible repeat (first | refine blk_drewN ?_ _ | refine blk_drew ?_ | refine blk_alloc ?_ _)); exact BK188.out)⟩; have n1_ : Aside0 (Below w.heap.size w wc) := ⟨by rw [← hq_]; exact (by repeat (first | (with_reducible first | exact HB.out | apply below_alloc | apply pw_below_drewN | apply below_drew1 | refine below_set ?_ GE188.out) | exact HB.out))⟩; clear BK188 HB hq_; have BK188 := n0_; have HB := n1_; clear n0_ n1_)); have hcz25_0 : wc.cell? ⟨gb188, 0, none⟩ = some (.int .i64 0) := (blk_cell BK188.out 0).trans rfl; have hcz25_1 : wc.cell? ⟨gb188, 1, none⟩ = some (.int .i64 0) := (blk_cell BK188.out 1).trans rfl; have hfz25_0 := blk_frozen BK188.out 0; have hfz25_1 := blk_frozen BK188.out 1))
           refine bodyPost_ret (results_ct rfl _ _ gb188 23 #[.int .i64 0, .int .i64 0] (0, 0) _ rfl (by (with_reducible repeat (first | refine blk_drewN ?_ _ | refine blk_drew ?_ | refine blk_alloc ?_ _)); refine blk_put (cs := #[.int .i64 0, .int .i64 0]) ?_ 1 _ rfl; (with_reducible repeat (first | refine blk_drewN ?_ _ | refine blk_drew ?_ | refine blk_alloc ?_ _)); refine blk_put (cs := #[.int .i64 0, .int .i64 0]) ?_ 0 _ rfl; (with_reducible repeat (first | refine blk_drewN ?_ _ | refine blk_drew ?_ | refine blk_alloc ?_ _)); exact BK188.out) Tryz.underlying23 rfl (by kernel_rfl)) rfl ?_
           exact ⟨by first | rfl | (simp [errW_none, errW_some] <;> rfl) | (simp only [← hji9]; first | rfl | (simp [errW_none, errW_some] <;> rfl)) | (simp [*, errW_none, errW_some] <;> rfl), by repeat (first | (with_reducible first | exact HB.out | apply below_alloc | apply pw_below_drewN | apply below_drew1 | refine below_set ?_ GE188.out) | exact HB.out)⟩
          ·
           rw [if_neg c24] at H
           have c24b0 : decide (t197 < 0) = false := decide_eq_false c24
           clear c24
           by_cases c26 : t193 = true
           ·
            subst c26
            have H1 : ((spileref03_in.f t190 (wrap64 (-t197))).bind fun t199 => (if t199 = true then (some (t190, wrap64 (-t197), 0)) else (some (0, 0, 2)))) = some (r1, r2, r3) := by rw [if_pos rfl] at H; exact H
            clear H
            have H := H1
            clear H1
            replace H := Option.bind_eq_some_iff.mp H
            obtain ⟨t199, A270, H⟩ := H
            replace H : (if t199 = true then (some (t190, wrap64 (-t197), 0)) else (some (0, 0, 2))) = some (r1, r2, r3) := H
            have A27 := Aside0.mk A270
            clear A270
            by_cases c28 : t199 = true
            ·
             subst c28
             have H1 : (some (t190, wrap64 (-t197), 0)) = some (r1, r2, r3) := by rw [if_pos rfl] at H; exact H
             clear H
             have H := H1
             clear H1
             simp only [Option.some.injEq, Prod.mk.injEq] at H
             obtain ⟨rfl, rfl, rfl⟩ := H
             go_wp2_with (first | ((with_reducible refine gate_callee (f := 26) rfl ?_); refine goesL_ (some 51) rfl rfl Tryz.func26 (by kernel_rfl) rfl #[.string t194, .string t195, .int .i64 t191, .int .i64 1125899906842624] rfl (by (try simp only [List.map_toArray, List.map_cons, List.map_nil]); first | done | rfl | (simp only [List.length_drop, List.length_take]; rfl)) ?_; (with_reducible refine (spileref03_scaled.calls kj15 t194 t195 t191 1125899906842624 t197 _ A23.out).mono ?_); rintro e w' ⟨rfl, ⟨nd, rfl⟩⟩; refine ⟨_, rfl, ?_⟩; (try (rw [drewN_self wc]; generalize hq_ : World.drewN wc _ = wc; have n0_ : Aside0 (wc.heap[gb188]? = some (.cells #[.int .i64 0, .int .i64 0] 23 (0, 0))) := ⟨by rw [← hq_]; exact (by (with_reducible repeat (first | refine blk_drewN ?_ _ | refine blk_drew ?_ | refine blk_alloc ?_ _)); exact BK188.out)⟩; have n1_ : Aside0 (Below w.heap.size w wc) := ⟨by rw [← hq_]; exact (by repeat (first | (with_reducible first | exact HB.out | apply below_alloc | apply pw_below_drewN | apply below_drew1 | refine below_set ?_ GE188.out) | exact HB.out))⟩; clear BK188 HB hq_; have BK188 := n0_; have HB := n1_; clear n0_ n1_))) | ((with_reducible refine gate_dst (N := 13) rfl ?_); refine box_event ?hg (N := 13) ?hd (cs := #[.int .i64 0, .int .i64 0]) (t := 23) ?hr ?_; (case hd => rfl); (case hg => rfl); (case hr => first | (go_simp; done) | (go_simp; rfl)); intro gb198 hg w29 hbox hb; have n0_ := Aside0.mk (blk_below (g := gb188) (o := .cells #[.int .i64 0, .int .i64 0] 23 (0, 0)) (by (with_reducible repeat (first | refine blk_drewN ?_ _ | refine blk_drew ?_ | refine blk_alloc ?_ _)); exact BK188.out) hb); have n1_ := Aside0.mk (below_step (by repeat (first | (with_reducible first | exact HB.out | apply below_alloc | apply pw_below_drewN | apply below_drew1 | refine below_set ?_ GE188.out) | exact HB.out)) hb); have n2_ := Aside0.mk (hbox); have n3_ := Aside0.mk ((by rw [hg]; exact (below_size (by repeat (first | (with_reducible first | exact HB.out | apply below_alloc | apply pw_below_drewN | apply below_drew1 | refine below_set ?_ GE188.out) | exact HB.out))) : w.heap.size ≤ gb198)); have n4_ := Aside0.mk ((by rw [hg]; exact (below_size (by repeat (first | (with_reducible first | exact HB.out | apply below_alloc | apply pw_below_drewN | apply below_drew1 | refine below_set ?_ GE188.out) | exact HB.out))) : w.heap.size ≤ gb198)); have n5_ := Aside0.mk ((by rw [hg]; exact Nat.ne_of_lt (blk_lt (g := gb188) (o := .cells #[.int .i64 0, .int .i64 0] 23 (0, 0)) (by (with_reducible repeat (first | refine blk_drewN ?_ _ | refine blk_drew ?_ | refine blk_alloc ?_ _)); exact BK188.out)) : gb188 ≠ gb198)); have n6_ := Aside0.mk ((by rw [hg]; exact Nat.ne_of_gt (blk_lt (g := gb188) (o := .cells #[.int .i64 0, .int .i64 0] 23 (0, 0)) (by (with_reducible repeat (first | refine blk_drewN ?_ _ | refine blk_drew ?_ | refine blk_alloc ?_ _)); exact BK188.out)) : gb198 ≠ gb188)); clear BK188; clear HB; have BK188 := n0_; have HB := n1_; have BK198 := n2_; have GW198 := n3_; have GE198 := n4_; have NB188_198 := n5_; have NB198_188 := n6_; clear n0_ n1_ n2_ n3_ n4_ n5_ n6_; clear hb hbox hg; have hnb30 := NB198_188.out; have hnc30 := NB188_198.out; have hcz31_0 : w29.cell? ⟨gb198, 0, none⟩ = some (.int .i64 0) := (blk_cell BK198.out 0).trans rfl; have hcz31_1 : w29.cell? ⟨gb198, 1, none⟩ = some (.int .i64 0) := (blk_cell BK198.out 1).trans rfl; have hfz31_0 := blk_frozen BK198.out 0; have hfz31_1 := blk_frozen BK198.out 1) | ((with_reducible refine gate_callee (f := 27) rfl ?_); refine goesL_ (some 62) rfl rfl Tryz.func27 (by kernel_rfl) rfl #[.agg #[.int .i64 t190, .int .i64 (wrap64 (-t197))]] rfl (by (try simp only [List.map_toArray, List.map_cons, List.map_nil]); first | done | rfl | (simp only [List.length_drop, List.length_take]; rfl)) ?_; (with_reducible refine (spileref03_in.calls t190 (wrap64 (-t197)) true _ A27.out).mono ?_); rintro e w32 ⟨rfl, hb⟩; refine ⟨_, rfl, ?_⟩; have n0_ := Aside0.mk (blk_below (g := gb188) (o := .cells #[.int .i64 0, .int .i64 0] 23 (0, 0)) (by (with_reducible repeat (first | refine blk_drewN ?_ _ | refine blk_drew ?_ | refine blk_alloc ?_ _)); refine blk_far ?_ NB188_198.out _; (with_reducible repeat (first | refine blk_drewN ?_ _ | refine blk_drew ?_ | refine blk_alloc ?_ _)); refine blk_far ?_ NB188_198.out _; (with_reducible repeat (first | refine blk_drewN ?_ _ | refine blk_drew ?_ | refine blk_alloc ?_ _)); exact BK188.out) hb); have n1_ := Aside0.mk (blk_below (g := gb198) (o := .cells #[.int .i64 t190, .int .i64 (wrap64 (-t197))] 23 (0, 0)) (by (with_reducible repeat (first | refine blk_drewN ?_ _ | refine blk_drew ?_ | refine blk_alloc ?_ _)); refine blk_put (cs := #[.int .i64 t190, .int .i64 0]) ?_ 1 _ rfl; (with_reducible repeat (first | refine blk_drewN ?_ _ | refine blk_drew ?_ | refine blk_alloc ?_ _)); refine blk_put (cs := #[.int .i64 0, .int .i64 0]) ?_ 0 _ rfl; (with_reducible repeat (first | refine blk_drewN ?_ _ | refine blk_drew ?_ | refine blk_alloc ?_ _)); exact BK198.out) hb); have n2_ := Aside0.mk (below_step (by repeat (first | (with_reducible first | exact HB.out | apply below_alloc | apply pw_below_drewN | apply below_drew1 | refine below_set ?_ GE188.out | refine below_set ?_ GE198.out) | exact HB.out)) hb); clear BK188; clear BK198; clear HB; have BK188 := n0_; have BK198 := n1_; have HB := n2_; clear n0_ n1_ n2_; (try clear hb); (try clear hb2); (try clear hk); (try clear hi); have hcz33_0 : w32.cell? ⟨gb198, 0, none⟩ = some (.int .i64 t190) := (blk_cell BK198.out 0).trans rfl; have hcz33_1 : w32.cell? ⟨gb198, 1, none⟩ = some (.int .i64 (wrap64 (-t197))) := (blk_cell BK198.out 1).trans rfl; have hfz33_0 := blk_frozen BK198.out 0; have hfz33_1 := blk_frozen BK198.out 1; have hcz34_0 : w32.cell? ⟨gb188, 0, none⟩ = some (.int .i64 0) := (blk_cell BK188.out 0).trans rfl; have hcz34_1 : w32.cell? ⟨gb188, 1, none⟩ = some (.int .i64 0) := (blk_cell BK188.out 1).trans rfl; have hfz34_0 := blk_frozen BK188.out 0; have hfz34_1 := blk_frozen BK188.out 1))
             refine bodyPost_ret (results_ct rfl _ _ gb188 23 #[.int .i64 t190, .int .i64 (wrap64 (-t197))] (0, 0) _ rfl (by (with_reducible repeat (first | refine blk_drewN ?_ _ | refine blk_drew ?_ | refine blk_alloc ?_ _)); refine blk_put (cs := #[.int .i64 t190, .int .i64 0]) ?_ 1 _ rfl; (with_reducible repeat (first | refine blk_drewN ?_ _ | refine blk_drew ?_ | refine blk_alloc ?_ _)); refine blk_put (cs := #[.int .i64 0, .int .i64 0]) ?_ 0 _ rfl; (with_reducible repeat (first | refine blk_drewN ?_ _ | refine blk_drew ?_ | refine blk_alloc ?_ _)); exact BK188.out) Tryz.underlying23 rfl (by kernel_rfl)) rfl ?_
             exact ⟨by first | rfl | (simp [errW_none, errW_some] <;> rfl) | (simp only [← hji9]; first | rfl | (simp [errW_none, errW_some] <;> rfl)) | (simp [*, errW_none, errW_some] <;> rfl), by repeat (first | (with_reducible first | exact HB.out | apply below_alloc | apply pw_below_drewN | apply below_drew1 | refine below_set ?_ GE188.out | refine below_set ?_ GE198.out) | exact HB.out)⟩
            ·
             replace c28 := Bool.eq_false_iff.mpr c28
             subst c28
             have H1 : (some (0, 0, 2)) = some (r1, r2, r3) := by rw [if_neg (show ¬ (false = true) by decide)] at H; exact H
             clear H
             have H := H1
             clear H1
             simp only [Option.some.injEq, Prod.mk.injEq] at H
             obtain ⟨rfl, rfl, rfl⟩ := H
             go_wp2_with (first | ((with_reducible refine gate_callee (f := 26) rfl ?_); refine goesL_ (some 51) rfl rfl Tryz.func26 (by kernel_rfl) rfl #[.string t194, .string t195, .int .i64 t191, .int .i64 1125899906842624] rfl (by (try simp only [List.map_toArray, List.map_cons, List.map_nil]); first | done | rfl | (simp only [List.length_drop, List.length_take]; rfl)) ?_; (with_reducible refine (spileref03_scaled.calls kj15 t194 t195 t191 1125899906842624 t197 _ A23.out).mono ?_); rintro e w' ⟨rfl, ⟨nd, rfl⟩⟩; refine ⟨_, rfl, ?_⟩; (try (rw [drewN_self wc]; generalize hq_ : World.drewN wc _ = wc; have n0_ : Aside0 (wc.heap[gb188]? = some (.cells #[.int .i64 0, .int .i64 0] 23 (0, 0))) := ⟨by rw [← hq_]; exact (by (with_reducible repeat (first | refine blk_drewN ?_ _ | refine blk_drew ?_ | refine blk_alloc ?_ _)); exact BK188.out)⟩; have n1_ : Aside0 (Below w.heap.size w wc) := ⟨by rw [← hq_]; exact (by repeat (first | (with_reducible first | exact HB.out | apply below_alloc | apply pw_below_drewN | apply below_drew1 | refine below_set ?_ GE188.out) | exact HB.out))⟩; clear BK188 HB hq_; have BK188 := n0_; have HB := n1_; clear n0_ n1_))) | ((with_reducible refine gate_dst (N := 13) rfl ?_); refine box_event ?hg (N := 13) ?hd (cs := #[.int .i64 0, .int .i64 0]) (t := 23) ?hr ?_; (case hd => rfl); (case hg => rfl); (case hr => first | (go_simp; done) | (go_simp; rfl)); intro gb198 hg w35 hbox hb; have n0_ := Aside0.mk (blk_below (g := gb188) (o := .cells #[.int .i64 0, .int .i64 0] 23 (0, 0)) (by (with_reducible repeat (first | refine blk_drewN ?_ _ | refine blk_drew ?_ | refine blk_alloc ?_ _)); exact BK188.out) hb); have n1_ := Aside0.mk (below_step (by repeat (first | (with_reducible first | exact HB.out | apply below_alloc | apply pw_below_drewN | apply below_drew1 | refine below_set ?_ GE188.out) | exact HB.out)) hb); have n2_ := Aside0.mk (hbox); have n3_ := Aside0.mk ((by rw [hg]; exact (below_size (by repeat (first | (with_reducible first | exact HB.out | apply below_alloc | apply pw_below_drewN | apply below_drew1 | refine below_set ?_ GE188.out) | exact HB.out))) : w.heap.size ≤ gb198)); have n4_ := Aside0.mk ((by rw [hg]; exact (below_size (by repeat (first | (with_reducible first | exact HB.out | apply below_alloc | apply pw_below_drewN | apply below_drew1 | refine below_set ?_ GE188.out) | exact HB.out))) : w.heap.size ≤ gb198)); have n5_ := Aside0.mk ((by rw [hg]; exact Nat.ne_of_lt (blk_lt (g := gb188) (o := .cells #[.int .i64 0, .int .i64 0] 23 (0, 0)) (by (with_reducible repeat (first | refine blk_drewN ?_ _ | refine blk_drew ?_ | refine blk_alloc ?_ _)); exact BK188.out)) : gb188 ≠ gb198)); have n6_ := Aside0.mk ((by rw [hg]; exact Nat.ne_of_gt (blk_lt (g := gb188) (o := .cells #[.int .i64 0, .int .i64 0] 23 (0, 0)) (by (with_reducible repeat (first | refine blk_drewN ?_ _ | refine blk_drew ?_ | refine blk_alloc ?_ _)); exact BK188.out)) : gb198 ≠ gb188)); clear BK188; clear HB; have BK188 := n0_; have HB := n1_; have BK198 := n2_; have GW198 := n3_; have GE198 := n4_; have NB188_198 := n5_; have NB198_188 := n6_; clear n0_ n1_ n2_ n3_ n4_ n5_ n6_; clear hb hbox hg; have hnb36 := NB198_188.out; have hnc36 := NB188_198.out; have hcz37_0 : w35.cell? ⟨gb198, 0, none⟩ = some (.int .i64 0) := (blk_cell BK198.out 0).trans rfl; have hcz37_1 : w35.cell? ⟨gb198, 1, none⟩ = some (.int .i64 0) := (blk_cell BK198.out 1).trans rfl; have hfz37_0 := blk_frozen BK198.out 0; have hfz37_1 := blk_frozen BK198.out 1) | ((with_reducible refine gate_callee (f := 27) rfl ?_); refine goesL_ (some 62) rfl rfl Tryz.func27 (by kernel_rfl) rfl #[.agg #[.int .i64 t190, .int .i64 (wrap64 (-t197))]] rfl (by (try simp only [List.map_toArray, List.map_cons, List.map_nil]); first | done | rfl | (simp only [List.length_drop, List.length_take]; rfl)) ?_; (with_reducible refine (spileref03_in.calls t190 (wrap64 (-t197)) false _ A27.out).mono ?_); rintro e w38 ⟨rfl, hb⟩; refine ⟨_, rfl, ?_⟩; have n0_ := Aside0.mk (blk_below (g := gb188) (o := .cells #[.int .i64 0, .int .i64 0] 23 (0, 0)) (by (with_reducible repeat (first | refine blk_drewN ?_ _ | refine blk_drew ?_ | refine blk_alloc ?_ _)); refine blk_far ?_ NB188_198.out _; (with_reducible repeat (first | refine blk_drewN ?_ _ | refine blk_drew ?_ | refine blk_alloc ?_ _)); refine blk_far ?_ NB188_198.out _; (with_reducible repeat (first | refine blk_drewN ?_ _ | refine blk_drew ?_ | refine blk_alloc ?_ _)); exact BK188.out) hb); have n1_ := Aside0.mk (blk_below (g := gb198) (o := .cells #[.int .i64 t190, .int .i64 (wrap64 (-t197))] 23 (0, 0)) (by (with_reducible repeat (first | refine blk_drewN ?_ _ | refine blk_drew ?_ | refine blk_alloc ?_ _)); refine blk_put (cs := #[.int .i64 t190, .int .i64 0]) ?_ 1 _ rfl; (with_reducible repeat (first | refine blk_drewN ?_ _ | refine blk_drew ?_ | refine blk_alloc ?_ _)); refine blk_put (cs := #[.int .i64 0, .int .i64 0]) ?_ 0 _ rfl; (with_reducible repeat (first | refine blk_drewN ?_ _ | refine blk_drew ?_ | refine blk_alloc ?_ _)); exact BK198.out) hb); have n2_ := Aside0.mk (below_step (by repeat (first | (with_reducible first | exact HB.out | apply below_alloc | apply pw_below_drewN | apply below_drew1 | refine below_set ?_ GE188.out | refine below_set ?_ GE198.out) | exact HB.out)) hb); clear BK188; clear BK198; clear HB; have BK188 := n0_; have BK198 := n1_; have HB := n2_; clear n0_ n1_ n2_; (try clear hb); (try clear hb2); (try clear hk); (try clear hi); have hcz39_0 : w38.cell? ⟨gb188, 0, none⟩ = some (.int .i64 0) := (blk_cell BK188.out 0).trans rfl; have hcz39_1 : w38.cell? ⟨gb188, 1, none⟩ = some (.int .i64 0) := (blk_cell BK188.out 1).trans rfl; have hfz39_0 := blk_frozen BK188.out 0; have hfz39_1 := blk_frozen BK188.out 1))
             refine bodyPost_ret (results_ct rfl _ _ gb188 23 #[.int .i64 0, .int .i64 0] (0, 0) _ rfl (by (with_reducible repeat (first | refine blk_drewN ?_ _ | refine blk_drew ?_ | refine blk_alloc ?_ _)); refine blk_put (cs := #[.int .i64 0, .int .i64 0]) ?_ 1 _ rfl; (with_reducible repeat (first | refine blk_drewN ?_ _ | refine blk_drew ?_ | refine blk_alloc ?_ _)); refine blk_put (cs := #[.int .i64 0, .int .i64 0]) ?_ 0 _ rfl; (with_reducible repeat (first | refine blk_drewN ?_ _ | refine blk_drew ?_ | refine blk_alloc ?_ _)); exact BK188.out) Tryz.underlying23 rfl (by kernel_rfl)) rfl ?_
             exact ⟨by first | rfl | (simp [errW_none, errW_some] <;> rfl) | (simp only [← hji9]; first | rfl | (simp [errW_none, errW_some] <;> rfl)) | (simp [*, errW_none, errW_some] <;> rfl), by repeat (first | (with_reducible first | exact HB.out | apply below_alloc | apply pw_below_drewN | apply below_drew1 | refine below_set ?_ GE188.out | refine below_set ?_ GE198.out) | exact HB.out)⟩
           ·
            replace c26 := Bool.eq_false_iff.mpr c26
            subst c26
            have H1 : ((spileref03_in.f t190 t197).bind fun t201 => (if t201 = true then (some (t190, t197, 0)) else (some (0, 0, 2)))) = some (r1, r2, r3) := by rw [if_neg (show ¬ (false = true) by decide)] at H; exact H
            clear H
            have H := H1
            clear H1
            replace H := Option.bind_eq_some_iff.mp H
            obtain ⟨t201, A400, H⟩ := H
            replace H : (if t201 = true then (some (t190, t197, 0)) else (some (0, 0, 2))) = some (r1, r2, r3) := H
            have A40 := Aside0.mk A400
            clear A400
            by_cases c41 : t201 = true
            ·
             subst c41
             have H1 : (some (t190, t197, 0)) = some (r1, r2, r3) := by rw [if_pos rfl] at H; exact H
             clear H
             have H := H1
             clear H1
             simp only [Option.some.injEq, Prod.mk.injEq] at H
             obtain ⟨rfl, rfl, rfl⟩ := H
             go_wp2_with (first | ((with_reducible refine gate_callee (f := 26) rfl ?_); refine goesL_ (some 51) rfl rfl Tryz.func26 (by kernel_rfl) rfl #[.string t194, .string t195, .int .i64 t191, .int .i64 1125899906842624] rfl (by (try simp only [List.map_toArray, List.map_cons, List.map_nil]); first | done | rfl | (simp only [List.length_drop, List.length_take]; rfl)) ?_; (with_reducible refine (spileref03_scaled.calls kj15 t194 t195 t191 1125899906842624 t197 _ A23.out).mono ?_); rintro e w' ⟨rfl, ⟨nd, rfl⟩⟩; refine ⟨_, rfl, ?_⟩; (try (rw [drewN_self wc]; generalize hq_ : World.drewN wc _ = wc; have n0_ : Aside0 (wc.heap[gb188]? = some (.cells #[.int .i64 0, .int .i64 0] 23 (0, 0))) := ⟨by rw [← hq_]; exact (by (with_reducible repeat (first | refine blk_drewN ?_ _ | refine blk_drew ?_ | refine blk_alloc ?_ _)); exact BK188.out)⟩; have n1_ : Aside0 (Below w.heap.size w wc) := ⟨by rw [← hq_]; exact (by repeat (first | (with_reducible first | exact HB.out | apply below_alloc | apply pw_below_drewN | apply below_drew1 | refine below_set ?_ GE188.out) | exact HB.out))⟩; clear BK188 HB hq_; have BK188 := n0_; have HB := n1_; clear n0_ n1_))) | ((with_reducible refine gate_dst (N := 13) rfl ?_); refine box_event ?hg (N := 13) ?hd (cs := #[.int .i64 0, .int .i64 0]) (t := 23) ?hr ?_; (case hd => rfl); (case hg => rfl); (case hr => first | (go_simp; done) | (go_simp; rfl)); intro gb200 hg w42 hbox hb; have n0_ := Aside0.mk (blk_below (g := gb188) (o := .cells #[.int .i64 0, .int .i64 0] 23 (0, 0)) (by (with_reducible repeat (first | refine blk_drewN ?_ _ | refine blk_drew ?_ | refine blk_alloc ?_ _)); exact BK188.out) hb); have n1_ := Aside0.mk (below_step (by repeat (first | (with_reducible first | exact HB.out | apply below_alloc | apply pw_below_drewN | apply below_drew1 | refine below_set ?_ GE188.out) | exact HB.out)) hb); have n2_ := Aside0.mk (hbox); have n3_ := Aside0.mk ((by rw [hg]; exact (below_size (by repeat (first | (with_reducible first | exact HB.out | apply below_alloc | apply pw_below_drewN | apply below_drew1 | refine below_set ?_ GE188.out) | exact HB.out))) : w.heap.size ≤ gb200)); have n4_ := Aside0.mk ((by rw [hg]; exact (below_size (by repeat (first | (with_reducible first | exact HB.out | apply below_alloc | apply pw_below_drewN | apply below_drew1 | refine below_set ?_ GE188.out) | exact HB.out))) : w.heap.size ≤ gb200)); have n5_ := Aside0.mk ((by rw [hg]; exact Nat.ne_of_lt (blk_lt (g := gb188) (o := .cells #[.int .i64 0, .int .i64 0] 23 (0, 0)) (by (with_reducible repeat (first | refine blk_drewN ?_ _ | refine blk_drew ?_ | refine blk_alloc ?_ _)); exact BK188.out)) : gb188 ≠ gb200)); have n6_ := Aside0.mk ((by rw [hg]; exact Nat.ne_of_gt (blk_lt (g := gb188) (o := .cells #[.int .i64 0, .int .i64 0] 23 (0, 0)) (by (with_reducible repeat (first | refine blk_drewN ?_ _ | refine blk_drew ?_ | refine blk_alloc ?_ _)); exact BK188.out)) : gb200 ≠ gb188)); clear BK188; clear HB; have BK188 := n0_; have HB := n1_; have BK200 := n2_; have GW200 := n3_; have GE200 := n4_; have NB188_200 := n5_; have NB200_188 := n6_; clear n0_ n1_ n2_ n3_ n4_ n5_ n6_; clear hb hbox hg; have hnb43 := NB200_188.out; have hnc43 := NB188_200.out; have hcz44_0 : w42.cell? ⟨gb200, 0, none⟩ = some (.int .i64 0) := (blk_cell BK200.out 0).trans rfl; have hcz44_1 : w42.cell? ⟨gb200, 1, none⟩ = some (.int .i64 0) := (blk_cell BK200.out 1).trans rfl; have hfz44_0 := blk_frozen BK200.out 0; have hfz44_1 := blk_frozen BK200.out 1) | ((with_reducible refine gate_callee (f := 27) rfl ?_); refine goesL_ (some 62) rfl rfl Tryz.func27 (by kernel_rfl) rfl #[.agg #[.int .i64 t190, .int .i64 t197]] rfl (by (try simp only [List.map_toArray, List.map_cons, List.map_nil]); first | done | rfl | (simp only [List.length_drop, List.length_take]; rfl)) ?_; (with_reducible refine (spileref03_in.calls t190 t197 true _ A40.out).mono ?_); rintro e w45 ⟨rfl, hb⟩; refine ⟨_, rfl, ?_⟩; have n0_ := Aside0.mk (blk_below (g := gb188) (o := .cells #[.int .i64 0, .int .i64 0] 23 (0, 0)) (by (with_reducible repeat (first | refine blk_drewN ?_ _ | refine blk_drew ?_ | refine blk_alloc ?_ _)); refine blk_far ?_ NB188_200.out _; (with_reducible repeat (first | refine blk_drewN ?_ _ | refine blk_drew ?_ | refine blk_alloc ?_ _)); refine blk_far ?_ NB188_200.out _; (with_reducible repeat (first | refine blk_drewN ?_ _ | refine blk_drew ?_ | refine blk_alloc ?_ _)); exact BK188.out) hb); have n1_ := Aside0.mk (blk_below (g := gb200) (o := .cells #[.int .i64 t190, .int .i64 t197] 23 (0, 0)) (by (with_reducible repeat (first | refine blk_drewN ?_ _ | refine blk_drew ?_ | refine blk_alloc ?_ _)); refine blk_put (cs := #[.int .i64 t190, .int .i64 0]) ?_ 1 _ rfl; (with_reducible repeat (first | refine blk_drewN ?_ _ | refine blk_drew ?_ | refine blk_alloc ?_ _)); refine blk_put (cs := #[.int .i64 0, .int .i64 0]) ?_ 0 _ rfl; (with_reducible repeat (first | refine blk_drewN ?_ _ | refine blk_drew ?_ | refine blk_alloc ?_ _)); exact BK200.out) hb); have n2_ := Aside0.mk (below_step (by repeat (first | (with_reducible first | exact HB.out | apply below_alloc | apply pw_below_drewN | apply below_drew1 | refine below_set ?_ GE188.out | refine below_set ?_ GE200.out) | exact HB.out)) hb); clear BK188; clear BK200; clear HB; have BK188 := n0_; have BK200 := n1_; have HB := n2_; clear n0_ n1_ n2_; (try clear hb); (try clear hb2); (try clear hk); (try clear hi); have hcz46_0 : w45.cell? ⟨gb200, 0, none⟩ = some (.int .i64 t190) := (blk_cell BK200.out 0).trans rfl; have hcz46_1 : w45.cell? ⟨gb200, 1, none⟩ = some (.int .i64 t197) := (blk_cell BK200.out 1).trans rfl; have hfz46_0 := blk_frozen BK200.out 0; have hfz46_1 := blk_frozen BK200.out 1; have hcz47_0 : w45.cell? ⟨gb188, 0, none⟩ = some (.int .i64 0) := (blk_cell BK188.out 0).trans rfl; have hcz47_1 : w45.cell? ⟨gb188, 1, none⟩ = some (.int .i64 0) := (blk_cell BK188.out 1).trans rfl; have hfz47_0 := blk_frozen BK188.out 0; have hfz47_1 := blk_frozen BK188.out 1))
             refine bodyPost_ret (results_ct rfl _ _ gb188 23 #[.int .i64 t190, .int .i64 t197] (0, 0) _ rfl (by (with_reducible repeat (first | refine blk_drewN ?_ _ | refine blk_drew ?_ | refine blk_alloc ?_ _)); refine blk_put (cs := #[.int .i64 t190, .int .i64 0]) ?_ 1 _ rfl; (with_reducible repeat (first | refine blk_drewN ?_ _ | refine blk_drew ?_ | refine blk_alloc ?_ _)); refine blk_put (cs := #[.int .i64 0, .int .i64 0]) ?_ 0 _ rfl; (with_reducible repeat (first | refine blk_drewN ?_ _ | refine blk_drew ?_ | refine blk_alloc ?_ _)); exact BK188.out) Tryz.underlying23 rfl (by kernel_rfl)) rfl ?_
             exact ⟨by first | rfl | (simp [errW_none, errW_some] <;> rfl) | (simp only [← hji9]; first | rfl | (simp [errW_none, errW_some] <;> rfl)) | (simp [*, errW_none, errW_some] <;> rfl), by repeat (first | (with_reducible first | exact HB.out | apply below_alloc | apply pw_below_drewN | apply below_drew1 | refine below_set ?_ GE188.out | refine below_set ?_ GE200.out) | exact HB.out)⟩
            ·
             replace c41 := Bool.eq_false_iff.mpr c41
             subst c41
             have H1 : (some (0, 0, 2)) = some (r1, r2, r3) := by rw [if_neg (show ¬ (false = true) by decide)] at H; exact H
             clear H
             have H := H1
             clear H1
             simp only [Option.some.injEq, Prod.mk.injEq] at H
             obtain ⟨rfl, rfl, rfl⟩ := H
             go_wp2_with (first | ((with_reducible refine gate_callee (f := 26) rfl ?_); refine goesL_ (some 51) rfl rfl Tryz.func26 (by kernel_rfl) rfl #[.string t194, .string t195, .int .i64 t191, .int .i64 1125899906842624] rfl (by (try simp only [List.map_toArray, List.map_cons, List.map_nil]); first | done | rfl | (simp only [List.length_drop, List.length_take]; rfl)) ?_; (with_reducible refine (spileref03_scaled.calls kj15 t194 t195 t191 1125899906842624 t197 _ A23.out).mono ?_); rintro e w' ⟨rfl, ⟨nd, rfl⟩⟩; refine ⟨_, rfl, ?_⟩; (try (rw [drewN_self wc]; generalize hq_ : World.drewN wc _ = wc; have n0_ : Aside0 (wc.heap[gb188]? = some (.cells #[.int .i64 0, .int .i64 0] 23 (0, 0))) := ⟨by rw [← hq_]; exact (by (with_reducible repeat (first | refine blk_drewN ?_ _ | refine blk_drew ?_ | refine blk_alloc ?_ _)); exact BK188.out)⟩; have n1_ : Aside0 (Below w.heap.size w wc) := ⟨by rw [← hq_]; exact (by repeat (first | (with_reducible first | exact HB.out | apply below_alloc | apply pw_below_drewN | apply below_drew1 | refine below_set ?_ GE188.out) | exact HB.out))⟩; clear BK188 HB hq_; have BK188 := n0_; have HB := n1_; clear n0_ n1_))) | ((with_reducible refine gate_dst (N := 13) rfl ?_); refine box_event ?hg (N := 13) ?hd (cs := #[.int .i64 0, .int .i64 0]) (t := 23) ?hr ?_; (case hd => rfl); (case hg => rfl); (case hr => first | (go_simp; done) | (go_simp; rfl)); intro gb200 hg w48 hbox hb; have n0_ := Aside0.mk (blk_below (g := gb188) (o := .cells #[.int .i64 0, .int .i64 0] 23 (0, 0)) (by (with_reducible repeat (first | refine blk_drewN ?_ _ | refine blk_drew ?_ | refine blk_alloc ?_ _)); exact BK188.out) hb); have n1_ := Aside0.mk (below_step (by repeat (first | (with_reducible first | exact HB.out | apply below_alloc | apply pw_below_drewN | apply below_drew1 | refine below_set ?_ GE188.out) | exact HB.out)) hb); have n2_ := Aside0.mk (hbox); have n3_ := Aside0.mk ((by rw [hg]; exact (below_size (by repeat (first | (with_reducible first | exact HB.out | apply below_alloc | apply pw_below_drewN | apply below_drew1 | refine below_set ?_ GE188.out) | exact HB.out))) : w.heap.size ≤ gb200)); have n4_ := Aside0.mk ((by rw [hg]; exact (below_size (by repeat (first | (with_reducible first | exact HB.out | apply below_alloc | apply pw_below_drewN | apply below_drew1 | refine below_set ?_ GE188.out) | exact HB.out))) : w.heap.size ≤ gb200)); have n5_ := Aside0.mk ((by rw [hg]; exact Nat.ne_of_lt (blk_lt (g := gb188) (o := .cells #[.int .i64 0, .int .i64 0] 23 (0, 0)) (by (with_reducible repeat (first | refine blk_drewN ?_ _ | refine blk_drew ?_ | refine blk_alloc ?_ _)); exact BK188.out)) : gb188 ≠ gb200)); have n6_ := Aside0.mk ((by rw [hg]; exact Nat.ne_of_gt (blk_lt (g := gb188) (o := .cells #[.int .i64 0, .int .i64 0] 23 (0, 0)) (by (with_reducible repeat (first | refine blk_drewN ?_ _ | refine blk_drew ?_ | refine blk_alloc ?_ _)); exact BK188.out)) : gb200 ≠ gb188)); clear BK188; clear HB; have BK188 := n0_; have HB := n1_; have BK200 := n2_; have GW200 := n3_; have GE200 := n4_; have NB188_200 := n5_; have NB200_188 := n6_; clear n0_ n1_ n2_ n3_ n4_ n5_ n6_; clear hb hbox hg; have hnb49 := NB200_188.out; have hnc49 := NB188_200.out; have hcz50_0 : w48.cell? ⟨gb200, 0, none⟩ = some (.int .i64 0) := (blk_cell BK200.out 0).trans rfl; have hcz50_1 : w48.cell? ⟨gb200, 1, none⟩ = some (.int .i64 0) := (blk_cell BK200.out 1).trans rfl; have hfz50_0 := blk_frozen BK200.out 0; have hfz50_1 := blk_frozen BK200.out 1) | ((with_reducible refine gate_callee (f := 27) rfl ?_); refine goesL_ (some 62) rfl rfl Tryz.func27 (by kernel_rfl) rfl #[.agg #[.int .i64 t190, .int .i64 t197]] rfl (by (try simp only [List.map_toArray, List.map_cons, List.map_nil]); first | done | rfl | (simp only [List.length_drop, List.length_take]; rfl)) ?_; (with_reducible refine (spileref03_in.calls t190 t197 false _ A40.out).mono ?_); rintro e w51 ⟨rfl, hb⟩; refine ⟨_, rfl, ?_⟩; have n0_ := Aside0.mk (blk_below (g := gb188) (o := .cells #[.int .i64 0, .int .i64 0] 23 (0, 0)) (by (with_reducible repeat (first | refine blk_drewN ?_ _ | refine blk_drew ?_ | refine blk_alloc ?_ _)); refine blk_far ?_ NB188_200.out _; (with_reducible repeat (first | refine blk_drewN ?_ _ | refine blk_drew ?_ | refine blk_alloc ?_ _)); refine blk_far ?_ NB188_200.out _; (with_reducible repeat (first | refine blk_drewN ?_ _ | refine blk_drew ?_ | refine blk_alloc ?_ _)); exact BK188.out) hb); have n1_ := Aside0.mk (blk_below (g := gb200) (o := .cells #[.int .i64 t190, .int .i64 t197] 23 (0, 0)) (by (with_reducible repeat (first | refine blk_drewN ?_ _ | refine blk_drew ?_ | refine blk_alloc ?_ _)); refine blk_put (cs := #[.int .i64 t190, .int .i64 0]) ?_ 1 _ rfl; (with_reducible repeat (first | refine blk_drewN ?_ _ | refine blk_drew ?_ | refine blk_alloc ?_ _)); refine blk_put (cs := #[.int .i64 0, .int .i64 0]) ?_ 0 _ rfl; (with_reducible repeat (first | refine blk_drewN ?_ _ | refine blk_drew ?_ | refine blk_alloc ?_ _)); exact BK200.out) hb); have n2_ := Aside0.mk (below_step (by repeat (first | (with_reducible first | exact HB.out | apply below_alloc | apply pw_below_drewN | apply below_drew1 | refine below_set ?_ GE188.out | refine below_set ?_ GE200.out) | exact HB.out)) hb); clear BK188; clear BK200; clear HB; have BK188 := n0_; have BK200 := n1_; have HB := n2_; clear n0_ n1_ n2_; (try clear hb); (try clear hb2); (try clear hk); (try clear hi); have hcz52_0 : w51.cell? ⟨gb188, 0, none⟩ = some (.int .i64 0) := (blk_cell BK188.out 0).trans rfl; have hcz52_1 : w51.cell? ⟨gb188, 1, none⟩ = some (.int .i64 0) := (blk_cell BK188.out 1).trans rfl; have hfz52_0 := blk_frozen BK188.out 0; have hfz52_1 := blk_frozen BK188.out 1))
             refine bodyPost_ret (results_ct rfl _ _ gb188 23 #[.int .i64 0, .int .i64 0] (0, 0) _ rfl (by (with_reducible repeat (first | refine blk_drewN ?_ _ | refine blk_drew ?_ | refine blk_alloc ?_ _)); refine blk_put (cs := #[.int .i64 0, .int .i64 0]) ?_ 1 _ rfl; (with_reducible repeat (first | refine blk_drewN ?_ _ | refine blk_drew ?_ | refine blk_alloc ?_ _)); refine blk_put (cs := #[.int .i64 0, .int .i64 0]) ?_ 0 _ rfl; (with_reducible repeat (first | refine blk_drewN ?_ _ | refine blk_drew ?_ | refine blk_alloc ?_ _)); exact BK188.out) Tryz.underlying23 rfl (by kernel_rfl)) rfl ?_
             exact ⟨by first | rfl | (simp [errW_none, errW_some] <;> rfl) | (simp only [← hji9]; first | rfl | (simp [errW_none, errW_some] <;> rfl)) | (simp [*, errW_none, errW_some] <;> rfl), by repeat (first | (with_reducible first | exact HB.out | apply below_alloc | apply pw_below_drewN | apply below_drew1 | refine below_set ?_ GE188.out | refine below_set ?_ GE200.out) | exact HB.out)⟩
      ·
       rw [if_neg c14] at H
       exact absurd H (by simp)
     ·
      rw [if_neg c13] at H
      exact absurd H (by simp)
    ·
     rw [if_neg c11] at H
     exact absurd H (by simp)
   ·
    rw [if_neg c10] at H
    exact absurd H (by simp)
def spilelaw03_UnitTexts.j0 : Nat → ByteArray → ByteArray → Bool → Int → Int → Option (Bool)
 | 0, _, _, _, _, _ => none
 | k + 1, x1, x2, x24, x203000, x203001 => if x24 = true then (some true) else ((unit_Print.f k x203000 x203001 x1).bind fun bt204 => ((spileref03_Print.f k x203000 x203001 x1).bind fun bt206 => ((unit_Parse.f k x2).bind fun bt208 => ((spileref03_Parse.f k x2).bind fun bt212 => (if bt204.1.toList = bt206.1.toList then (if bt204.2 = bt206.2 then (if (bt208.1 == bt212.1 && (bt208.2.1 == bt212.2.1)) = true then (some (bt208.2.2 == bt212.2.2)) else (some false)) else (some false)) else (some false))))))
def spilelaw03_UnitTexts.f (k : Nat) (a0_0 : Int) (a0_1 : Int) (a1 : ByteArray) (a2 : ByteArray) : Option (Bool) := (spilelaw03_awake.f).bind fun t203 => (if t203 = true then (if (a1.size : Int) > 100 then (spilelaw03_UnitTexts.j0 k a1 a2 true a0_0 a0_1) else (spilelaw03_UnitTexts.j0 k a1 a2 (decide ((a2.size : Int) > 100)) a0_0 a0_1)) else (some false))
set_option maxHeartbeats 8000000 in
set_option maxRecDepth 100000 in
theorem spilelaw03_UnitTexts.calls (k : Nat) (a0_0 : Int) (a0_1 : Int) (a1 : ByteArray) (a2 : ByteArray) (r : Bool) (w : World) (hG : GI w) (hr_ : r = true) (h : spilelaw03_UnitTexts.f k a0_0 a0_1 a1 a2 = some r) :
  Calls Tryz.prog 3 #[.agg #[.int .i64 a0_0, .int .i64 a0_1], .string a1, .string a2] w fun e w' => e = .returned (.bool r) ∧ Below w.heap.size w w' := by
 have hu23 := Tryz.underlying23
 have HG := Aside0.mk hG
 clear hG
 have HB := Aside0.mk (Below.refl w.heap.size w)
 have H : ((spilelaw03_awake.f).bind fun t203 => (if t203 = true then (if (a1.size : Int) > 100 then (spilelaw03_UnitTexts.j0 k a1 a2 true a0_0 a0_1) else (spilelaw03_UnitTexts.j0 k a1 a2 (decide ((a2.size : Int) > 100)) a0_0 a0_1)) else (some false))) = some r := h
 clear h
 replace H := Option.bind_eq_some_iff.mp H
 obtain ⟨t203, A40, H⟩ := H
 replace H : (if t203 = true then (if (a1.size : Int) > 100 then (spilelaw03_UnitTexts.j0 k a1 a2 true a0_0 a0_1) else (spilelaw03_UnitTexts.j0 k a1 a2 (decide ((a2.size : Int) > 100)) a0_0 a0_1)) else (some false)) = some r := H
 have A4 := Aside0.mk A40
 clear A40
 by_cases c5 : t203 = true
 ·
  subst c5
  have H1 : (if (a1.size : Int) > 100 then (spilelaw03_UnitTexts.j0 k a1 a2 true a0_0 a0_1) else (spilelaw03_UnitTexts.j0 k a1 a2 (decide ((a2.size : Int) > 100)) a0_0 a0_1)) = some r := by rw [if_pos rfl] at H; exact H
  clear H
  have H := H1
  clear H1
  have HC6 := Aside0.mk H
  clear H
  go_enter Tryz.func3, Tryz.ntmps3
  go_upto_region 3 with (first | ((with_reducible refine gate_dst (N := 3) rfl ?_); (try (refine gate_guard (by rfl) ?_; dsimp only)); refine box_event ?hg (N := 3) ?hd (cs := #[.int .i64 a0_0, .int .i64 a0_1]) (t := 23) ?hr ?_; (case hd => rfl); (case hg => rfl); (case hr => first | (go_simp; done) | (go_simp; rfl)); intro gb202 hg w7 hbox hb; have n0_ := Aside0.mk (below_step (by repeat (first | (with_reducible first | exact HB.out | apply below_alloc | apply pw_below_drewN | apply below_drew1) | exact HB.out)) hb); have n1_ := Aside0.mk (hbox); have n2_ := Aside0.mk ((by rw [hg]; exact (below_size (by repeat (first | (with_reducible first | exact HB.out | apply below_alloc | apply pw_below_drewN | apply below_drew1) | exact HB.out))) : w.heap.size ≤ gb202)); have n3_ := Aside0.mk ((by rw [hg]; exact (below_size (by repeat (first | (with_reducible first | exact HB.out | apply below_alloc | apply pw_below_drewN | apply below_drew1) | exact HB.out))) : w.heap.size ≤ gb202)); clear HB; have HB := n0_; have BK202 := n1_; have GW202 := n2_; have GE202 := n3_; clear n0_ n1_ n2_ n3_; clear hb hbox hg) | ((with_reducible refine gate_callee (f := 4) rfl ?_); refine goesL_ (some 15) rfl rfl Tryz.func4 (by kernel_rfl) rfl #[] rfl (by (try simp only [List.map_toArray, List.map_cons, List.map_nil]); first | done | rfl | (simp only [List.length_drop, List.length_take]; rfl)) ?_; (with_reducible refine (spilelaw03_awake.calls  true _ ?side1 A4.out).mono ?_); (case side1 => exact GI.below HG.out (by repeat (first | (with_reducible first | exact HB.out | apply below_alloc | apply pw_below_drewN | apply below_drew1 | refine below_set ?_ GE202.out) | exact HB.out))); rintro e w8 ⟨rfl, hb⟩; refine ⟨_, rfl, ?_⟩; have n0_ := Aside0.mk (blk_below (g := gb202) (o := .cells #[.int .i64 a0_0, .int .i64 a0_1] 23 (0, 0)) (by (with_reducible repeat (first | refine blk_drewN ?_ _ | refine blk_drew ?_ | refine blk_alloc ?_ _)); exact BK202.out) hb); have n1_ := Aside0.mk (below_step (by repeat (first | (with_reducible first | exact HB.out | apply below_alloc | apply pw_below_drewN | apply below_drew1 | refine below_set ?_ GE202.out) | exact HB.out)) hb); clear BK202; clear HB; have BK202 := n0_; have HB := n1_; clear n0_ n1_; (try clear hb); (try clear hb2); (try clear hk); (try clear hi)))
  (try simp only [Act.put, List.setIfInBounds_toArray, List.set_cons_zero, List.set_cons_succ])
  go_cut [24] (fun v24 wc => ∃ (kq : Nat) (x24_5 : Bool), v24 = .bool x24_5 ∧ Aside0 (spilelaw03_UnitTexts.j0 kq a1 a2 x24_5 a0_0 a0_1 = some r) ∧ Aside0 (kq ≤ k) ∧ Aside0 (wc.heap[gb202]? = some (.cells #[.int .i64 a0_0, .int .i64 a0_1] 23 (0, 0))) ∧ Aside0 (Below w.heap.size w wc))
  case first =>
   have H := HC6.out
   clear HC6
   by_cases c9 : (a1.size : Int) > 100
   ·
    rw [if_pos c9] at H
    have c9b0 : decide (100 < (a1.size : Int)) = true := decide_eq_true c9
    have c9b1 : decide (100 < a1.size) = true := decide_eq_true (by omega)
    clear c9
    (first | rw [c9b0] | (simp only [i64_w, i32_w]; rw [c9b0]) | skip)
    have H' := Aside0.mk H
    clear H
    go_wp2
    go_meet
    case rel => exact ⟨_, (true), (by first | rfl | (simp; done) | (simp [*]; done)), H', ⟨by first | omega | exact Nat.le_refl _⟩, ⟨by (with_reducible repeat (first | refine blk_drewN ?_ _ | refine blk_drew ?_ | refine blk_alloc ?_ _)); exact BK202.out⟩, ⟨by repeat (first | (with_reducible first | exact HB.out | apply below_alloc | apply pw_below_drewN | apply below_drew1 | refine below_set ?_ GE202.out) | exact HB.out)⟩⟩
   ·
    rw [if_neg c9] at H
    have c9b0 : decide (100 < (a1.size : Int)) = false := decide_eq_false c9
    have c9b1 : decide (100 < a1.size) = false := decide_eq_false (by omega)
    clear c9
    (first | rw [c9b0] | (simp only [i64_w, i32_w]; rw [c9b0]) | skip)
    have H' := Aside0.mk H
    clear H
    go_wp2
    go_meet
    case rel => exact ⟨_, (decide ((a2.size : Int) > 100)), (by first | rfl | (simp; done) | (simp [*]; done)), H', ⟨by first | omega | exact Nat.le_refl _⟩, ⟨by (with_reducible repeat (first | refine blk_drewN ?_ _ | refine blk_drew ?_ | refine blk_alloc ?_ _)); exact BK202.out⟩, ⟨by repeat (first | (with_reducible first | exact HB.out | apply below_alloc | apply pw_below_drewN | apply below_drew1 | refine below_set ?_ GE202.out) | exact HB.out)⟩⟩
  case rest =>
   clear HC6
   try clear p2
   try clear c3
   try clear c4
   try clear c5
   try clear c9
   try clear c9b0
   try clear c9b1
   obtain ⟨kq, x24_5, rfl, HA, HJ5, BK202, HB⟩ := hcut
   cases kq with
   | zero => exact absurd HA.out (by simp [spilelaw03_UnitTexts.j0])
   | succ kj5 =>
    have H := HA.out
    clear HA
    simp only [spilelaw03_UnitTexts.j0] at H
    by_cases c10 : x24_5 = true
    ·
     subst c10
     have H1 : (some true) = some r := by rw [if_pos rfl] at H; exact H
     clear H
     have H := H1
     clear H1
     obtain rfl := Option.some.inj H
     go_wp2
     go_ret
     exact ⟨by first | rfl | (simp [errW_none, errW_some] <;> rfl) | (simp [*, errW_none, errW_some] <;> rfl), by repeat (first | (with_reducible first | exact HB.out | apply below_alloc | apply pw_below_drewN | apply below_drew1 | refine below_set ?_ GE202.out) | exact HB.out)⟩
    ·
     replace c10 := Bool.eq_false_iff.mpr c10
     subst c10
     have H1 : ((unit_Print.f kj5 a0_0 a0_1 a1).bind fun bt204 => ((spileref03_Print.f kj5 a0_0 a0_1 a1).bind fun bt206 => ((unit_Parse.f kj5 a2).bind fun bt208 => ((spileref03_Parse.f kj5 a2).bind fun bt212 => (if bt204.1.toList = bt206.1.toList then (if bt204.2 = bt206.2 then (if (bt208.1 == bt212.1 && (bt208.2.1 == bt212.2.1)) = true then (some (bt208.2.2 == bt212.2.2)) else (some false)) else (some false)) else (some false)))))) = some r := by rw [if_neg (show ¬ (false = true) by decide)] at H; exact H
     clear H
     have H := H1
     clear H1
     replace H := Option.bind_eq_some_iff.mp H
     obtain ⟨⟨t204, t205⟩, A110, H⟩ := H
     replace H : ((spileref03_Print.f kj5 a0_0 a0_1 a1).bind fun bt206 => ((unit_Parse.f kj5 a2).bind fun bt208 => ((spileref03_Parse.f kj5 a2).bind fun bt212 => (if t204.toList = bt206.1.toList then (if t205 = bt206.2 then (if (bt208.1 == bt212.1 && (bt208.2.1 == bt212.2.1)) = true then (some (bt208.2.2 == bt212.2.2)) else (some false)) else (some false)) else (some false))))) = some r := H
     have A11 := Aside0.mk A110
     clear A110
     replace H := Option.bind_eq_some_iff.mp H
     obtain ⟨⟨t206, t207⟩, A120, H⟩ := H
     replace H : ((unit_Parse.f kj5 a2).bind fun bt208 => ((spileref03_Parse.f kj5 a2).bind fun bt212 => (if t204.toList = t206.toList then (if t205 = t207 then (if (bt208.1 == bt212.1 && (bt208.2.1 == bt212.2.1)) = true then (some (bt208.2.2 == bt212.2.2)) else (some false)) else (some false)) else (some false)))) = some r := H
     have A12 := Aside0.mk A120
     clear A120
     replace H := Option.bind_eq_some_iff.mp H
     obtain ⟨⟨t208, t209, t210⟩, A130, H⟩ := H
     replace H : ((spileref03_Parse.f kj5 a2).bind fun bt212 => (if t204.toList = t206.toList then (if t205 = t207 then (if (t208 == bt212.1 && (t209 == bt212.2.1)) = true then (some (t210 == bt212.2.2)) else (some false)) else (some false)) else (some false))) = some r := H
     have A13 := Aside0.mk A130
     clear A130
     replace H := Option.bind_eq_some_iff.mp H
     obtain ⟨⟨t212, t213, t214⟩, A140, H⟩ := H
     replace H : (if t204.toList = t206.toList then (if t205 = t207 then (if (t208 == t212 && (t209 == t213)) = true then (some (t210 == t214)) else (some false)) else (some false)) else (some false)) = some r := H
     have A14 := Aside0.mk A140
     clear A140
     by_cases c15 : t204.toList = t206.toList
     ·
      rw [if_pos c15] at H
      have c15b0 : (t204.toList == t206.toList) = true := beq_iff_eq.mpr c15
      have c15b1 : (t204.toList != t206.toList) = false := bne_eq_false_iff_eq.mpr c15
      clear c15
      by_cases c16 : t205 = t207
      ·
       rw [if_pos c16] at H
       have c16b0 : (t205 == t207) = true := beq_iff_eq.mpr c16
       have c16b1 : (t205 != t207) = false := bne_eq_false_iff_eq.mpr c16
       clear c16
       by_cases c17 : (t208 == t212 && (t209 == t213)) = true
       ·
        rw [if_pos c17] at H
        have c17b0 : (t208 == t212 && (t209 == t213)) = true := c17
        (try (have c17b1 : decide (t208 = t212 && (t209 == t213)) = true := by simpa using c17))
        (try (have c17b2 : (t208 == t212 && (t209 == t213)) = true := by simpa using c17))
        clear c17
        obtain rfl := Option.some.inj H
        have hcz18_0 : wc.cell? ⟨gb202, 0, none⟩ = some (.int .i64 a0_0) := (blk_cell BK202.out 0).trans rfl
        have hcz18_1 : wc.cell? ⟨gb202, 1, none⟩ = some (.int .i64 a0_1) := (blk_cell BK202.out 1).trans rfl
        have hfz18_0 := blk_frozen BK202.out 0
        have hfz18_1 := blk_frozen BK202.out 1
        go_wp2_with (first | ((with_reducible refine gate_callee (f := 5) rfl ?_); refine goesL_ (some 28) rfl rfl Tryz.func5 (by kernel_rfl) rfl #[.agg #[.int .i64 a0_0, .int .i64 a0_1], .string a1] rfl (by (try simp only [List.map_toArray, List.map_cons, List.map_nil]); first | done | rfl | (simp only [List.length_drop, List.length_take]; rfl)) ?_; (with_reducible refine (unit_Print.calls kj5 a0_0 a0_1 a1 t204 t205 _ ?side1 A11.out).mono ?_); (case side1 => exact GI.below HG.out (by repeat (first | (with_reducible first | exact HB.out | apply below_alloc | apply pw_below_drewN | apply below_drew1 | refine below_set ?_ GE202.out) | exact HB.out))); rintro e w19 ⟨rfl, hb⟩; refine ⟨_, rfl, ?_⟩; have n0_ := Aside0.mk (blk_below (g := gb202) (o := .cells #[.int .i64 a0_0, .int .i64 a0_1] 23 (0, 0)) (by (with_reducible repeat (first | refine blk_drewN ?_ _ | refine blk_drew ?_ | refine blk_alloc ?_ _)); exact BK202.out) hb); have n1_ := Aside0.mk (below_step (by repeat (first | (with_reducible first | exact HB.out | apply below_alloc | apply pw_below_drewN | apply below_drew1 | refine below_set ?_ GE202.out) | exact HB.out)) hb); clear BK202; clear HB; have BK202 := n0_; have HB := n1_; clear n0_ n1_; (try clear hb); (try clear hb2); (try clear hk); (try clear hi); have hcz20_0 : w19.cell? ⟨gb202, 0, none⟩ = some (.int .i64 a0_0) := (blk_cell BK202.out 0).trans rfl; have hcz20_1 : w19.cell? ⟨gb202, 1, none⟩ = some (.int .i64 a0_1) := (blk_cell BK202.out 1).trans rfl; have hfz20_0 := blk_frozen BK202.out 0; have hfz20_1 := blk_frozen BK202.out 1) | ((with_reducible refine gate_callee (f := 6) rfl ?_); refine goesL_ (some 34) rfl rfl Tryz.func6 (by kernel_rfl) rfl #[.agg #[.int .i64 a0_0, .int .i64 a0_1], .string a1] rfl (by (try simp only [List.map_toArray, List.map_cons, List.map_nil]); first | done | rfl | (simp only [List.length_drop, List.length_take]; rfl)) ?_; (with_reducible refine (spileref03_Print.calls kj5 a0_0 a0_1 a1 t206 t207 _ ?side1 A12.out).mono ?_); (case side1 => exact GI.below HG.out (by repeat (first | (with_reducible first | exact HB.out | apply below_alloc | apply pw_below_drewN | apply below_drew1 | refine below_set ?_ GE202.out) | exact HB.out))); rintro e w21 ⟨rfl, hb⟩; refine ⟨_, rfl, ?_⟩; have n0_ := Aside0.mk (blk_below (g := gb202) (o := .cells #[.int .i64 a0_0, .int .i64 a0_1] 23 (0, 0)) (by (with_reducible repeat (first | refine blk_drewN ?_ _ | refine blk_drew ?_ | refine blk_alloc ?_ _)); exact BK202.out) hb); have n1_ := Aside0.mk (below_step (by repeat (first | (with_reducible first | exact HB.out | apply below_alloc | apply pw_below_drewN | apply below_drew1 | refine below_set ?_ GE202.out) | exact HB.out)) hb); clear BK202; clear HB; have BK202 := n0_; have HB := n1_; clear n0_ n1_; (try clear hb); (try clear hb2); (try clear hk); (try clear hi)) | ((with_reducible refine gate_callee (f := 7) rfl ?_); refine goesL_ (some 39) rfl rfl Tryz.func7 (by kernel_rfl) rfl #[.string a2] rfl (by (try simp only [List.map_toArray, List.map_cons, List.map_nil]); first | done | rfl | (simp only [List.length_drop, List.length_take]; rfl)) ?_; (with_reducible refine (unit_Parse.calls kj5 a2 t208 t209 t210 _ ?side1 A13.out).mono ?_); (case side1 => exact GI.below HG.out (by repeat (first | (with_reducible first | exact HB.out | apply below_alloc | apply pw_below_drewN | apply below_drew1 | refine below_set ?_ GE202.out) | exact HB.out))); rintro e w22 ⟨rfl, hb⟩; refine ⟨_, rfl, ?_⟩; have n0_ := Aside0.mk (blk_below (g := gb202) (o := .cells #[.int .i64 a0_0, .int .i64 a0_1] 23 (0, 0)) (by (with_reducible repeat (first | refine blk_drewN ?_ _ | refine blk_drew ?_ | refine blk_alloc ?_ _)); exact BK202.out) hb); have n1_ := Aside0.mk (below_step (by repeat (first | (with_reducible first | exact HB.out | apply below_alloc | apply pw_below_drewN | apply below_drew1 | refine below_set ?_ GE202.out) | exact HB.out)) hb); clear BK202; clear HB; have BK202 := n0_; have HB := n1_; clear n0_ n1_; (try clear hb); (try clear hb2); (try clear hk); (try clear hi)) | ((with_reducible refine gate_dst (N := 11) rfl ?_); (try (refine gate_guard (by rfl) ?_; dsimp only)); refine box_event ?hg (N := 11) ?hd (cs := #[.int .i64 0, .int .i64 0]) (t := 23) ?hr ?_; (case hd => rfl); (case hg => rfl); (case hr => first | (go_simp; done) | (go_simp; rfl)); intro gb211 hg w23 hbox hb; have n0_ := Aside0.mk (blk_below (g := gb202) (o := .cells #[.int .i64 a0_0, .int .i64 a0_1] 23 (0, 0)) (by (with_reducible repeat (first | refine blk_drewN ?_ _ | refine blk_drew ?_ | refine blk_alloc ?_ _)); exact BK202.out) hb); have n1_ := Aside0.mk (below_step (by repeat (first | (with_reducible first | exact HB.out | apply below_alloc | apply pw_below_drewN | apply below_drew1 | refine below_set ?_ GE202.out) | exact HB.out)) hb); have n2_ := Aside0.mk (hbox); have n3_ := Aside0.mk ((by rw [hg]; exact (below_size (by repeat (first | (with_reducible first | exact HB.out | apply below_alloc | apply pw_below_drewN | apply below_drew1 | refine below_set ?_ GE202.out) | exact HB.out))) : w.heap.size ≤ gb211)); have n4_ := Aside0.mk ((by rw [hg]; exact (below_size (by repeat (first | (with_reducible first | exact HB.out | apply below_alloc | apply pw_below_drewN | apply below_drew1 | refine below_set ?_ GE202.out) | exact HB.out))) : w.heap.size ≤ gb211)); have n5_ := Aside0.mk ((by rw [hg]; exact Nat.ne_of_lt (blk_lt (g := gb202) (o := .cells #[.int .i64 a0_0, .int .i64 a0_1] 23 (0, 0)) (by (with_reducible repeat (first | refine blk_drewN ?_ _ | refine blk_drew ?_ | refine blk_alloc ?_ _)); exact BK202.out)) : gb202 ≠ gb211)); have n6_ := Aside0.mk ((by rw [hg]; exact Nat.ne_of_gt (blk_lt (g := gb202) (o := .cells #[.int .i64 a0_0, .int .i64 a0_1] 23 (0, 0)) (by (with_reducible repeat (first | refine blk_drewN ?_ _ | refine blk_drew ?_ | refine blk_alloc ?_ _)); exact BK202.out)) : gb211 ≠ gb202)); clear BK202; clear HB; have BK202 := n0_; have HB := n1_; have BK211 := n2_; have GW211 := n3_; have GE211 := n4_; have NB202_211 := n5_; have NB211_202 := n6_; clear n0_ n1_ n2_ n3_ n4_ n5_ n6_; clear hb hbox hg; have hnb24 := NB211_202.out; have hnc24 := NB202_211.out; have hcz25_0 : w23.cell? ⟨gb211, 0, none⟩ = some (.int .i64 0) := (blk_cell BK211.out 0).trans rfl; have hcz25_1 : w23.cell? ⟨gb211, 1, none⟩ = some (.int .i64 0) := (blk_cell BK211.out 1).trans rfl; have hfz25_0 := blk_frozen BK211.out 0; have hfz25_1 := blk_frozen BK211.out 1) | ((with_reducible refine gate_callee (f := 8) rfl ?_); refine goesL_ (some 44) rfl rfl Tryz.func8 (by kernel_rfl) rfl #[.string a2] rfl (by (try simp only [List.map_toArray, List.map_cons, List.map_nil]); first | done | rfl | (simp only [List.length_drop, List.length_take]; rfl)) ?_; (with_reducible refine (spileref03_Parse.calls kj5 a2 t212 t213 t214 _ A14.out).mono ?_); rintro e w26 ⟨rfl, hb⟩; refine ⟨_, rfl, ?_⟩; have n0_ := Aside0.mk (blk_below (g := gb202) (o := .cells #[.int .i64 a0_0, .int .i64 a0_1] 23 (0, 0)) (by (with_reducible repeat (first | refine blk_drewN ?_ _ | refine blk_drew ?_ | refine blk_alloc ?_ _)); refine blk_far ?_ NB202_211.out _; (with_reducible repeat (first | refine blk_drewN ?_ _ | refine blk_drew ?_ | refine blk_alloc ?_ _)); refine blk_far ?_ NB202_211.out _; (with_reducible repeat (first | refine blk_drewN ?_ _ | refine blk_drew ?_ | refine blk_alloc ?_ _)); exact BK202.out) hb); have n1_ := Aside0.mk (blk_below (g := gb211) (o := .cells #[.int .i64 t208, .int .i64 t209] 23 (0, 0)) (by (with_reducible repeat (first | refine blk_drewN ?_ _ | refine blk_drew ?_ | refine blk_alloc ?_ _)); refine blk_put (cs := #[.int .i64 t208, .int .i64 0]) ?_ 1 _ rfl; (with_reducible repeat (first | refine blk_drewN ?_ _ | refine blk_drew ?_ | refine blk_alloc ?_ _)); refine blk_put (cs := #[.int .i64 0, .int .i64 0]) ?_ 0 _ rfl; (with_reducible repeat (first | refine blk_drewN ?_ _ | refine blk_drew ?_ | refine blk_alloc ?_ _)); exact BK211.out) hb); have n2_ := Aside0.mk (below_step (by repeat (first | (with_reducible first | exact HB.out | apply below_alloc | apply pw_below_drewN | apply below_drew1 | refine below_set ?_ GE202.out | refine below_set ?_ GE211.out) | exact HB.out)) hb); clear BK202; clear BK211; clear HB; have BK202 := n0_; have BK211 := n1_; have HB := n2_; clear n0_ n1_ n2_; (try clear hb); (try clear hb2); (try clear hk); (try clear hi)) | ((with_reducible refine gate_dst (N := 13) rfl ?_); (try (refine gate_guard (by rfl) ?_; dsimp only)); refine box_event ?hg (N := 13) ?hd (cs := #[.int .i64 0, .int .i64 0]) (t := 23) ?hr ?_; (case hd => rfl); (case hg => rfl); (case hr => first | (go_simp; done) | (go_simp; rfl)); intro gb215 hg w27 hbox hb; have n0_ := Aside0.mk (blk_below (g := gb202) (o := .cells #[.int .i64 a0_0, .int .i64 a0_1] 23 (0, 0)) (by (with_reducible repeat (first | refine blk_drewN ?_ _ | refine blk_drew ?_ | refine blk_alloc ?_ _)); exact BK202.out) hb); have n1_ := Aside0.mk (blk_below (g := gb211) (o := .cells #[.int .i64 t208, .int .i64 t209] 23 (0, 0)) (by (with_reducible repeat (first | refine blk_drewN ?_ _ | refine blk_drew ?_ | refine blk_alloc ?_ _)); exact BK211.out) hb); have n2_ := Aside0.mk (below_step (by repeat (first | (with_reducible first | exact HB.out | apply below_alloc | apply pw_below_drewN | apply below_drew1 | refine below_set ?_ GE202.out | refine below_set ?_ GE211.out) | exact HB.out)) hb); have n3_ := Aside0.mk (hbox); have n4_ := Aside0.mk ((by rw [hg]; exact (below_size (by repeat (first | (with_reducible first | exact HB.out | apply below_alloc | apply pw_below_drewN | apply below_drew1 | refine below_set ?_ GE202.out | refine below_set ?_ GE211.out) | exact HB.out))) : w.heap.size ≤ gb215)); have n5_ := Aside0.mk ((by rw [hg]; exact (below_size (by repeat (first | (with_reducible first | exact HB.out | apply below_alloc | apply pw_below_drewN | apply below_drew1 | refine below_set ?_ GE202.out | refine below_set ?_ GE211.out) | exact HB.out))) : w.heap.size ≤ gb215)); have n6_ := Aside0.mk ((by rw [hg]; exact Nat.ne_of_lt (blk_lt (g := gb202) (o := .cells #[.int .i64 a0_0, .int .i64 a0_1] 23 (0, 0)) (by (with_reducible repeat (first | refine blk_drewN ?_ _ | refine blk_drew ?_ | refine blk_alloc ?_ _)); exact BK202.out)) : gb202 ≠ gb215)); have n7_ := Aside0.mk ((by rw [hg]; exact Nat.ne_of_gt (blk_lt (g := gb202) (o := .cells #[.int .i64 a0_0, .int .i64 a0_1] 23 (0, 0)) (by (with_reducible repeat (first | refine blk_drewN ?_ _ | refine blk_drew ?_ | refine blk_alloc ?_ _)); exact BK202.out)) : gb215 ≠ gb202)); have n8_ := Aside0.mk ((by rw [hg]; exact Nat.ne_of_lt (blk_lt (g := gb211) (o := .cells #[.int .i64 t208, .int .i64 t209] 23 (0, 0)) (by (with_reducible repeat (first | refine blk_drewN ?_ _ | refine blk_drew ?_ | refine blk_alloc ?_ _)); exact BK211.out)) : gb211 ≠ gb215)); have n9_ := Aside0.mk ((by rw [hg]; exact Nat.ne_of_gt (blk_lt (g := gb211) (o := .cells #[.int .i64 t208, .int .i64 t209] 23 (0, 0)) (by (with_reducible repeat (first | refine blk_drewN ?_ _ | refine blk_drew ?_ | refine blk_alloc ?_ _)); exact BK211.out)) : gb215 ≠ gb211)); clear BK202; clear BK211; clear HB; have BK202 := n0_; have BK211 := n1_; have HB := n2_; have BK215 := n3_; have GW215 := n4_; have GE215 := n5_; have NB202_215 := n6_; have NB215_202 := n7_; have NB211_215 := n8_; have NB215_211 := n9_; clear n0_ n1_ n2_ n3_ n4_ n5_ n6_ n7_ n8_ n9_; clear hb hbox hg; have hnb28 := NB215_202.out; have hnc28 := NB202_215.out; have hnb29 := NB215_211.out; have hnc29 := NB211_215.out; have hcz30_0 : w27.cell? ⟨gb215, 0, none⟩ = some (.int .i64 0) := (blk_cell BK215.out 0).trans rfl; have hcz30_1 : w27.cell? ⟨gb215, 1, none⟩ = some (.int .i64 0) := (blk_cell BK215.out 1).trans rfl; have hfz30_0 := blk_frozen BK215.out 0; have hfz30_1 := blk_frozen BK215.out 1; have hcz31_0 : w27.cell? ⟨gb211, 0, none⟩ = some (.int .i64 t208) := (blk_cell BK211.out 0).trans rfl; have hcz31_1 : w27.cell? ⟨gb211, 1, none⟩ = some (.int .i64 t209) := (blk_cell BK211.out 1).trans rfl; have hfz31_0 := blk_frozen BK211.out 0; have hfz31_1 := blk_frozen BK211.out 1))
        go_ret
        exact ⟨by first | rfl | (simp [errW_none, errW_some] <;> rfl) | (simp [*, errW_none, errW_some] <;> rfl), by repeat (first | (with_reducible first | exact HB.out | apply below_alloc | apply pw_below_drewN | apply below_drew1 | refine below_set ?_ GE202.out | refine below_set ?_ GE211.out | refine below_set ?_ GE215.out) | exact HB.out)⟩
       ·
        rw [if_neg c17] at H
        have c17b0 : (t208 == t212 && (t209 == t213)) = false := by simpa using c17
        (try (have c17b1 : decide (t208 = t212 && (t209 == t213)) = false := by simpa using c17))
        (try (have c17b2 : (t208 == t212 && (t209 == t213)) = false := by simpa using c17))
        (try (have c17b3 : ¬ (t208 = t212 && (t209 == t213)) := by simpa using c17))
        clear c17
        subst hr_
        exact absurd H (by simp)
      ·
       rw [if_neg c16] at H
       have c16b0 : (t205 == t207) = false := beq_eq_false_iff_ne.mpr c16
       have c16b1 : (t205 != t207) = true := bne_iff_ne.mpr c16
       subst hr_
       exact absurd H (by simp)
     ·
      rw [if_neg c15] at H
      have c15b0 : (t204.toList == t206.toList) = false := beq_eq_false_iff_ne.mpr c15
      have c15b1 : (t204.toList != t206.toList) = true := bne_iff_ne.mpr c15
      subst hr_
      exact absurd H (by simp)
 ·
  replace c5 := Bool.eq_false_iff.mpr c5
  subst c5
  have H1 : (some false) = some r := by rw [if_neg (show ¬ (false = true) by decide)] at H; exact H
  clear H
  have H := H1
  clear H1
  subst hr_
  exact absurd H (by simp)
end Go.Proofs.YtmjglehdckgcnaaGreatDoor.Pr
namespace Go.Proofs.YtmjglehdckgcnaaGreatDoor.Opn
open Go Go.RowKit Go.Proofs.YtmjglehdckgcnaaGreatDoorW.PrintWords Go.Proofs.YtmjglehdckgcnaaGreatDoor.O Go.Proofs.YtmjglehdckgcnaaGreatDoor.Pr
theorem opens3 : Opens Tryz.prog 3 (Kd.int .i64) (fun x => (Lit.int .i64 x).wf = true) := opens_int Tryz.underlying3 (by kernel_rfl)
def ok23 (x : S23) : Prop := (Lit.int .i64 x.f0).wf = true ∧ (Lit.int .i64 x.f1).wf = true
theorem opens23 : Opens Tryz.prog 23 k23 ok23 :=
  ⟨by kernel_rfl, fun H enc w base sp held fuel cs x h => by
    obtain ⟨xs, n, _, _, hl, hx, hf⟩ := DataW.trod_struct Tryz.underlying23 h
    have hc_ : Tryz.prog.cellsOf 23 = 2 := by kernel_rfl
    rw [hc_] at hl
    obtain ⟨c0, c1, rfl⟩ : ∃ c0 c1, cs = [c0, c1] := by
      clear h hf hx
      rcases cs with _ | ⟨c0, _ | ⟨c1, _ | ⟨_, _⟩⟩⟩
      all_goals first | exact ⟨_, _, rfl⟩ | (simp at hl)
    obtain ⟨y0, hy0⟩ : ∃ y, xs[0]? = some y := ⟨xs[0]'(by rw [hx]; decide), List.getElem?_eq_getElem _⟩
    have e0 : DataW.trod enc Tryz.prog w base sp held n 3 ((List.drop 0 [c0, c1]).take (Tryz.prog.cellsOf 3)) = xs[0]? := hf 0 _ rfl
    rw [hy0, show Tryz.prog.cellsOf 3 = 1 from by kernel_rfl] at e0
    obtain ⟨v0, K0, o0⟩ := opens3.2 H enc w base sp held n _ _ e0
    replace K0 : (Kd.int .i64).K w v0 [c0] := K0
    obtain ⟨y1, hy1⟩ : ∃ y, xs[1]? = some y := ⟨xs[1]'(by rw [hx]; decide), List.getElem?_eq_getElem _⟩
    have e1 : DataW.trod enc Tryz.prog w base sp held n 3 ((List.drop 1 [c0, c1]).take (Tryz.prog.cellsOf 3)) = xs[1]? := hf 1 _ rfl
    rw [hy1, show Tryz.prog.cellsOf 3 = 1 from by kernel_rfl] at e1
    obtain ⟨v1, K1, o1⟩ := opens3.2 H enc w base sp held n _ _ e1
    replace K1 : (Kd.int .i64).K w v1 [c1] := K1
    obtain rfl : c0 = _ := List.singleton_inj.1 K0
    obtain rfl : c1 = _ := List.singleton_inj.1 K1
    refine ⟨⟨v0, v1⟩, ?_, o0, o1⟩
    exact k23_mk w ⟨v0, v1⟩ ⟩
end Go.Proofs.YtmjglehdckgcnaaGreatDoor.Opn
namespace Go.Proofs.YtmjglehdckgcnaaGreatDoor.Pure
open Go Go.RowKit Go.Proofs.YtmjglehdckgcnaaGreatDoor.Pr Go.Proofs.YtmjglehdckgcnaaGreatDoor.Opn
def unitTextsPure : Prop := ∀ (a0_0 : Int) (a0_1 : Int) (a1 : ByteArray) (a2 : ByteArray), (Lit.int .i64 a0_0).wf = true → (Lit.int .i64 a0_1).wf = true → a1.size ≤ maxLen → a2.size ≤ maxLen → ∃ k, spilelaw03_UnitTexts.f k a0_0 a0_1 a1 a2 = some true
end Go.Proofs.YtmjglehdckgcnaaGreatDoor.Pure
namespace Go.Proofs.YtmjglehdckgcnaaGreatDoor.Pr
open Go Go.RowKit Go.Lib Go.Proofs.YtmjglehdckgcnaaGreatDoorW.PrintWords Go.Proofs.YtmjglehdckgcnaaGreatDoorW.PrintLast Go.Proofs.YtmjglehdckgcnaaGreatDoorW.PrintMore Go.Proofs.YtmjglehdckgcnaaGreatDoor.X Go.Proofs.YtmjglehdckgcnaaGreatDoor.TX Go.Proofs.YtmjglehdckgcnaaGreatDoor.PL Go.Proofs.YtmjglehdckgcnaaGreatDoor.SQ
theorem in_eq {K : Int} (a : Int) (h : 1 ≤ K ∧ K ≤ 7) : spileref03_in.f K a = some (decide (lowK K ≤ a ∧ a ≤ highK K)) := by
  have g : ∀ (c : Prop) [Decidable c] (m : Int), (if c then some (decide (a ≤ m)) else some false : Option Bool) = some (decide (c ∧ a ≤ m)) := by
    intro c _ m
    by_cases q : c
    · rw [if_pos q]; simp [q]
    · rw [if_neg q]; simp [q]
  rcases seven h with rfl | rfl | rfl | rfl | rfl | rfl | rfl
  · have e : spileref03_in.f 1 a = if a ≥ 0 then some (decide (a ≤ 1073741824)) else some false := by kernel_rfl
    exact (e.trans (g (a ≥ 0) 1073741824)).trans rfl
  · have e : spileref03_in.f 2 a = if a ≥ 0 then some (decide (a ≤ 10000)) else some false := by kernel_rfl
    exact (e.trans (g (a ≥ 0) 10000)).trans rfl
  · have e : spileref03_in.f 3 a = if a ≥ 0 then some (decide (a ≤ 10737418240000)) else some false := by kernel_rfl
    exact (e.trans (g (a ≥ 0) 10737418240000)).trans rfl
  · have e : spileref03_in.f 4 a = if a ≥ 0 then some (decide (a ≤ 128849018880000)) else some false := by kernel_rfl
    exact (e.trans (g (a ≥ 0) 128849018880000)).trans rfl
  · have e : spileref03_in.f 5 a = if a ≥ (-400) then some (decide (a ≤ 600)) else some false := by kernel_rfl
    exact (e.trans (g (a ≥ (-400)) 600)).trans rfl
  · have e : spileref03_in.f 6 a = if a ≥ 0 then some (decide (a ≤ 100000)) else some false := by kernel_rfl
    exact (e.trans (g (a ≥ 0) 100000)).trans rfl
  · have e : spileref03_in.f 7 a = if a ≥ 0 then some (decide (a ≤ 1125899906842624)) else some false := by kernel_rfl
    exact (e.trans (g (a ≥ 0) 1125899906842624)).trans rfl
theorem rcheck_ev (K a : Int) : Ev (fun k => spileref03_Check.f k K a) (errQ (K, a)) := by
  unfold spileref03_Check.f
  by_cases h1 : K < 1
  · refine evp h1 ?_
    refine Ev.step (fun k => spileref03_Check.j0.eq_2 ..) ?_
    refine evp rfl (evr ?_)
    unfold errQ
    rw [if_pos (Or.inl h1)]
  · refine evn h1 ?_
    refine Ev.step (fun k => spileref03_Check.j0.eq_2 ..) ?_
    by_cases h7 : K > 7
    · refine evp (decide_eq_true h7) (evr ?_)
      unfold errQ
      rw [if_pos (Or.inr h7)]
    · refine evn (by simpa using h7) ?_
      refine evb (evc (fun _ => in_eq a ⟨by omega, by omega⟩) rfl) ?_
      have e : errQ (K, a) = if a < lowK K ∨ highK K < a then 2 else 0 := by
        unfold errQ
        exact if_neg (by show ¬ (K < 1 ∨ 7 < K); omega)
      rw [e]
      by_cases c1 : lowK K ≤ a ∧ a ≤ highK K
      · exact evp (decide_eq_true c1) (evr (if_neg (by omega)).symm)
      · exact evn (by simpa using c1) (evr (if_pos (by omega)).symm)
def bs (e : List UInt8 × (Int × Int)) : ByteArray := ⟨e.1.toArray⟩
theorem names_eq {K : Int} (h : 1 ≤ K ∧ K ≤ 7) : spileref03_names.f K = some ((kindL K).map bs) := by
  rcases seven h with rfl | rfl | rfl | rfl | rfl | rfl | rfl <;> kernel_rfl
theorem factors_eq {K : Int} (h : 1 ≤ K ∧ K ≤ 7) : spileref03_factors.f K = some ((kindL K).map fun e => pw e.2.2) := by
  rcases seven h with rfl | rfl | rfl | rfl | rfl | rfl | rfl <;> kernel_rfl
theorem kind_len (K : Int) : (kindL K).length ≤ 15 := List.length_filter_le _ _
theorem bs_at {L : List (List UInt8 × (Int × Int))} {i : Nat} (h : i < L.length) : rdOf ByteArray.empty (L.map bs) (i : Int) = bs L[i] := by
  unfold rdOf
  rw [Int.toNat_natCast, List.getD_eq_getElem?_getD, List.getElem?_eq_getElem (by rw [List.length_map]; exact h), List.getElem_map]
  rfl
theorem pw_at {L : List (List UInt8 × (Int × Int))} {i : Nat} (h : i < L.length) : rd (L.map fun e => pw e.2.2) (i : Int) = pw L[i].2.2 := by
  unfold rd
  rw [Int.toNat_natCast, List.getD_eq_getElem?_getD, List.getElem?_eq_getElem (by rw [List.length_map]; exact h), List.getElem_map]
  rfl
theorem bs_eq {e : List UInt8 × (Int × Int)} {s : ByteArray} : (bs e).toList = s.toList ↔ e.1 = s.data.toList := by
  rw [ByteArray.toList_eq, ByteArray.toList_eq]
  exact Iff.rfl
theorem kind_unit {K : Int} (hK : 1 ≤ K ∧ K ≤ 7) : ∀ e, e ∈ kindL K → unitAt e.1 = some (K, e.2.2) := by
  have hmem : K ∈ ([1, 2, 3, 4, 5, 6, 7] : List Int) := by
    obtain ⟨h1, h2⟩ := hK
    simp only [List.mem_cons, List.not_mem_nil, or_false]
    omega
  exact (kind_at K hmem).1
theorem l1_hit {K z : Int} (hK : 1 ≤ K ∧ K ≤ 7) {s : ByteArray} (hu : unitAt s.data.toList = some (K, z)) : ∀ (d i : Nat), i + d = (kindL K).length → (s.data.toList, (K, z)) ∈ (kindL K).drop i → Ev (fun k => spileref03_Unit.l1 k s K ((kindL K).map bs) (i : Int)) (K, pw z, 0)
  | 0, i, hi, hm => by
    rw [List.drop_of_length_le (by omega)] at hm
    cases hm
  | d + 1, i, hi, hm => by
    have hl := kind_len K
    have hil : i < (kindL K).length := by omega
    have h := kind_unit hK _ (List.getElem_mem hil)
    refine Ev.step (fun k => spileref03_Unit.l1.eq_2 ..) ?_
    refine evp (by rw [List.length_map]; omega) (evp (by omega) ?_)
    rw [bs_at hil]
    by_cases c : (kindL K)[i].1 = s.data.toList
    · refine evp (bs_eq.2 c) ?_
      refine evb (evc (fun _ => factors_eq hK) rfl) ?_
      refine evp (by rw [List.length_map]; omega) (evr ?_)
      rw [pw_at hil]
      rw [c, hu] at h
      rw [← congrArg Prod.snd (Option.some.inj h)]
    · refine evn (fun q => c (bs_eq.1 q)) ?_
      rw [w64 (by omega) (by omega), show ((i : Int) + 1) = ((i + 1 : Nat) : Int) by omega]
      refine l1_hit hK hu d (i + 1) (by omega) ?_
      rw [List.drop_eq_getElem_cons hil] at hm
      rcases List.mem_cons.1 hm with q | q
      · exact absurd (by rw [← q]) c
      · exact q
theorem l1_miss {K : Int} {r : Int × Int × Int} (hK : 1 ≤ K ∧ K ≤ 7) {s : ByteArray} (hu : ∀ z, unitAt s.data.toList ≠ some (K, z)) (hr : Ev (fun k => spileref03_Unit.l0 k s (K + 1)) r) : ∀ (d i : Nat), i + d = (kindL K).length → Ev (fun k => spileref03_Unit.l1 k s K ((kindL K).map bs) (i : Int)) r
  | 0, i, hi => by
    refine Ev.step (fun k => spileref03_Unit.l1.eq_2 ..) ?_
    refine evn (by rw [List.length_map]; omega) ?_
    rw [w64 (by omega) (by omega)]
    exact hr
  | d + 1, i, hi => by
    have hl := kind_len K
    have hil : i < (kindL K).length := by omega
    have h := kind_unit hK _ (List.getElem_mem hil)
    refine Ev.step (fun k => spileref03_Unit.l1.eq_2 ..) ?_
    refine evp (by rw [List.length_map]; omega) (evp (by omega) ?_)
    rw [bs_at hil]
    refine evn (fun q => hu _ (by rw [← bs_eq.1 q]; exact h)) ?_
    rw [w64 (by omega) (by omega), show ((i : Int) + 1) = ((i + 1 : Nat) : Int) by omega]
    exact l1_miss hK hu hr d (i + 1) (by omega)
theorem runit_from (s : ByteArray) : ∀ (d : Nat) (K : Int), 1 ≤ K → K + d = 8 → (∀ p, unitAt s.data.toList = some p → K ≤ p.1) → Ev (fun k => spileref03_Unit.l0 k s K) (unitR s)
  | 0, K, h1, hd, hp => by
    refine Ev.step (fun k => spileref03_Unit.l0.eq_2 ..) ?_
    refine evn (by omega) (evr ?_)
    unfold unitR
    cases hu : unitAt s.data.toList with
    | none => rfl
    | some p =>
      have := hp p hu
      have := (unit_small hu).1.2
      omega
  | d + 1, K, h1, hd, hp => by
    have hK : 1 ≤ K ∧ K ≤ 7 := ⟨h1, by omega⟩
    refine Ev.step (fun k => spileref03_Unit.l0.eq_2 ..) ?_
    refine evp hK.2 ?_
    refine evb (evc (fun _ => names_eq hK) rfl) ?_
    by_cases c : ∃ z, unitAt s.data.toList = some (K, z)
    · obtain ⟨z, hz⟩ := c
      rw [unitR_at hz]
      exact l1_hit hK hz (kindL K).length 0 (by omega) (by rw [List.drop_zero]; exact kind_mem hz)
    · refine l1_miss hK (fun z q => c ⟨z, q⟩) ?_ (kindL K).length 0 (by omega)
      refine runit_from s d (K + 1) (by omega) (by omega) ?_
      intro p hq
      have := hp p hq
      have : p.1 ≠ K := fun e => c ⟨p.2, by rw [hq, ← e]⟩
      omega
theorem runit_ev (s : ByteArray) : Ev (fun k => spileref03_Unit.f k s) (unitR s) :=
  runit_from s 7 1 (by omega) (by omega) fun p hp => (unit_small hp).1.1
end Go.Proofs.YtmjglehdckgcnaaGreatDoor.Pr
