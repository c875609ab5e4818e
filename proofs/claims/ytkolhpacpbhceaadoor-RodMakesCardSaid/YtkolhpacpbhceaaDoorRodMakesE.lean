/-
The law RodMakes returns true for every input that can be read as data, and leaves its arguments as they were: the row, and the card that ties the listed variables to the program's text.
No condition of its own beyond those that the given row prints.
-/
import Derived.Lib.LazyBuf
import Derived.HandedShaped
import Derived.Handed
import Derived.Test.YtkolhpacpbhceaaDoorCards
import Derived.Test.YtkolhpacpbhceaaDoorTie
import Derived.ProofKit
import Derived.OpenShut
import Derived.ShutString
import Derived.ChangeOld
import Derived.SizedLaws
import Derived.LaidMore
import Derived.Lay
import Derived.MakeChecks
import Derived.SevenTiedAt
import Derived.LaidSub
import Derived.LaidOnce
import Derived.Stop.Joined
import Derived.Stop.LaidErr
import Derived.Test.YtkolhpacpbhceaaDoorRodMakesD
set_option linter.unusedVariables false
set_option linter.unusedSimpArgs false
namespace Go.Proofs.YtkolhpacpbhceaaDoor.Pr
open Go.RowKit Go.Proofs.YtkolhpacpbhceaaDoorW.PrintWords Go.Proofs.YtkolhpacpbhceaaDoorW.PrintLast Go.Proofs.YtkolhpacpbhceaaDoorW.PrintMore Go.Proofs.YtkolhpacpbhceaaDoor.X
attribute [local go_sem] max2_int min2_int max_two min_two max_three min_three max_four min_four   -- for this text's walks alone
set_option linter.unusedVariables false
set_option linter.unusedSimpArgs false
def spileref13_At.l0 : Nat → Int → Int → List (S39) → Int → Option (Int)
 | 0, _, _, _, _ => none
 | k + 1, x1, x5, x206000, x206001 => if 0 ≤ x5 then (if x5 < (x206000.length : Int) then (if ((rd_T39 x206000 x5).f0) < x1 then (spileref13_At.l0 k x1 (wrap64 (x5 + 1)) x206000 x206001) else (if 0 ≤ (wrap64 (x5 - 1)) then (if (wrap64 (x5 - 1)) < (x206000.length : Int) then (if (wrap64 (((rd_T39 x206000 x5).f0) - ((rd_T39 x206000 (wrap64 (x5 - 1))).f0))) = 0 then (none) else (some (wrap64 (((rd_T39 x206000 (wrap64 (x5 - 1))).f1) + (wrap64 (Int.tdiv (wrap64 ((wrap64 (((rd_T39 x206000 x5).f1) - ((rd_T39 x206000 (wrap64 (x5 - 1))).f1))) * (wrap64 (x1 - ((rd_T39 x206000 (wrap64 (x5 - 1))).f0))))) (wrap64 (((rd_T39 x206000 x5).f0) - ((rd_T39 x206000 (wrap64 (x5 - 1))).f0))))))))) else (none)) else (none))) else (none)) else (none)
def spileref13_At.f (k : Nat) (l0_0 : List (S39)) (a0_1 : Int) (a1 : Int) : Option (Int) := spileref13_At.l0 k a1 1 l0_0 a0_1
def spileref13_At.T4 : Bool × List (List Nat × List Nat) := (true, [([], []), ([0], [0]), ([], []), ([2], [2]), ([1, 3], [1, 3]), ([4], [4]), ([], []), ([6], [6]), ([], []), ([7, 8], [7, 8]), ([9], [9]), ([], []), ([], []), ([11, 5, 0, 1, 2, 3, 4, 5, 11, 12], [5, 11]), ([12, 10, 13, 0, 1, 2, 3, 4, 5, 6, 7, 8, 9, 10, 11, 12, 13], [10, 12])])
def spileref13_At.B4 : List Nat := [0, 1, 0, 4, 15, 31, 0, 64, 0, 448, 960, 0, 0, 6207, 16383]
theorem spileref13_At.tab4 : rtab .any (opsOf Tryd.f36 4) = spileref13_At.T4 := by kernel_rfl
theorem spileref13_At.bits4 : waitsOk spileref13_At.T4.2 spileref13_At.B4 = true := by kernel_rfl
def spileref13_At.T5 : Bool × List (List Nat × List Nat) := (true, [([], []), ([0], [0]), ([], []), ([2], [2]), ([], []), ([4], [4]), ([3, 5], [3, 5]), ([], []), ([], []), ([8], [8]), ([7, 9], [7, 9]), ([6, 10], [6, 10]), ([], []), ([12], [12]), ([], []), ([14], [14]), ([13, 15], [13, 15]), ([11, 16], [11, 16]), ([1, 17], [1, 17]), ([18, 0, 1, 2, 3, 4, 5, 6, 7, 8, 9, 10, 11, 12, 13, 14, 15, 16, 17, 18], [18])])
def spileref13_At.B5 : List Nat := [0, 1, 0, 4, 0, 16, 60, 0, 0, 256, 896, 2044, 0, 4096, 0, 16384, 61440, 131068, 262143, 524287]
theorem spileref13_At.tab5 : rtab .any (opsOf Tryd.f36 5) = spileref13_At.T5 := by kernel_rfl
theorem spileref13_At.bits5 : waitsOk spileref13_At.T5.2 spileref13_At.B5 = true := by kernel_rfl
set_option maxHeartbeats 8000000 in
set_option maxRecDepth 100000 in
theorem spileref13_At.calls (k : Nat) (A0_0 : Option Addr) (c0_0 : Nat) (l0_0 : List (S39)) (a0_1 : Int) (a1 : Int) (r : Int) (w : World) (hr0_0 : Kd.C k39 w A0_0 l0_0.length l0_0) (hc0_0 : l0_0.length ≤ c0_0) (h : spileref13_At.f k l0_0 a0_1 a1 = some r) :
  Calls Tryd.prog 36 #[.agg #[.slice A0_0 l0_0.length c0_0, .int .i64 a0_1], .int .i64 a1] w fun e w' => e = .returned (.int .i64 r) ∧ Below w.heap.size w w' := by
 have hu24 := Tryd.underlying24
 have hu39 := Tryd.underlying39
 have HR0_0 := Aside0.mk hr0_0
 have HC0_0 := Aside0.mk hc0_0
 clear hr0_0 hc0_0
 have HB := Aside0.mk (Below.refl w.heap.size w)
 have H : (spileref13_At.l0 k a1 1 l0_0 a0_1) = some r := h
 clear h
 have H' := Aside0.mk H
 clear H
 go_enter Tryd.func36, Tryd.ntmps36
 go_wp2_with (first | ((with_reducible refine gate_dst (N := 2) rfl ?_); refine box_event ?hg (N := 2) ?hd (cs := #[.slice A0_0 l0_0.length c0_0, .int .i64 a0_1]) (t := 24) ?hr ?_; (case hd => rfl); (case hg => rfl); (case hr => first | (go_simp; done) | (go_simp; rfl)); intro gb205 hg w3 hbox hb; have n0_ := Aside0.mk (below_step (by repeat (first | (with_reducible first | exact HB.out | apply below_alloc | apply pw_below_drewN | apply below_drew1) | exact HB.out)) hb); have n1_ := Aside0.mk (hbox); have n2_ := Aside0.mk ((by rw [hg]; exact (below_size (by repeat (first | (with_reducible first | exact HB.out | apply below_alloc | apply pw_below_drewN | apply below_drew1) | exact HB.out))) : w.heap.size ≤ gb205)); have n3_ := Aside0.mk ((by rw [hg]; exact (below_size (by repeat (first | (with_reducible first | exact HB.out | apply below_alloc | apply pw_below_drewN | apply below_drew1) | exact HB.out))) : w.heap.size ≤ gb205)); clear HB; have HB := n0_; have BK205 := n1_; have GW205 := n2_; have GE205 := n3_; clear n0_ n1_ n2_ n3_; clear hb hbox hg))
 go_loopg [5] k (fun kq v5 w' => ∃ (x5_1 : Int), v5 = .int .i64 x5_1 ∧ Aside0 (spileref13_At.l0 kq a1 x5_1 l0_0 a0_1 = some r) ∧ Aside0 (kq ≤ k) ∧ Aside0 (w'.heap[gb205]? = some (.cells #[(.slice A0_0 l0_0.length c0_0), .int .i64 a0_1] 24 (0, 0))) ∧ Aside0 (Below w.heap.size w w'))
 case atStart => exact ⟨(1), (by first | rfl | (simp; done) | (simp [*]; done)), H', ⟨Nat.le_refl _⟩, ⟨by (with_reducible repeat (first | refine blk_drewN ?_ _ | refine blk_drew ?_ | refine blk_alloc ?_ _)); exact BK205.out⟩, ⟨by repeat (first | (with_reducible first | exact HB.out | apply below_alloc | apply pw_below_drewN | apply below_drew1 | refine below_set ?_ GE205.out) | exact HB.out)⟩⟩
 case round =>
  clear H'
  try clear p2
  try clear c3
  obtain ⟨x5_1, rfl, HA, HK1, BK205, HB⟩ := hrel
  cases gk with
  | zero => exact absurd HA.out (by simp [spileref13_At.l0])
  | succ k1 =>
   have H := HA.out
   clear HA
   simp only [spileref13_At.l0] at H
   by_cases c4 : 0 ≤ x5_1
   ·
    rw [if_pos c4] at H
    have c4b0 : decide (0 ≤ x5_1) = true := decide_eq_true c4
    clear c4
    by_cases c5 : x5_1 < (l0_0.length : Int)
    ·
     rw [if_pos c5] at H
     have c5b0 : decide (x5_1 < (l0_0.length : Int)) = true := decide_eq_true c5
     clear c5
     by_cases c6 : ((rd_T39 l0_0 x5_1).f0) < a1
     ·
      rw [if_pos c6] at H
      have c6b0 : decide (((rd_T39 l0_0 x5_1).f0) < a1) = true := decide_eq_true c6
      clear c6
      have H' := Aside0.mk H
      clear H
      have hcz7_0 : wr.cell? ⟨gb205, 0, none⟩ = some (.slice A0_0 l0_0.length c0_0) := (blk_cell BK205.out 0).trans rfl
      have hcz7_1 : wr.cell? ⟨gb205, 1, none⟩ = some (.int .i64 a0_1) := (blk_cell BK205.out 1).trans rfl
      have hfz7_0 := blk_frozen BK205.out 0
      have hfz7_1 := blk_frozen BK205.out 1
      have p206 : 0 ≤ (x5_1 : Int) := of_decide_eq_true (by first | (with_reducible assumption) | assumption)
      have q206 : x5_1 < (l0_0.length : Int) := of_decide_eq_true (by first | (with_reducible assumption) | assumption)
      obtain ⟨ad206, e206, hx206_0, hx206_1⟩ := at_T39 HR0_0.out x5_1 p206 q206
      cases e206
      replace hx206_0 := (HB.out.cell (World.block_lt_of_cell? w _ hx206_0)).trans hx206_0
      replace hx206_1 := (HB.out.cell (World.block_lt_of_cell? w _ hx206_1)).trans hx206_1
      replace p206 := eq_true p206
      replace q206 := eq_true q206
      go_wp2
      go_roundg k1
      case measure => have := HK1.out; omega
      case rel => exact ⟨(wrap64 (x5_1 + 1)), (by first | rfl | (simp; done) | (simp [*]; done)), H', ⟨by have := HK1.out; omega⟩, ⟨by (with_reducible repeat (first | refine blk_drewN ?_ _ | refine blk_drew ?_ | refine blk_alloc ?_ _)); exact BK205.out⟩, ⟨by repeat (first | (with_reducible first | exact HB.out | apply below_alloc | apply pw_below_drewN | apply below_drew1 | refine below_set ?_ GE205.out) | exact HB.out)⟩⟩
     ·
      rw [if_neg c6] at H
      have c6b0 : decide (((rd_T39 l0_0 x5_1).f0) < a1) = false := decide_eq_false c6
      clear c6
      obtain ⟨ji8, hji8⟩ : ∃ j_ : Int, (wrap64 (x5_1 - 1)) = j_ := ⟨_, rfl⟩
      replace H : (if 0 ≤ (ji8) then (if (ji8) < (l0_0.length : Int) then (if (wrap64 (((rd_T39 l0_0 x5_1).f0) - ((rd_T39 l0_0 (ji8)).f0))) = 0 then (none) else (some (wrap64 (((rd_T39 l0_0 (ji8)).f1) + (wrap64 (Int.tdiv (wrap64 ((wrap64 (((rd_T39 l0_0 x5_1).f1) - ((rd_T39 l0_0 (ji8)).f1))) * (wrap64 (a1 - ((rd_T39 l0_0 (ji8)).f0))))) (wrap64 (((rd_T39 l0_0 x5_1).f0) - ((rd_T39 l0_0 (ji8)).f0))))))))) else (none)) else (none)) = some r := by first | (rw [hji8] at H; exact H) | (simp only [hji8] at H ⊢; exact H)
      have hji8w : (IntKind.i64.wrap (x5_1 - 1)) = ji8 := (i64_w _).trans hji8
      by_cases c9 : 0 ≤ (ji8)
      ·
       rw [if_pos c9] at H
       have c9b0 : decide (0 ≤ (ji8)) = true := decide_eq_true c9
       clear c9
       by_cases c10 : (ji8) < (l0_0.length : Int)
       ·
        rw [if_pos c10] at H
        have c10b0 : decide ((ji8) < (l0_0.length : Int)) = true := decide_eq_true c10
        clear c10
        by_cases c11 : (wrap64 (((rd_T39 l0_0 x5_1).f0) - ((rd_T39 l0_0 (ji8)).f0))) = 0
        ·
         rw [if_pos c11] at H
         exact absurd H (by simp)
        ·
         rw [if_neg c11] at H
         have c11b0 : ((wrap64 (((rd_T39 l0_0 x5_1).f0) - ((rd_T39 l0_0 (ji8)).f0))) == 0) = false := beq_eq_false_iff_ne.mpr c11
         have c11b1 : ((wrap64 (((rd_T39 l0_0 x5_1).f0) - ((rd_T39 l0_0 (ji8)).f0))) != 0) = true := bne_iff_ne.mpr c11
         obtain rfl := Option.some.inj H
         have hcz12_0 : wr.cell? ⟨gb205, 0, none⟩ = some (.slice A0_0 l0_0.length c0_0) := (blk_cell BK205.out 0).trans rfl
         have hcz12_1 : wr.cell? ⟨gb205, 1, none⟩ = some (.int .i64 a0_1) := (blk_cell BK205.out 1).trans rfl
         have hfz12_0 := blk_frozen BK205.out 0
         have hfz12_1 := blk_frozen BK205.out 1
         have p206 : 0 ≤ (x5_1 : Int) := of_decide_eq_true (by first | (with_reducible assumption) | assumption)
         have q206 : x5_1 < (l0_0.length : Int) := of_decide_eq_true (by first | (with_reducible assumption) | assumption)
         obtain ⟨ad206, e206, hx206_0, hx206_1⟩ := at_T39 HR0_0.out x5_1 p206 q206
         cases e206
         replace hx206_0 := (HB.out.cell (World.block_lt_of_cell? w _ hx206_0)).trans hx206_0
         replace hx206_1 := (HB.out.cell (World.block_lt_of_cell? w _ hx206_1)).trans hx206_1
         replace p206 := eq_true p206
         replace q206 := eq_true q206
         try go_wp2
         have n0_ := Aside0.mk (blk_drew BK205.out)
         have n1_ := Aside0.mk (below_drew1 HB.out)
         clear BK205
         clear HB
         have BK205 := n0_
         have HB := n1_
         clear n0_ n1_
         have p207 : 0 ≤ ((ji8) : Int) := of_decide_eq_true (by first | (with_reducible assumption) | assumption)
         have q207 : (ji8) < (l0_0.length : Int) := of_decide_eq_true (by first | (with_reducible assumption) | assumption)
         obtain ⟨ad207, e207, hx207_0, hx207_1⟩ := at_T39 HR0_0.out (ji8) p207 q207
         have hw207_1 := hx207_1
         have hw207_0 := hx207_0
         obtain rfl : ad206 = ad207 := (by injection e207)
         replace hx207_0 := (HB.out.cell (World.block_lt_of_cell? w _ hx207_0)).trans hx207_0
         replace hx207_1 := (HB.out.cell (World.block_lt_of_cell? w _ hx207_1)).trans hx207_1
         replace p207 := eq_true p207
         replace q207 := eq_true q207
         have p208 : 0 ≤ (x5_1 : Int) := of_decide_eq_true (by first | (with_reducible assumption) | assumption)
         have q208 : x5_1 < (l0_0.length : Int) := of_decide_eq_true (by first | (with_reducible assumption) | assumption)
         obtain ⟨ad208, e208, hx208_0, hx208_1⟩ := at_T39 HR0_0.out x5_1 p208 q208
         have hw208_1 := hx208_1
         have hw208_0 := hx208_0
         obtain rfl : ad206 = ad208 := (by injection e208)
         replace hx208_0 := (HB.out.cell (World.block_lt_of_cell? w _ hx208_0)).trans hx208_0
         replace hx208_1 := (HB.out.cell (World.block_lt_of_cell? w _ hx208_1)).trans hx208_1
         replace p208 := eq_true p208
         replace q208 := eq_true q208
         refine start_ (n := 15) (S := fun w' => w'.cell? ⟨gb205, 0, none⟩ = some (.slice (some ad206) l0_0.length c0_0) ∧ w'.cell? ⟨gb205, 1, none⟩ = some (.int .i64 a0_1) ∧ w'.cell? (ad206.add (((ji8)).toNat * 2)) = some (.int .i64 ((rd_T39 l0_0 (ji8)).f0)) ∧ w'.cell? ⟨(ad206.add (((ji8)).toNat * 2)).block, (ad206.add (((ji8)).toNat * 2)).off + 1, none⟩ = some (.int .i64 ((rd_T39 l0_0 (ji8)).f1)) ∧ w'.cell? (ad206.add ((x5_1).toNat * 2)) = some (.int .i64 ((rd_T39 l0_0 x5_1).f0)) ∧ w'.cell? ⟨(ad206.add ((x5_1).toNat * 2)).block, (ad206.add ((x5_1).toNat * 2)).off + 1, none⟩ = some (.int .i64 ((rd_T39 l0_0 x5_1).f1))) (ds := []) #[false, false, false, false, false, false, false, false, false, false, false, false, false, false, false] (by kernel_rfl) rfl rfl ⟨(blk_cell BK205.out 0).trans rfl, (blk_cell BK205.out 1).trans rfl, ((HB.out.cell (World.block_lt_of_cell? w _ hw207_0)).trans hw207_0), ((HB.out.cell (World.block_lt_of_cell? w _ hw207_1)).trans hw207_1), ((HB.out.cell (World.block_lt_of_cell? w _ hw208_0)).trans hw208_0), ((HB.out.cell (World.block_lt_of_cell? w _ hw208_1)).trans hw208_1)⟩ (fun hHeld => ?_); refine with_tabW spileref13_At.tab4 spileref13_At.bits4 (fun HT_ HW_ => ?_)
         generalize wr.drew = w13 at BK205 HB hx207_0 hx207_1 hx208_0 hx208_1 hHeld ⊢
         refine pure_ (i := 0) (N := some 18) (v := ?_) (a' := ?_) #[true, false, false, false, false, false, false, false, false, false, false, false, false, false, false] rfl rfl (any_of HT_.out (by kernel_rfl)) (fun _ _ _ h => h) (Or.inl ⟨by rfl, ?_⟩) ?_ ?_
         rotate_left
         ·
          intro w'
          go_simp
          with_reducible rfl
         rotate_left
         ·
          simp only [Act.put, List.setIfInBounds_toArray, List.set_cons_zero, List.set_cons_succ, i64_w, i32_w]
          rfl
         refine pure_ (i := 2) (N := some 20) (v := ?_) (a' := ?_) #[true, false, true, false, false, false, false, false, false, false, false, false, false, false, false] rfl rfl (any_of HT_.out (by kernel_rfl)) (fun _ _ _ h => h) (Or.inl ⟨by rfl, ?_⟩) ?_ ?_
         rotate_left
         ·
          intro w'
          go_simp
          with_reducible rfl
         rotate_left
         ·
          simp only [Act.put, List.setIfInBounds_toArray, List.set_cons_zero, List.set_cons_succ, i64_w, i32_w]
          rfl
         refine pure_ (i := 3) (N := some 21) (v := ?_) (a' := ?_) #[true, false, true, true, false, false, false, false, false, false, false, false, false, false, false] rfl rfl (any_of HT_.out (by kernel_rfl)) (fun _ _ _ h => h) (Or.inl ⟨by rfl, ?_⟩) ?_ ?_
         rotate_left
         ·
          intro w'
          go_simp
          with_reducible rfl
         rotate_left
         ·
          simp only [Act.put, List.setIfInBounds_toArray, List.set_cons_zero, List.set_cons_succ, i64_w, i32_w]
          rfl
         refine pure_ (i := 6) (N := some 24) (v := ?_) (a' := ?_) #[true, false, true, true, false, false, true, false, false, false, false, false, false, false, false] rfl rfl (any_of HT_.out (by kernel_rfl)) (fun _ _ _ h => h) (Or.inl ⟨by rfl, ?_⟩) ?_ ?_
         rotate_left
         ·
          intro w'
          go_simp
          with_reducible rfl
         rotate_left
         ·
          simp only [Act.put, List.setIfInBounds_toArray, List.set_cons_zero, List.set_cons_succ, i64_w, i32_w]
          rfl
         refine pure_ (i := 8) (N := some 26) (v := ?_) (a' := ?_) #[true, false, true, true, false, false, true, false, true, false, false, false, false, false, false] rfl rfl (any_of HT_.out (by kernel_rfl)) (fun _ _ _ h => h) (Or.inl ⟨by rfl, ?_⟩) ?_ ?_
         rotate_left
         ·
          intro w'
          go_simp
          with_reducible rfl
         rotate_left
         ·
          simp only [Act.put, List.setIfInBounds_toArray, List.set_cons_zero, List.set_cons_succ, i64_w, i32_w]
          rfl
         refine take_ (i := 1) (N := some 19) (v := ?_) (a' := ?_) #[true, true, true, true, false, false, true, false, true, false, false, false, false, false, false] rfl rfl (take_ofW HT_.out HW_.out (by kernel_rfl)) (fun _ _ _ h => h) (Or.inl ⟨by rfl, ?_⟩) hHeld ?_ ?_
         rotate_left
         ·
          rintro w' ⟨s0, s1, s2, s3, s4, s5⟩
          go_simp
          with_reducible rfl
         rotate_left
         ·
          simp only [Act.put, List.setIfInBounds_toArray, List.set_cons_zero, List.set_cons_succ, i64_w, i32_w]
          rfl
         refine pure_ (i := 4) (N := some 22) (v := ?_) (a' := ?_) #[true, true, true, true, true, false, true, false, true, false, false, false, false, false, false] rfl rfl (any_of HT_.out (by kernel_rfl)) (fun _ _ _ h => h) (Or.inl ⟨by rfl, ?_⟩) ?_ ?_
         rotate_left
         ·
          intro w'
          go_simp
          with_reducible rfl
         rotate_left
         ·
          simp only [Act.put, List.setIfInBounds_toArray, List.set_cons_zero, List.set_cons_succ, i64_w, i32_w]
          rfl
         refine take_ (i := 5) (N := some 23) (v := ?_) (a' := ?_) #[true, true, true, true, true, true, true, false, true, false, false, false, false, false, false] rfl rfl (take_ofW HT_.out HW_.out (by kernel_rfl)) (fun _ _ _ h => h) (Or.inl ⟨by rfl, ?_⟩) hHeld ?_ ?_
         rotate_left
         ·
          rintro w' ⟨s0, s1, s2, s3, s4, s5⟩
          go_simp
          with_reducible rfl
         rotate_left
         ·
          simp only [Act.put, List.setIfInBounds_toArray, List.set_cons_zero, List.set_cons_succ, i64_w, i32_w]
          rfl
         refine take_ (i := 7) (N := some 25) (v := ?_) (a' := ?_) #[true, true, true, true, true, true, true, true, true, false, false, false, false, false, false] rfl rfl (take_ofW HT_.out HW_.out (by kernel_rfl)) (fun _ _ _ h => h) (Or.inl ⟨by rfl, ?_⟩) hHeld ?_ ?_
         rotate_left
         ·
          rintro w' ⟨s0, s1, s2, s3, s4, s5⟩
          go_simp
          with_reducible rfl
         rotate_left
         ·
          simp only [Act.put, List.setIfInBounds_toArray, List.set_cons_zero, List.set_cons_succ, i64_w, i32_w]
          rfl
         refine pure_ (i := 9) (N := some 27) (v := ?_) (a' := ?_) #[true, true, true, true, true, true, true, true, true, true, false, false, false, false, false] rfl rfl (any_of HT_.out (by kernel_rfl)) (fun _ _ _ h => h) (Or.inl ⟨by rfl, ?_⟩) ?_ ?_
         rotate_left
         ·
          intro w'
          go_simp
          with_reducible rfl
         rotate_left
         ·
          simp only [Act.put, List.setIfInBounds_toArray, List.set_cons_zero, List.set_cons_succ, i64_w, i32_w]
          rfl
         refine take_ (i := 10) (N := some 28) (v := ?_) (a' := ?_) #[true, true, true, true, true, true, true, true, true, true, true, false, false, false, false] rfl rfl (take_ofW HT_.out HW_.out (by kernel_rfl)) (fun _ _ _ h => h) (Or.inl ⟨by rfl, ?_⟩) hHeld ?_ ?_
         rotate_left
         ·
          rintro w' ⟨s0, s1, s2, s3, s4, s5⟩
          go_simp
          with_reducible rfl
         rotate_left
         ·
          simp only [Act.put, List.setIfInBounds_toArray, List.set_cons_zero, List.set_cons_succ, i64_w, i32_w]
          rfl
         refine join_ (σ := Nat × Nat) 2 #[true, true, true, true, true, true, true, true, true, true, true, true, true, false, false] (fun s_ => [(6, .pointer (some ⟨s_.1, 0, none⟩)), (7, .pointer (some ⟨s_.2, 0, none⟩))]) (fun s_ w' => (w'.cell? ⟨gb205, 0, none⟩ = some (.slice (some ad206) l0_0.length c0_0) ∧ w'.cell? ⟨gb205, 1, none⟩ = some (.int .i64 a0_1) ∧ w'.cell? (ad206.add (((ji8)).toNat * 2)) = some (.int .i64 ((rd_T39 l0_0 (ji8)).f0)) ∧ w'.cell? ⟨(ad206.add (((ji8)).toNat * 2)).block, (ad206.add (((ji8)).toNat * 2)).off + 1, none⟩ = some (.int .i64 ((rd_T39 l0_0 (ji8)).f1)) ∧ w'.cell? (ad206.add ((x5_1).toNat * 2)) = some (.int .i64 ((rd_T39 l0_0 x5_1).f0)) ∧ w'.cell? ⟨(ad206.add ((x5_1).toNat * 2)).block, (ad206.add ((x5_1).toNat * 2)).off + 1, none⟩ = some (.int .i64 ((rd_T39 l0_0 x5_1).f1))) ∧ (w'.heap[gb205]? = some (.cells #[.slice (some ad206) l0_0.length c0_0, .int .i64 a0_1] 24 (0, 0))) ∧ (w'.heap[s_.1]? = some (.cells #[.int .i64 0, .int .i64 0] 39 (0, 0))) ∧ (w'.heap[s_.2]? = some (.cells #[.int .i64 0, .int .i64 0] 39 (0, 0))) ∧ (w.heap.size ≤ s_.1) ∧ (w.heap.size ≤ s_.1) ∧ (gb205 ≠ s_.1) ∧ (s_.1 ≠ gb205) ∧ (s_.2 ≠ s_.1) ∧ (s_.1 ≠ s_.2) ∧ (w.heap.size ≤ s_.2) ∧ (w.heap.size ≤ s_.2) ∧ (gb205 ≠ s_.2) ∧ (s_.2 ≠ gb205) ∧ (Below w.heap.size w w')) ?_ ?_
         rotate_left
         ·
          intro hCont
          refine two_ (i := 11) (j := 12) (Ni := some 6) (Nj := some 7) #[true, true, true, true, true, true, true, true, true, true, true, true, false, false, false] #[true, true, true, true, true, true, true, true, true, true, true, false, true, false, false] rfl rfl rfl rfl (two_of HT_.out (by kernel_rfl)) (by decide) (by decide) (fun K hK => ?_) (fun K hK => ?_)
          ·
           skip
           refine box_step ?hg (N := 6) ?hd (cs := #[.int .i64 0, .int .i64 0]) (t := 39) ?hr ?_; (case hd => rfl); (case hg => rfl); (case hr => first | (go_simp; done) | (go_simp; rfl))
           intro gb209 hg w14 hbox hb
           have n0_ := Aside0.mk (blk_below (g := gb205) (o := .cells #[.slice (some ad206) l0_0.length c0_0, .int .i64 a0_1] 24 (0, 0)) (by (with_reducible repeat (first | refine blk_drewN ?_ _ | refine blk_drew ?_ | refine blk_alloc ?_ _)); exact BK205.out) hb)
           have n1_ := Aside0.mk (below_step (by repeat (first | (with_reducible first | exact HB.out | apply below_alloc | apply pw_below_drewN | apply below_drew1 | refine below_set ?_ GE205.out) | exact HB.out)) hb)
           have n2_ := Aside0.mk (hbox)
           have n3_ := Aside0.mk ((by rw [hg]; exact (below_size (by repeat (first | (with_reducible first | exact HB.out | apply below_alloc | apply pw_below_drewN | apply below_drew1 | refine below_set ?_ GE205.out) | exact HB.out))) : w.heap.size ≤ gb209))
           have n4_ := Aside0.mk ((by rw [hg]; exact (below_size (by repeat (first | (with_reducible first | exact HB.out | apply below_alloc | apply pw_below_drewN | apply below_drew1 | refine below_set ?_ GE205.out) | exact HB.out))) : w.heap.size ≤ gb209))
           have n5_ := Aside0.mk ((by rw [hg]; exact Nat.ne_of_lt (blk_lt (g := gb205) (o := .cells #[.slice (some ad206) l0_0.length c0_0, .int .i64 a0_1] 24 (0, 0)) (by (with_reducible repeat (first | refine blk_drewN ?_ _ | refine blk_drew ?_ | refine blk_alloc ?_ _)); exact BK205.out)) : gb205 ≠ gb209))
           have n6_ := Aside0.mk ((by rw [hg]; exact Nat.ne_of_gt (blk_lt (g := gb205) (o := .cells #[.slice (some ad206) l0_0.length c0_0, .int .i64 a0_1] 24 (0, 0)) (by (with_reducible repeat (first | refine blk_drewN ?_ _ | refine blk_drew ?_ | refine blk_alloc ?_ _)); exact BK205.out)) : gb209 ≠ gb205))
           clear BK205
           clear HB
           have BK205 := n0_
           have HB := n1_
           have BK209 := n2_
           have GW209 := n3_
           have GE209 := n4_
           have NB205_209 := n5_
           have NB209_205 := n6_
           clear n0_ n1_ n2_ n3_ n4_ n5_ n6_
           clear hb hbox hg
           refine hK.out _ _ ⟨(blk_cell BK205.out 0).trans rfl, (blk_cell BK205.out 1).trans rfl, ((HB.out.cell (World.block_lt_of_cell? w _ hw207_0)).trans hw207_0), ((HB.out.cell (World.block_lt_of_cell? w _ hw207_1)).trans hw207_1), ((HB.out.cell (World.block_lt_of_cell? w _ hw208_0)).trans hw208_0), ((HB.out.cell (World.block_lt_of_cell? w _ hw208_1)).trans hw208_1)⟩ (fun hHeld => ?_)
           clear hK K
           refine norm_ (a' := ?_) ?_ ?_
           rotate_left
           ·
            show Act.put _ (some 6) _ = _
            simp only [Act.put, List.setIfInBounds_toArray, List.set_cons_zero, List.set_cons_succ, i64_w, i32_w]
            rfl
           refine one_ (i := 12) (N := some 7) #[true, true, true, true, true, true, true, true, true, true, true, true, true, false, false] rfl rfl (one_of HT_.out (by kernel_rfl)) (by decide) (fun K hK => ?_)
           refine box_step ?hg (N := 7) ?hd (cs := #[.int .i64 0, .int .i64 0]) (t := 39) ?hr ?_; (case hd => rfl); (case hg => rfl); (case hr => first | (go_simp; done) | (go_simp; rfl))
           intro gb210 hg w15 hbox hb
           have n0_ := Aside0.mk (blk_below (g := gb205) (o := .cells #[.slice (some ad206) l0_0.length c0_0, .int .i64 a0_1] 24 (0, 0)) (by (with_reducible repeat (first | refine blk_drewN ?_ _ | refine blk_drew ?_ | refine blk_alloc ?_ _)); exact BK205.out) hb)
           have n1_ := Aside0.mk (blk_below (g := gb209) (o := .cells #[.int .i64 0, .int .i64 0] 39 (0, 0)) (by (with_reducible repeat (first | refine blk_drewN ?_ _ | refine blk_drew ?_ | refine blk_alloc ?_ _)); exact BK209.out) hb)
           have n2_ := Aside0.mk (below_step (by repeat (first | (with_reducible first | exact HB.out | apply below_alloc | apply pw_below_drewN | apply below_drew1 | refine below_set ?_ GE205.out | refine below_set ?_ GE209.out) | exact HB.out)) hb)
           have n3_ := Aside0.mk (hbox)
           have n4_ := Aside0.mk ((by rw [hg]; exact (below_size (by repeat (first | (with_reducible first | exact HB.out | apply below_alloc | apply pw_below_drewN | apply below_drew1 | refine below_set ?_ GE205.out | refine below_set ?_ GE209.out) | exact HB.out))) : w.heap.size ≤ gb210))
           have n5_ := Aside0.mk ((by rw [hg]; exact (below_size (by repeat (first | (with_reducible first | exact HB.out | apply below_alloc | apply pw_below_drewN | apply below_drew1 | refine below_set ?_ GE205.out | refine below_set ?_ GE209.out) | exact HB.out))) : w.heap.size ≤ gb210))
           have n6_ := Aside0.mk ((by rw [hg]; exact Nat.ne_of_lt (blk_lt (g := gb205) (o := .cells #[.slice (some ad206) l0_0.length c0_0, .int .i64 a0_1] 24 (0, 0)) (by (with_reducible repeat (first | refine blk_drewN ?_ _ | refine blk_drew ?_ | refine blk_alloc ?_ _)); exact BK205.out)) : gb205 ≠ gb210))
           have n7_ := Aside0.mk ((by rw [hg]; exact Nat.ne_of_gt (blk_lt (g := gb205) (o := .cells #[.slice (some ad206) l0_0.length c0_0, .int .i64 a0_1] 24 (0, 0)) (by (with_reducible repeat (first | refine blk_drewN ?_ _ | refine blk_drew ?_ | refine blk_alloc ?_ _)); exact BK205.out)) : gb210 ≠ gb205))
           have n8_ := Aside0.mk ((by rw [hg]; exact Nat.ne_of_lt (blk_lt (g := gb209) (o := .cells #[.int .i64 0, .int .i64 0] 39 (0, 0)) (by (with_reducible repeat (first | refine blk_drewN ?_ _ | refine blk_drew ?_ | refine blk_alloc ?_ _)); exact BK209.out)) : gb209 ≠ gb210))
           have n9_ := Aside0.mk ((by rw [hg]; exact Nat.ne_of_gt (blk_lt (g := gb209) (o := .cells #[.int .i64 0, .int .i64 0] 39 (0, 0)) (by (with_reducible repeat (first | refine blk_drewN ?_ _ | refine blk_drew ?_ | refine blk_alloc ?_ _)); exact BK209.out)) : gb210 ≠ gb209))
           clear BK205
           clear BK209
           clear HB
           have BK205 := n0_
           have BK209 := n1_
           have HB := n2_
           have BK210 := n3_
           have GW210 := n4_
           have GE210 := n5_
           have NB205_210 := n6_
           have NB210_205 := n7_
           have NB209_210 := n8_
           have NB210_209 := n9_
           clear n0_ n1_ n2_ n3_ n4_ n5_ n6_ n7_ n8_ n9_
           clear hb hbox hg
           refine hK.out _ _ ⟨(blk_cell BK205.out 0).trans rfl, (blk_cell BK205.out 1).trans rfl, ((HB.out.cell (World.block_lt_of_cell? w _ hw207_0)).trans hw207_0), ((HB.out.cell (World.block_lt_of_cell? w _ hw207_1)).trans hw207_1), ((HB.out.cell (World.block_lt_of_cell? w _ hw208_0)).trans hw208_0), ((HB.out.cell (World.block_lt_of_cell? w _ hw208_1)).trans hw208_1)⟩ (fun hHeld => ?_)
           clear hK K
           refine norm_ (a' := ?_) ?_ ?_
           rotate_left
           ·
            show Act.put _ (some 7) _ = _
            simp only [Act.put, List.setIfInBounds_toArray, List.set_cons_zero, List.set_cons_succ, i64_w, i32_w]
            rfl
           exact norm_ (by simp only [putAll, Act.put, List.setIfInBounds_toArray, List.set_cons_zero, List.set_cons_succ]) (hCont (gb209, gb210) _ ⟨hHeld, (by (with_reducible repeat (first | refine blk_drewN ?_ _ | refine blk_drew ?_ | refine blk_alloc ?_ _)); exact BK205.out), (by (with_reducible repeat (first | refine blk_drewN ?_ _ | refine blk_drew ?_ | refine blk_alloc ?_ _)); exact BK209.out), (by (with_reducible repeat (first | refine blk_drewN ?_ _ | refine blk_drew ?_ | refine blk_alloc ?_ _)); exact BK210.out), GW209.out, GE209.out, NB205_209.out, NB209_205.out, NB210_209.out, NB209_210.out, GW210.out, GE210.out, NB205_210.out, NB210_205.out, (by repeat (first | (with_reducible first | exact HB.out | apply below_alloc | apply pw_below_drewN | apply below_drew1 | refine below_set ?_ GE205.out | refine below_set ?_ GE209.out | refine below_set ?_ GE210.out) | exact HB.out))⟩)
          ·
           skip
           refine box_step ?hg (N := 7) ?hd (cs := #[.int .i64 0, .int .i64 0]) (t := 39) ?hr ?_; (case hd => rfl); (case hg => rfl); (case hr => first | (go_simp; done) | (go_simp; rfl))
           intro gb210 hg w14 hbox hb
           have n0_ := Aside0.mk (blk_below (g := gb205) (o := .cells #[.slice (some ad206) l0_0.length c0_0, .int .i64 a0_1] 24 (0, 0)) (by (with_reducible repeat (first | refine blk_drewN ?_ _ | refine blk_drew ?_ | refine blk_alloc ?_ _)); exact BK205.out) hb)
           have n1_ := Aside0.mk (below_step (by repeat (first | (with_reducible first | exact HB.out | apply below_alloc | apply pw_below_drewN | apply below_drew1 | refine below_set ?_ GE205.out) | exact HB.out)) hb)
           have n2_ := Aside0.mk (hbox)
           have n3_ := Aside0.mk ((by rw [hg]; exact (below_size (by repeat (first | (with_reducible first | exact HB.out | apply below_alloc | apply pw_below_drewN | apply below_drew1 | refine below_set ?_ GE205.out) | exact HB.out))) : w.heap.size ≤ gb210))
           have n4_ := Aside0.mk ((by rw [hg]; exact (below_size (by repeat (first | (with_reducible first | exact HB.out | apply below_alloc | apply pw_below_drewN | apply below_drew1 | refine below_set ?_ GE205.out) | exact HB.out))) : w.heap.size ≤ gb210))
           have n5_ := Aside0.mk ((by rw [hg]; exact Nat.ne_of_lt (blk_lt (g := gb205) (o := .cells #[.slice (some ad206) l0_0.length c0_0, .int .i64 a0_1] 24 (0, 0)) (by (with_reducible repeat (first | refine blk_drewN ?_ _ | refine blk_drew ?_ | refine blk_alloc ?_ _)); exact BK205.out)) : gb205 ≠ gb210))
           have n6_ := Aside0.mk ((by rw [hg]; exact Nat.ne_of_gt (blk_lt (g := gb205) (o := .cells #[.slice (some ad206) l0_0.length c0_0, .int .i64 a0_1] 24 (0, 0)) (by (with_reducible repeat (first | refine blk_drewN ?_ _ | refine blk_drew ?_ | refine blk_alloc ?_ _)); exact BK205.out)) : gb210 ≠ gb205))
           clear BK205
           clear HB
           have BK205 := n0_
           have HB := n1_
           have BK210 := n2_
           have GW210 := n3_
           have GE210 := n4_
           have NB205_210 := n5_
           have NB210_205 := n6_
           clear n0_ n1_ n2_ n3_ n4_ n5_ n6_
           clear hb hbox hg
           refine hK.out _ _ ⟨(blk_cell BK205.out 0).trans rfl, (blk_cell BK205.out 1).trans rfl, ((HB.out.cell (World.block_lt_of_cell? w _ hw207_0)).trans hw207_0), ((HB.out.cell (World.block_lt_of_cell? w _ hw207_1)).trans hw207_1), ((HB.out.cell (World.block_lt_of_cell? w _ hw208_0)).trans hw208_0), ((HB.out.cell (World.block_lt_of_cell? w _ hw208_1)).trans hw208_1)⟩ (fun hHeld => ?_)
           clear hK K
           refine norm_ (a' := ?_) ?_ ?_
           rotate_left
           ·
            show Act.put _ (some 7) _ = _
            simp only [Act.put, List.setIfInBounds_toArray, List.set_cons_zero, List.set_cons_succ, i64_w, i32_w]
            rfl
           refine one_ (i := 11) (N := some 6) #[true, true, true, true, true, true, true, true, true, true, true, true, true, false, false] rfl rfl (one_of HT_.out (by kernel_rfl)) (by decide) (fun K hK => ?_)
           refine box_step ?hg (N := 6) ?hd (cs := #[.int .i64 0, .int .i64 0]) (t := 39) ?hr ?_; (case hd => rfl); (case hg => rfl); (case hr => first | (go_simp; done) | (go_simp; rfl))
           intro gb209 hg w15 hbox hb
           have n0_ := Aside0.mk (blk_below (g := gb205) (o := .cells #[.slice (some ad206) l0_0.length c0_0, .int .i64 a0_1] 24 (0, 0)) (by (with_reducible repeat (first | refine blk_drewN ?_ _ | refine blk_drew ?_ | refine blk_alloc ?_ _)); exact BK205.out) hb)
           have n1_ := Aside0.mk (blk_below (g := gb210) (o := .cells #[.int .i64 0, .int .i64 0] 39 (0, 0)) (by (with_reducible repeat (first | refine blk_drewN ?_ _ | refine blk_drew ?_ | refine blk_alloc ?_ _)); exact BK210.out) hb)
           have n2_ := Aside0.mk (below_step (by repeat (first | (with_reducible first | exact HB.out | apply below_alloc | apply pw_below_drewN | apply below_drew1 | refine below_set ?_ GE205.out | refine below_set ?_ GE210.out) | exact HB.out)) hb)
           have n3_ := Aside0.mk (hbox)
           have n4_ := Aside0.mk ((by rw [hg]; exact (below_size (by repeat (first | (with_reducible first | exact HB.out | apply below_alloc | apply pw_below_drewN | apply below_drew1 | refine below_set ?_ GE205.out | refine below_set ?_ GE210.out) | exact HB.out))) : w.heap.size ≤ gb209))
           have n5_ := Aside0.mk ((by rw [hg]; exact (below_size (by repeat (first | (with_reducible first | exact HB.out | apply below_alloc | apply pw_below_drewN | apply below_drew1 | refine below_set ?_ GE205.out | refine below_set ?_ GE210.out) | exact HB.out))) : w.heap.size ≤ gb209))
           have n6_ := Aside0.mk ((by rw [hg]; exact Nat.ne_of_lt (blk_lt (g := gb205) (o := .cells #[.slice (some ad206) l0_0.length c0_0, .int .i64 a0_1] 24 (0, 0)) (by (with_reducible repeat (first | refine blk_drewN ?_ _ | refine blk_drew ?_ | refine blk_alloc ?_ _)); exact BK205.out)) : gb205 ≠ gb209))
           have n7_ := Aside0.mk ((by rw [hg]; exact Nat.ne_of_gt (blk_lt (g := gb205) (o := .cells #[.slice (some ad206) l0_0.length c0_0, .int .i64 a0_1] 24 (0, 0)) (by (with_reducible repeat (first | refine blk_drewN ?_ _ | refine blk_drew ?_ | refine blk_alloc ?_ _)); exact BK205.out)) : gb209 ≠ gb205))
           have n8_ := Aside0.mk ((by rw [hg]; exact Nat.ne_of_lt (blk_lt (g := gb210) (o := .cells #[.int .i64 0, .int .i64 0] 39 (0, 0)) (by (with_reducible repeat (first | refine blk_drewN ?_ _ | refine blk_drew ?_ | refine blk_alloc ?_ _)); exact BK210.out)) : gb210 ≠ gb209))
           have n9_ := Aside0.mk ((by rw [hg]; exact Nat.ne_of_gt (blk_lt (g := gb210) (o := .cells #[.int .i64 0, .int .i64 0] 39 (0, 0)) (by (with_reducible repeat (first | refine blk_drewN ?_ _ | refine blk_drew ?_ | refine blk_alloc ?_ _)); exact BK210.out)) : gb209 ≠ gb210))
           clear BK205
           clear BK210
           clear HB
           have BK205 := n0_
           have BK210 := n1_
           have HB := n2_
           have BK209 := n3_
           have GW209 := n4_
           have GE209 := n5_
           have NB205_209 := n6_
           have NB209_205 := n7_
           have NB210_209 := n8_
           have NB209_210 := n9_
           clear n0_ n1_ n2_ n3_ n4_ n5_ n6_ n7_ n8_ n9_
           clear hb hbox hg
           refine hK.out _ _ ⟨(blk_cell BK205.out 0).trans rfl, (blk_cell BK205.out 1).trans rfl, ((HB.out.cell (World.block_lt_of_cell? w _ hw207_0)).trans hw207_0), ((HB.out.cell (World.block_lt_of_cell? w _ hw207_1)).trans hw207_1), ((HB.out.cell (World.block_lt_of_cell? w _ hw208_0)).trans hw208_0), ((HB.out.cell (World.block_lt_of_cell? w _ hw208_1)).trans hw208_1)⟩ (fun hHeld => ?_)
           clear hK K
           refine norm_ (a' := ?_) ?_ ?_
           rotate_left
           ·
            show Act.put _ (some 6) _ = _
            simp only [Act.put, List.setIfInBounds_toArray, List.set_cons_zero, List.set_cons_succ, i64_w, i32_w]
            rfl
           exact norm_ (by simp only [putAll, Act.put, List.setIfInBounds_toArray, List.set_cons_zero, List.set_cons_succ]) (hCont (gb209, gb210) _ ⟨hHeld, (by (with_reducible repeat (first | refine blk_drewN ?_ _ | refine blk_drew ?_ | refine blk_alloc ?_ _)); exact BK205.out), (by (with_reducible repeat (first | refine blk_drewN ?_ _ | refine blk_drew ?_ | refine blk_alloc ?_ _)); exact BK209.out), (by (with_reducible repeat (first | refine blk_drewN ?_ _ | refine blk_drew ?_ | refine blk_alloc ?_ _)); exact BK210.out), GW209.out, GE209.out, NB205_209.out, NB209_205.out, NB210_209.out, NB209_210.out, GW210.out, GE210.out, NB205_210.out, NB210_205.out, (by repeat (first | (with_reducible first | exact HB.out | apply below_alloc | apply pw_below_drewN | apply below_drew1 | refine below_set ?_ GE205.out | refine below_set ?_ GE210.out | refine below_set ?_ GE209.out) | exact HB.out))⟩)
         rintro ⟨gb209, gb210⟩ w16 ⟨hS_, h0_, h1_, h2_, h3_, h4_, h5_, h6_, h7_, h8_, h9_, h10_, h11_, h12_, h13_⟩
         have n0_ : Aside0 (w16.heap[gb205]? = some (.cells #[.slice (some ad206) l0_0.length c0_0, .int .i64 a0_1] 24 (0, 0))) := ⟨h0_⟩
         have n1_ : Aside0 (w16.heap[gb209]? = some (.cells #[.int .i64 0, .int .i64 0] 39 (0, 0))) := ⟨h1_⟩
         have n2_ : Aside0 (w16.heap[gb210]? = some (.cells #[.int .i64 0, .int .i64 0] 39 (0, 0))) := ⟨h2_⟩
         have n3_ : Aside0 (w.heap.size ≤ gb209) := ⟨h3_⟩
         have n4_ : Aside0 (w.heap.size ≤ gb209) := ⟨h4_⟩
         have n5_ : Aside0 (gb205 ≠ gb209) := ⟨h5_⟩
         have n6_ : Aside0 (gb209 ≠ gb205) := ⟨h6_⟩
         have n7_ : Aside0 (gb210 ≠ gb209) := ⟨h7_⟩
         have n8_ : Aside0 (gb209 ≠ gb210) := ⟨h8_⟩
         have n9_ : Aside0 (w.heap.size ≤ gb210) := ⟨h9_⟩
         have n10_ : Aside0 (w.heap.size ≤ gb210) := ⟨h10_⟩
         have n11_ : Aside0 (gb205 ≠ gb210) := ⟨h11_⟩
         have n12_ : Aside0 (gb210 ≠ gb205) := ⟨h12_⟩
         have n13_ : Aside0 (Below w.heap.size w w16) := ⟨h13_⟩
         clear BK205
         clear HB
         clear h0_ h1_ h2_ h3_ h4_ h5_ h6_ h7_ h8_ h9_ h10_ h11_ h12_ h13_
         have BK205 := n0_
         have BK209 := n1_
         have BK210 := n2_
         have GW209 := n3_
         have GE209 := n4_
         have NB205_209 := n5_
         have NB209_205 := n6_
         have NB210_209 := n7_
         have NB209_210 := n8_
         have GW210 := n9_
         have GE210 := n10_
         have NB205_210 := n11_
         have NB210_205 := n12_
         have HB := n13_
         clear n0_ n1_ n2_ n3_ n4_ n5_ n6_ n7_ n8_ n9_ n10_ n11_ n12_ n13_
         have hHeld : w16.cell? ⟨gb205, 0, none⟩ = some (.slice (some ad206) l0_0.length c0_0) ∧ w16.cell? ⟨gb205, 1, none⟩ = some (.int .i64 a0_1) ∧ w16.cell? (ad206.add (((ji8)).toNat * 2)) = some (.int .i64 ((rd_T39 l0_0 (ji8)).f0)) ∧ w16.cell? ⟨(ad206.add (((ji8)).toNat * 2)).block, (ad206.add (((ji8)).toNat * 2)).off + 1, none⟩ = some (.int .i64 ((rd_T39 l0_0 (ji8)).f1)) ∧ w16.cell? (ad206.add ((x5_1).toNat * 2)) = some (.int .i64 ((rd_T39 l0_0 x5_1).f0)) ∧ w16.cell? ⟨(ad206.add ((x5_1).toNat * 2)).block, (ad206.add ((x5_1).toNat * 2)).off + 1, none⟩ = some (.int .i64 ((rd_T39 l0_0 x5_1).f1)) := hS_
         refine norm_ (a' := ?_) ?_ ?_
         rotate_left
         ·
          simp only [putAll, Act.put, List.setIfInBounds_toArray, List.set_cons_zero, List.set_cons_succ]
          rfl
         refine one_ (i := 13) (N := none) #[true, true, true, true, true, true, true, true, true, true, true, true, true, true, false] rfl rfl (one_of HT_.out (by kernel_rfl)) (by decide) (fun K hK => ?_)
         have hs17 : w16.cell? ⟨gb209, 0, none⟩ = some (.int .i64 0) := (blk_cell BK209.out 0).trans rfl
         have hfs17 := blk_frozen BK209.out 0
         have hns17_0 := NB205_209.out
         have hns17_2 := NB210_209.out
         have hms17_0 := NB209_205.out
         have hms17_2 := NB209_210.out
         have hs18 : w16.cell? ⟨gb209, 1, none⟩ = some (.int .i64 0) := (blk_cell BK209.out 1).trans rfl
         have hfs18 := blk_frozen BK209.out 1
         have hns18_0 := NB205_209.out
         have hns18_2 := NB210_209.out
         have hms18_0 := NB209_205.out
         have hms18_2 := NB209_210.out
         refine skip_ (w1 := ?_) (by rfl) rfl ?_ ?_
         rotate_left
         ·
          go_simp
          rfl
         refine hK.out _ _ ⟨((cell_far (p := ⟨gb209, _, none⟩) NB205_209.out _).trans (((cell_far (p := ⟨gb209, _, none⟩) NB205_209.out _).trans (hHeld.1)))), ((cell_far (p := ⟨gb209, _, none⟩) NB205_209.out _).trans (((cell_far (p := ⟨gb209, _, none⟩) NB205_209.out _).trans (hHeld.2.1)))), ((cell_far (p := ⟨gb209, _, none⟩) (ne_far hw207_0 GW209.out) _).trans (((cell_far (p := ⟨gb209, _, none⟩) (ne_far hw207_0 GW209.out) _).trans (hHeld.2.2.1)))), ((cell_far (p := ⟨gb209, _, none⟩) (ne_far hw207_1 GW209.out) _).trans (((cell_far (p := ⟨gb209, _, none⟩) (ne_far hw207_1 GW209.out) _).trans (hHeld.2.2.2.1)))), ((cell_far (p := ⟨gb209, _, none⟩) (ne_far hw208_0 GW209.out) _).trans (((cell_far (p := ⟨gb209, _, none⟩) (ne_far hw208_0 GW209.out) _).trans (hHeld.2.2.2.2.1)))), ((cell_far (p := ⟨gb209, _, none⟩) (ne_far hw208_1 GW209.out) _).trans (((cell_far (p := ⟨gb209, _, none⟩) (ne_far hw208_1 GW209.out) _).trans (hHeld.2.2.2.2.2))))⟩ (fun hHeld => ?_)
         clear hK K
         refine one_ (i := 14) (N := none) #[true, true, true, true, true, true, true, true, true, true, true, true, true, true, true] rfl rfl (one_of HT_.out (by kernel_rfl)) (by decide) (fun K hK => ?_)
         have hs19 : w16.cell? ⟨gb210, 0, none⟩ = some (.int .i64 0) := (blk_cell BK210.out 0).trans rfl
         have hfs19 := blk_frozen BK210.out 0
         have hns19_0 := NB205_210.out
         have hns19_1 := NB209_210.out
         have hms19_0 := NB210_205.out
         have hms19_1 := NB210_209.out
         have hs20 : w16.cell? ⟨gb210, 1, none⟩ = some (.int .i64 0) := (blk_cell BK210.out 1).trans rfl
         have hfs20 := blk_frozen BK210.out 1
         have hns20_0 := NB205_210.out
         have hns20_1 := NB209_210.out
         have hms20_0 := NB210_205.out
         have hms20_1 := NB210_209.out
         refine skip_ (w1 := ?_) (by rfl) rfl ?_ ?_
         rotate_left
         ·
          go_simp
          rfl
         refine hK.out _ _ ⟨((cell_far (p := ⟨gb210, _, none⟩) NB205_210.out _).trans (((cell_far (p := ⟨gb210, _, none⟩) NB205_210.out _).trans (hHeld.1)))), ((cell_far (p := ⟨gb210, _, none⟩) NB205_210.out _).trans (((cell_far (p := ⟨gb210, _, none⟩) NB205_210.out _).trans (hHeld.2.1)))), ((cell_far (p := ⟨gb210, _, none⟩) (ne_far hw207_0 GW210.out) _).trans (((cell_far (p := ⟨gb210, _, none⟩) (ne_far hw207_0 GW210.out) _).trans (hHeld.2.2.1)))), ((cell_far (p := ⟨gb210, _, none⟩) (ne_far hw207_1 GW210.out) _).trans (((cell_far (p := ⟨gb210, _, none⟩) (ne_far hw207_1 GW210.out) _).trans (hHeld.2.2.2.1)))), ((cell_far (p := ⟨gb210, _, none⟩) (ne_far hw208_0 GW210.out) _).trans (((cell_far (p := ⟨gb210, _, none⟩) (ne_far hw208_0 GW210.out) _).trans (hHeld.2.2.2.2.1)))), ((cell_far (p := ⟨gb210, _, none⟩) (ne_far hw208_1 GW210.out) _).trans (((cell_far (p := ⟨gb210, _, none⟩) (ne_far hw208_1 GW210.out) _).trans (hHeld.2.2.2.2.2))))⟩ (fun hHeld => ?_)
         clear hK K
         refine done_ (done_of HT_.out (by kernel_rfl)) ?_
         try go_wp2
         have n0_ : Aside0 (((((w16.setCell ⟨gb209, 0, none⟩ (.int .i64 ((rd_T39 l0_0 (ji8)).f0))).setCell ⟨gb209, 1, none⟩ (.int .i64 ((rd_T39 l0_0 (ji8)).f1))).setCell ⟨gb210, 0, none⟩ (.int .i64 ((rd_T39 l0_0 x5_1).f0))).setCell ⟨gb210, 1, none⟩ (.int .i64 ((rd_T39 l0_0 x5_1).f1))).heap[gb205]? = some (.cells #[.slice (some ad206) l0_0.length c0_0, .int .i64 a0_1] 24 (0, 0))) := ⟨by (with_reducible repeat (first | refine blk_drewN ?_ _ | refine blk_drew ?_ | refine blk_alloc ?_ _)); refine blk_far ?_ NB205_210.out _; (with_reducible repeat (first | refine blk_drewN ?_ _ | refine blk_drew ?_ | refine blk_alloc ?_ _)); refine blk_far ?_ NB205_210.out _; (with_reducible repeat (first | refine blk_drewN ?_ _ | refine blk_drew ?_ | refine blk_alloc ?_ _)); refine blk_far ?_ NB205_209.out _; (with_reducible repeat (first | refine blk_drewN ?_ _ | refine blk_drew ?_ | refine blk_alloc ?_ _)); refine blk_far ?_ NB205_209.out _; (with_reducible repeat (first | refine blk_drewN ?_ _ | refine blk_drew ?_ | refine blk_alloc ?_ _)); exact BK205.out⟩
         have n1_ : Aside0 (((((w16.setCell ⟨gb209, 0, none⟩ (.int .i64 ((rd_T39 l0_0 (ji8)).f0))).setCell ⟨gb209, 1, none⟩ (.int .i64 ((rd_T39 l0_0 (ji8)).f1))).setCell ⟨gb210, 0, none⟩ (.int .i64 ((rd_T39 l0_0 x5_1).f0))).setCell ⟨gb210, 1, none⟩ (.int .i64 ((rd_T39 l0_0 x5_1).f1))).heap[gb209]? = some (.cells #[.int .i64 ((rd_T39 l0_0 (ji8)).f0), .int .i64 ((rd_T39 l0_0 (ji8)).f1)] 39 (0, 0))) := ⟨by (with_reducible repeat (first | refine blk_drewN ?_ _ | refine blk_drew ?_ | refine blk_alloc ?_ _)); refine blk_far ?_ NB209_210.out _; (with_reducible repeat (first | refine blk_drewN ?_ _ | refine blk_drew ?_ | refine blk_alloc ?_ _)); refine blk_far ?_ NB209_210.out _; (with_reducible repeat (first | refine blk_drewN ?_ _ | refine blk_drew ?_ | refine blk_alloc ?_ _)); refine blk_put (cs := #[.int .i64 ((rd_T39 l0_0 (ji8)).f0), .int .i64 0]) ?_ 1 _ rfl; (with_reducible repeat (first | refine blk_drewN ?_ _ | refine blk_drew ?_ | refine blk_alloc ?_ _)); refine blk_put (cs := #[.int .i64 0, .int .i64 0]) ?_ 0 _ rfl; (with_reducible repeat (first | refine blk_drewN ?_ _ | refine blk_drew ?_ | refine blk_alloc ?_ _)); exact BK209.out⟩
         have n2_ : Aside0 (((((w16.setCell ⟨gb209, 0, none⟩ (.int .i64 ((rd_T39 l0_0 (ji8)).f0))).setCell ⟨gb209, 1, none⟩ (.int .i64 ((rd_T39 l0_0 (ji8)).f1))).setCell ⟨gb210, 0, none⟩ (.int .i64 ((rd_T39 l0_0 x5_1).f0))).setCell ⟨gb210, 1, none⟩ (.int .i64 ((rd_T39 l0_0 x5_1).f1))).heap[gb210]? = some (.cells #[.int .i64 ((rd_T39 l0_0 x5_1).f0), .int .i64 ((rd_T39 l0_0 x5_1).f1)] 39 (0, 0))) := ⟨by (with_reducible repeat (first | refine blk_drewN ?_ _ | refine blk_drew ?_ | refine blk_alloc ?_ _)); refine blk_put (cs := #[.int .i64 ((rd_T39 l0_0 x5_1).f0), .int .i64 0]) ?_ 1 _ rfl; (with_reducible repeat (first | refine blk_drewN ?_ _ | refine blk_drew ?_ | refine blk_alloc ?_ _)); refine blk_put (cs := #[.int .i64 0, .int .i64 0]) ?_ 0 _ rfl; (with_reducible repeat (first | refine blk_drewN ?_ _ | refine blk_drew ?_ | refine blk_alloc ?_ _)); refine blk_far ?_ NB210_209.out _; (with_reducible repeat (first | refine blk_drewN ?_ _ | refine blk_drew ?_ | refine blk_alloc ?_ _)); refine blk_far ?_ NB210_209.out _; (with_reducible repeat (first | refine blk_drewN ?_ _ | refine blk_drew ?_ | refine blk_alloc ?_ _)); exact BK210.out⟩
         have n3_ : Aside0 (Below w.heap.size w ((((w16.setCell ⟨gb209, 0, none⟩ (.int .i64 ((rd_T39 l0_0 (ji8)).f0))).setCell ⟨gb209, 1, none⟩ (.int .i64 ((rd_T39 l0_0 (ji8)).f1))).setCell ⟨gb210, 0, none⟩ (.int .i64 ((rd_T39 l0_0 x5_1).f0))).setCell ⟨gb210, 1, none⟩ (.int .i64 ((rd_T39 l0_0 x5_1).f1)))) := ⟨by repeat (first | (with_reducible first | exact HB.out | apply below_alloc | apply pw_below_drewN | apply below_drew1 | refine below_set ?_ GE205.out | refine below_set ?_ GE209.out | refine below_set ?_ GE210.out) | exact HB.out)⟩
         (try clear BK205)
         (try clear BK209)
         (try clear BK210)
         (try clear HB)
         generalize ((((w16.setCell ⟨gb209, 0, none⟩ (.int .i64 ((rd_T39 l0_0 (ji8)).f0))).setCell ⟨gb209, 1, none⟩ (.int .i64 ((rd_T39 l0_0 (ji8)).f1))).setCell ⟨gb210, 0, none⟩ (.int .i64 ((rd_T39 l0_0 x5_1).f0))).setCell ⟨gb210, 1, none⟩ (.int .i64 ((rd_T39 l0_0 x5_1).f1))) = w21 at n0_ n1_ n2_ n3_ ⊢
         have BK205 := n0_
         have BK209 := n1_
         have BK210 := n2_
         have HB := n3_
         clear n0_ n1_ n2_ n3_
         have n0_ := Aside0.mk (blk_drew BK205.out)
         have n1_ := Aside0.mk (blk_drew BK209.out)
         have n2_ := Aside0.mk (blk_drew BK210.out)
         have n3_ := Aside0.mk (below_drew1 HB.out)
         clear BK205
         clear BK209
         clear BK210
         clear HB
         have BK205 := n0_
         have BK209 := n1_
         have BK210 := n2_
         have HB := n3_
         clear n0_ n1_ n2_ n3_
         refine start_ (n := 20) (S := fun w' => w'.cell? ⟨gb209, 0, none⟩ = some (.int .i64 ((rd_T39 l0_0 (ji8)).f0)) ∧ w'.cell? ⟨gb209, 1, none⟩ = some (.int .i64 ((rd_T39 l0_0 (ji8)).f1)) ∧ w'.cell? ⟨gb210, 0, none⟩ = some (.int .i64 ((rd_T39 l0_0 x5_1).f0)) ∧ w'.cell? ⟨gb210, 1, none⟩ = some (.int .i64 ((rd_T39 l0_0 x5_1).f1))) (ds := []) #[false, false, false, false, false, false, false, false, false, false, false, false, false, false, false, false, false, false, false, false] (by kernel_rfl) rfl rfl ⟨(blk_cell BK209.out 0).trans rfl, (blk_cell BK209.out 1).trans rfl, (blk_cell BK210.out 0).trans rfl, (blk_cell BK210.out 1).trans rfl⟩ (fun hHeld => ?_); refine with_tabW spileref13_At.tab5 spileref13_At.bits5 (fun HT_ HW_ => ?_)
         generalize w21.drew = w22 at BK205 BK209 BK210 HB hHeld ⊢
         refine pure_ (i := 0) (N := some 29) (v := ?_) (a' := ?_) #[true, false, false, false, false, false, false, false, false, false, false, false, false, false, false, false, false, false, false, false] rfl rfl (any_of HT_.out (by kernel_rfl)) (fun _ _ _ h => h) (Or.inl ⟨by rfl, ?_⟩) ?_ ?_
         rotate_left
         ·
          intro w'
          go_simp
          with_reducible rfl
         rotate_left
         ·
          simp only [Act.put, List.setIfInBounds_toArray, List.set_cons_zero, List.set_cons_succ, i64_w, i32_w]
          rfl
         refine pure_ (i := 2) (N := some 31) (v := ?_) (a' := ?_) #[true, false, true, false, false, false, false, false, false, false, false, false, false, false, false, false, false, false, false, false] rfl rfl (any_of HT_.out (by kernel_rfl)) (fun _ _ _ h => h) (Or.inl ⟨by rfl, ?_⟩) ?_ ?_
         rotate_left
         ·
          intro w'
          go_simp
          with_reducible rfl
         rotate_left
         ·
          simp only [Act.put, List.setIfInBounds_toArray, List.set_cons_zero, List.set_cons_succ, i64_w, i32_w]
          rfl
         refine pure_ (i := 4) (N := some 33) (v := ?_) (a' := ?_) #[true, false, true, false, true, false, false, false, false, false, false, false, false, false, false, false, false, false, false, false] rfl rfl (any_of HT_.out (by kernel_rfl)) (fun _ _ _ h => h) (Or.inl ⟨by rfl, ?_⟩) ?_ ?_
         rotate_left
         ·
          intro w'
          go_simp
          with_reducible rfl
         rotate_left
         ·
          simp only [Act.put, List.setIfInBounds_toArray, List.set_cons_zero, List.set_cons_succ, i64_w, i32_w]
          rfl
         refine pure_ (i := 7) (N := some 36) (v := ?_) (a' := ?_) #[true, false, true, false, true, false, false, true, false, false, false, false, false, false, false, false, false, false, false, false] rfl rfl (any_of HT_.out (by kernel_rfl)) (fun _ _ _ h => h) (Or.inl ⟨by rfl, ?_⟩) ?_ ?_
         rotate_left
         ·
          intro w'
          go_simp
          with_reducible rfl
         rotate_left
         ·
          simp only [Act.put, List.setIfInBounds_toArray, List.set_cons_zero, List.set_cons_succ, i64_w, i32_w]
          rfl
         refine pure_ (i := 8) (N := some 37) (v := ?_) (a' := ?_) #[true, false, true, false, true, false, false, true, true, false, false, false, false, false, false, false, false, false, false, false] rfl rfl (any_of HT_.out (by kernel_rfl)) (fun _ _ _ h => h) (Or.inl ⟨by rfl, ?_⟩) ?_ ?_
         rotate_left
         ·
          intro w'
          go_simp
          with_reducible rfl
         rotate_left
         ·
          simp only [Act.put, List.setIfInBounds_toArray, List.set_cons_zero, List.set_cons_succ, i64_w, i32_w]
          rfl
         refine pure_ (i := 12) (N := some 41) (v := ?_) (a' := ?_) #[true, false, true, false, true, false, false, true, true, false, false, false, true, false, false, false, false, false, false, false] rfl rfl (any_of HT_.out (by kernel_rfl)) (fun _ _ _ h => h) (Or.inl ⟨by rfl, ?_⟩) ?_ ?_
         rotate_left
         ·
          intro w'
          go_simp
          with_reducible rfl
         rotate_left
         ·
          simp only [Act.put, List.setIfInBounds_toArray, List.set_cons_zero, List.set_cons_succ, i64_w, i32_w]
          rfl
         refine pure_ (i := 14) (N := some 43) (v := ?_) (a' := ?_) #[true, false, true, false, true, false, false, true, true, false, false, false, true, false, true, false, false, false, false, false] rfl rfl (any_of HT_.out (by kernel_rfl)) (fun _ _ _ h => h) (Or.inl ⟨by rfl, ?_⟩) ?_ ?_
         rotate_left
         ·
          intro w'
          go_simp
          with_reducible rfl
         rotate_left
         ·
          simp only [Act.put, List.setIfInBounds_toArray, List.set_cons_zero, List.set_cons_succ, i64_w, i32_w]
          rfl
         refine take_ (i := 1) (N := some 30) (v := ?_) (a' := ?_) #[true, true, true, false, true, false, false, true, true, false, false, false, true, false, true, false, false, false, false, false] rfl rfl (take_ofW HT_.out HW_.out (by kernel_rfl)) (fun _ _ _ h => h) (Or.inl ⟨by rfl, ?_⟩) hHeld ?_ ?_
         rotate_left
         ·
          rintro w' ⟨s0, s1, s2, s3⟩
          go_simp
          with_reducible rfl
         rotate_left
         ·
          simp only [Act.put, List.setIfInBounds_toArray, List.set_cons_zero, List.set_cons_succ, i64_w, i32_w]
          rfl
         refine take_ (i := 3) (N := some 32) (v := ?_) (a' := ?_) #[true, true, true, true, true, false, false, true, true, false, false, false, true, false, true, false, false, false, false, false] rfl rfl (take_ofW HT_.out HW_.out (by kernel_rfl)) (fun _ _ _ h => h) (Or.inl ⟨by rfl, ?_⟩) hHeld ?_ ?_
         rotate_left
         ·
          rintro w' ⟨s0, s1, s2, s3⟩
          go_simp
          with_reducible rfl
         rotate_left
         ·
          simp only [Act.put, List.setIfInBounds_toArray, List.set_cons_zero, List.set_cons_succ, i64_w, i32_w]
          rfl
         refine take_ (i := 5) (N := some 34) (v := ?_) (a' := ?_) #[true, true, true, true, true, true, false, true, true, false, false, false, true, false, true, false, false, false, false, false] rfl rfl (take_ofW HT_.out HW_.out (by kernel_rfl)) (fun _ _ _ h => h) (Or.inl ⟨by rfl, ?_⟩) hHeld ?_ ?_
         rotate_left
         ·
          rintro w' ⟨s0, s1, s2, s3⟩
          go_simp
          with_reducible rfl
         rotate_left
         ·
          simp only [Act.put, List.setIfInBounds_toArray, List.set_cons_zero, List.set_cons_succ, i64_w, i32_w]
          rfl
         refine pure_ (i := 6) (N := some 35) (v := ?_) (a' := ?_) #[true, true, true, true, true, true, true, true, true, false, false, false, true, false, true, false, false, false, false, false] rfl rfl (any_of HT_.out (by kernel_rfl)) (fun _ _ _ h => h) (Or.inl ⟨by rfl, ?_⟩) ?_ ?_
         rotate_left
         ·
          intro w'
          go_simp
          with_reducible rfl
         rotate_left
         ·
          simp only [Act.put, List.setIfInBounds_toArray, List.set_cons_zero, List.set_cons_succ, i64_w, i32_w]
          rfl
         refine take_ (i := 9) (N := some 38) (v := ?_) (a' := ?_) #[true, true, true, true, true, true, true, true, true, true, false, false, true, false, true, false, false, false, false, false] rfl rfl (take_ofW HT_.out HW_.out (by kernel_rfl)) (fun _ _ _ h => h) (Or.inl ⟨by rfl, ?_⟩) hHeld ?_ ?_
         rotate_left
         ·
          rintro w' ⟨s0, s1, s2, s3⟩
          go_simp
          with_reducible rfl
         rotate_left
         ·
          simp only [Act.put, List.setIfInBounds_toArray, List.set_cons_zero, List.set_cons_succ, i64_w, i32_w]
          rfl
         refine pure_ (i := 10) (N := some 39) (v := ?_) (a' := ?_) #[true, true, true, true, true, true, true, true, true, true, true, false, true, false, true, false, false, false, false, false] rfl rfl (any_of HT_.out (by kernel_rfl)) (fun _ _ _ h => h) (Or.inl ⟨by rfl, ?_⟩) ?_ ?_
         rotate_left
         ·
          intro w'
          go_simp
          with_reducible rfl
         rotate_left
         ·
          simp only [Act.put, List.setIfInBounds_toArray, List.set_cons_zero, List.set_cons_succ, i64_w, i32_w]
          rfl
         refine pure_ (i := 11) (N := some 40) (v := ?_) (a' := ?_) #[true, true, true, true, true, true, true, true, true, true, true, true, true, false, true, false, false, false, false, false] rfl rfl (any_of HT_.out (by kernel_rfl)) (fun _ _ _ h => h) (Or.inl ⟨by rfl, ?_⟩) ?_ ?_
         rotate_left
         ·
          intro w'
          go_simp
          with_reducible rfl
         rotate_left
         ·
          simp only [Act.put, List.setIfInBounds_toArray, List.set_cons_zero, List.set_cons_succ, i64_w, i32_w]
          rfl
         refine take_ (i := 13) (N := some 42) (v := ?_) (a' := ?_) #[true, true, true, true, true, true, true, true, true, true, true, true, true, true, true, false, false, false, false, false] rfl rfl (take_ofW HT_.out HW_.out (by kernel_rfl)) (fun _ _ _ h => h) (Or.inl ⟨by rfl, ?_⟩) hHeld ?_ ?_
         rotate_left
         ·
          rintro w' ⟨s0, s1, s2, s3⟩
          go_simp
          with_reducible rfl
         rotate_left
         ·
          simp only [Act.put, List.setIfInBounds_toArray, List.set_cons_zero, List.set_cons_succ, i64_w, i32_w]
          rfl
         refine take_ (i := 15) (N := some 44) (v := ?_) (a' := ?_) #[true, true, true, true, true, true, true, true, true, true, true, true, true, true, true, true, false, false, false, false] rfl rfl (take_ofW HT_.out HW_.out (by kernel_rfl)) (fun _ _ _ h => h) (Or.inl ⟨by rfl, ?_⟩) hHeld ?_ ?_
         rotate_left
         ·
          rintro w' ⟨s0, s1, s2, s3⟩
          go_simp
          with_reducible rfl
         rotate_left
         ·
          simp only [Act.put, List.setIfInBounds_toArray, List.set_cons_zero, List.set_cons_succ, i64_w, i32_w]
          rfl
         refine pure_ (i := 16) (N := some 45) (v := ?_) (a' := ?_) #[true, true, true, true, true, true, true, true, true, true, true, true, true, true, true, true, true, false, false, false] rfl rfl (any_of HT_.out (by kernel_rfl)) (fun _ _ _ h => h) (Or.inl ⟨by rfl, ?_⟩) ?_ ?_
         rotate_left
         ·
          intro w'
          go_simp
          with_reducible rfl
         rotate_left
         ·
          simp only [Act.put, List.setIfInBounds_toArray, List.set_cons_zero, List.set_cons_succ, i64_w, i32_w]
          rfl
         refine pure_ (i := 17) (N := some 46) (v := ?_) (a' := ?_) #[true, true, true, true, true, true, true, true, true, true, true, true, true, true, true, true, true, true, false, false] rfl rfl (any_of HT_.out (by kernel_rfl)) (fun _ _ _ h => h) (Or.inl ⟨by rfl, ?_⟩) ?_ ?_
         rotate_left
         ·
          intro w'
          go_simp
          with_reducible rfl
         rotate_left
         ·
          simp only [Act.put, List.setIfInBounds_toArray, List.set_cons_zero, List.set_cons_succ, i64_w, i32_w]
          rfl
         refine pure_ (i := 18) (N := some 47) (v := ?_) (a' := ?_) #[true, true, true, true, true, true, true, true, true, true, true, true, true, true, true, true, true, true, true, false] rfl rfl (any_of HT_.out (by kernel_rfl)) (fun _ _ _ h => h) (Or.inl ⟨by rfl, ?_⟩) ?_ ?_
         rotate_left
         ·
          intro w'
          go_simp
          with_reducible rfl
         rotate_left
         ·
          simp only [Act.put, List.setIfInBounds_toArray, List.set_cons_zero, List.set_cons_succ, i64_w, i32_w]
          rfl
         refine pure_ (i := 19) (N := some 4) (v := ?_) (a' := ?_) #[true, true, true, true, true, true, true, true, true, true, true, true, true, true, true, true, true, true, true, true] rfl rfl (any_of HT_.out (by kernel_rfl)) (fun _ _ _ h => h) (Or.inl ⟨by rfl, ?_⟩) ?_ ?_
         rotate_left
         ·
          intro w'
          go_simp
          with_reducible rfl
         rotate_left
         ·
          simp only [Act.put, List.setIfInBounds_toArray, List.set_cons_zero, List.set_cons_succ, i64_w, i32_w]
          rfl
         refine done_ (done_of HT_.out (by kernel_rfl)) ?_
         try go_wp2
         go_ret
         exact ⟨by first | rfl | (simp [errW_none, errW_some] <;> rfl) | (simp only [← hji8]; first | rfl | (simp [errW_none, errW_some] <;> rfl)) | (simp [*, errW_none, errW_some] <;> rfl), by repeat (first | (with_reducible first | exact HB.out | apply below_alloc | apply pw_below_drewN | apply below_drew1 | refine below_set ?_ GE205.out | refine below_set ?_ GE209.out | refine below_set ?_ GE210.out) | exact HB.out)⟩
       ·
        rw [if_neg c10] at H
        exact absurd H (by simp)
      ·
       rw [if_neg c9] at H
       exact absurd H (by simp)
    ·
     rw [if_neg c5] at H
     exact absurd H (by simp)
   ·
    rw [if_neg c4] at H
    exact absurd H (by simp)
def spileref14_least.l0 : Nat → Int → Int → Int → List (S39) → Int → Option (Int)
 | 0, _, _, _, _, _ => none
 | k + 1, x1, x5, x6, x212000, x212001 => if x5 < x6 then ((spileref13_At.f k x212000 x212001 (wrap64 (Int.tdiv (wrap64 (x5 + x6)) 2))).bind fun t214 => (if t214 ≥ x1 then (spileref14_least.l0 k x1 x5 (wrap64 (Int.tdiv (wrap64 (x5 + x6)) 2)) x212000 x212001) else (spileref14_least.l0 k x1 (wrap64 ((wrap64 (Int.tdiv (wrap64 (x5 + x6)) 2)) + 1)) x6 x212000 x212001))) else (some x5)
def spileref14_least.f (k : Nat) (l0_0 : List (S39)) (a0_1 : Int) (a1 : Int) : Option (Int) := if 0 < (l0_0.length : Int) then (if 0 ≤ (wrap64 ((l0_0.length : Int) - 1)) then (if (wrap64 ((l0_0.length : Int) - 1)) < (l0_0.length : Int) then (spileref14_least.l0 k a1 ((rd_T39 l0_0 0).f0) ((rd_T39 l0_0 (wrap64 ((l0_0.length : Int) - 1))).f0) l0_0 a0_1) else (none)) else (none)) else (none)
set_option maxHeartbeats 8000000 in
set_option maxRecDepth 100000 in
theorem spileref14_least.calls (k : Nat) (A0_0 : Option Addr) (c0_0 : Nat) (l0_0 : List (S39)) (a0_1 : Int) (a1 : Int) (r : Int) (w : World) (hr0_0 : Kd.C k39 w A0_0 l0_0.length l0_0) (hc0_0 : l0_0.length ≤ c0_0) (h : spileref14_least.f k l0_0 a0_1 a1 = some r) :
  Calls Tryd.prog 35 #[.agg #[.slice A0_0 l0_0.length c0_0, .int .i64 a0_1], .int .i64 a1] w fun e w' => e = .returned (.int .i64 r) ∧ Below w.heap.size w w' := by
 have hu24 := Tryd.underlying24
 have HR0_0 := Aside0.mk hr0_0
 have HC0_0 := Aside0.mk hc0_0
 clear hr0_0 hc0_0
 have HB := Aside0.mk (Below.refl w.heap.size w)
 have H : (if 0 < (l0_0.length : Int) then (if 0 ≤ (wrap64 ((l0_0.length : Int) - 1)) then (if (wrap64 ((l0_0.length : Int) - 1)) < (l0_0.length : Int) then (spileref14_least.l0 k a1 ((rd_T39 l0_0 0).f0) ((rd_T39 l0_0 (wrap64 ((l0_0.length : Int) - 1))).f0) l0_0 a0_1) else (none)) else (none)) else (none)) = some r := h
 clear h
 by_cases c3 : 0 < (l0_0.length : Int)
 ·
  rw [if_pos c3] at H
  have c3b0 : decide (0 < (l0_0.length : Int)) = true := decide_eq_true c3
  have c3b1 : decide (0 < l0_0.length) = true := decide_eq_true (by omega)
  clear c3
  obtain ⟨ji4, hji4⟩ : ∃ j_ : Int, (wrap64 ((l0_0.length : Int) - 1)) = j_ := ⟨_, rfl⟩
  replace H : (if 0 ≤ (ji4) then (if (ji4) < (l0_0.length : Int) then (spileref14_least.l0 k a1 ((rd_T39 l0_0 0).f0) ((rd_T39 l0_0 (ji4)).f0) l0_0 a0_1) else (none)) else (none)) = some r := by first | (rw [hji4] at H; exact H) | (simp only [hji4] at H ⊢; exact H)
  have hji4w : (IntKind.i64.wrap ((l0_0.length : Int) - 1)) = ji4 := (i64_w _).trans hji4
  by_cases c5 : 0 ≤ (ji4)
  ·
   rw [if_pos c5] at H
   have c5b0 : decide (0 ≤ (ji4)) = true := decide_eq_true c5
   clear c5
   by_cases c6 : (ji4) < (l0_0.length : Int)
   ·
    rw [if_pos c6] at H
    have c6b0 : decide ((ji4) < (l0_0.length : Int)) = true := decide_eq_true c6
    clear c6
    have H' := Aside0.mk H
    clear H
    go_enter Tryd.func35, Tryd.ntmps35
    go_wp2_with (first | ((with_reducible refine gate_dst (N := 2) rfl ?_); refine box_event ?hg (N := 2) ?hd (cs := #[.slice A0_0 l0_0.length c0_0, .int .i64 a0_1]) (t := 24) ?hr ?_; (case hd => rfl); (case hg => rfl); (case hr => first | (go_simp; done) | (go_simp; rfl)); intro gb211 hg w7 hbox hb; have n0_ := Aside0.mk (below_step (by repeat (first | (with_reducible first | exact HB.out | apply below_alloc | apply pw_below_drewN | apply below_drew1) | exact HB.out)) hb); have n1_ := Aside0.mk (hbox); have n2_ := Aside0.mk ((by rw [hg]; exact (below_size (by repeat (first | (with_reducible first | exact HB.out | apply below_alloc | apply pw_below_drewN | apply below_drew1) | exact HB.out))) : w.heap.size ≤ gb211)); have n3_ := Aside0.mk ((by rw [hg]; exact (below_size (by repeat (first | (with_reducible first | exact HB.out | apply below_alloc | apply pw_below_drewN | apply below_drew1) | exact HB.out))) : w.heap.size ≤ gb211)); clear HB; have HB := n0_; have BK211 := n1_; have GW211 := n2_; have GE211 := n3_; clear n0_ n1_ n2_ n3_; clear hb hbox hg; have hcz8_0 : w7.cell? ⟨gb211, 0, none⟩ = some (.slice A0_0 l0_0.length c0_0) := (blk_cell BK211.out 0).trans rfl; have hcz8_1 : w7.cell? ⟨gb211, 1, none⟩ = some (.int .i64 a0_1) := (blk_cell BK211.out 1).trans rfl; have hfz8_0 := blk_frozen BK211.out 0; have hfz8_1 := blk_frozen BK211.out 1; have p212 : 0 ≤ (0 : Int) := (by omega); have q212 : 0 < (l0_0.length : Int) := of_decide_eq_true (by first | (with_reducible assumption) | assumption); obtain ⟨ad212, e212, hx212_0, hx212_1⟩ := at_T39 HR0_0.out 0 p212 q212; cases e212; have qi212 : (0 < l0_0.length) = True := eq_true (by omega); (try rw [show ((0 : Int)).toNat = 0 from rfl] at hx212_0); (try rw [show 0 * 2 = 0 from rfl] at hx212_0); (try rw [Addr.add_zero'] at hx212_0); (try rw [show ((0 : Int)).toNat = 0 from rfl] at hx212_1); (try rw [show 0 * 2 = 0 from rfl] at hx212_1); (try rw [Addr.add_zero'] at hx212_1); replace hx212_0 := (HB.out.cell (World.block_lt_of_cell? w _ hx212_0)).trans hx212_0; replace hx212_1 := (HB.out.cell (World.block_lt_of_cell? w _ hx212_1)).trans hx212_1; replace p212 := eq_true p212; replace q212 := eq_true q212; have p213 : 0 ≤ ((ji4) : Int) := of_decide_eq_true (by first | (with_reducible assumption) | assumption); have q213 : (ji4) < (l0_0.length : Int) := of_decide_eq_true (by first | (with_reducible assumption) | assumption); obtain ⟨ad213, e213, hx213_0, hx213_1⟩ := at_T39 HR0_0.out (ji4) p213 q213; obtain rfl : ad212 = ad213 := (by injection e213); replace hx213_0 := (HB.out.cell (World.block_lt_of_cell? w _ hx213_0)).trans hx213_0; replace hx213_1 := (HB.out.cell (World.block_lt_of_cell? w _ hx213_1)).trans hx213_1; replace p213 := eq_true p213; replace q213 := eq_true q213))
    repeat (go_quiet (first | ((with_reducible refine gate_dst (N := 2) rfl ?_); refine box_event ?hg (N := 2) ?hd (cs := #[.slice A0_0 l0_0.length c0_0, .int .i64 a0_1]) (t := 24) ?hr ?_; (case hd => rfl); (case hg => rfl); (case hr => first | (go_simp; done) | (go_simp; rfl)); intro gb211 hg w7 hbox hb; have n0_ := Aside0.mk (below_step (by repeat (first | (with_reducible first | exact HB.out | apply below_alloc | apply pw_below_drewN | apply below_drew1) | exact HB.out)) hb); have n1_ := Aside0.mk (hbox); have n2_ := Aside0.mk ((by rw [hg]; exact (below_size (by repeat (first | (with_reducible first | exact HB.out | apply below_alloc | apply pw_below_drewN | apply below_drew1) | exact HB.out))) : w.heap.size ≤ gb211)); have n3_ := Aside0.mk ((by rw [hg]; exact (below_size (by repeat (first | (with_reducible first | exact HB.out | apply below_alloc | apply pw_below_drewN | apply below_drew1) | exact HB.out))) : w.heap.size ≤ gb211)); clear HB; have HB := n0_; have BK211 := n1_; have GW211 := n2_; have GE211 := n3_; clear n0_ n1_ n2_ n3_; clear hb hbox hg; have hcz8_0 : w7.cell? ⟨gb211, 0, none⟩ = some (.slice A0_0 l0_0.length c0_0) := (blk_cell BK211.out 0).trans rfl; have hcz8_1 : w7.cell? ⟨gb211, 1, none⟩ = some (.int .i64 a0_1) := (blk_cell BK211.out 1).trans rfl; have hfz8_0 := blk_frozen BK211.out 0; have hfz8_1 := blk_frozen BK211.out 1; have p212 : 0 ≤ (0 : Int) := (by omega); have q212 : 0 < (l0_0.length : Int) := of_decide_eq_true (by first | (with_reducible assumption) | assumption); obtain ⟨ad212, e212, hx212_0, hx212_1⟩ := at_T39 HR0_0.out 0 p212 q212; cases e212; have qi212 : (0 < l0_0.length) = True := eq_true (by omega); (try rw [show ((0 : Int)).toNat = 0 from rfl] at hx212_0); (try rw [show 0 * 2 = 0 from rfl] at hx212_0); (try rw [Addr.add_zero'] at hx212_0); (try rw [show ((0 : Int)).toNat = 0 from rfl] at hx212_1); (try rw [show 0 * 2 = 0 from rfl] at hx212_1); (try rw [Addr.add_zero'] at hx212_1); replace hx212_0 := (HB.out.cell (World.block_lt_of_cell? w _ hx212_0)).trans hx212_0; replace hx212_1 := (HB.out.cell (World.block_lt_of_cell? w _ hx212_1)).trans hx212_1; replace p212 := eq_true p212; replace q212 := eq_true q212; have p213 : 0 ≤ ((ji4) : Int) := of_decide_eq_true (by first | (with_reducible assumption) | assumption); have q213 : (ji4) < (l0_0.length : Int) := of_decide_eq_true (by first | (with_reducible assumption) | assumption); obtain ⟨ad213, e213, hx213_0, hx213_1⟩ := at_T39 HR0_0.out (ji4) p213 q213; obtain rfl : ad212 = ad213 := (by injection e213); replace hx213_0 := (HB.out.cell (World.block_lt_of_cell? w _ hx213_0)).trans hx213_0; replace hx213_1 := (HB.out.cell (World.block_lt_of_cell? w _ hx213_1)).trans hx213_1; replace p213 := eq_true p213; replace q213 := eq_true q213)); try go_wp2_with (first | ((with_reducible refine gate_dst (N := 2) rfl ?_); refine box_event ?hg (N := 2) ?hd (cs := #[.slice A0_0 l0_0.length c0_0, .int .i64 a0_1]) (t := 24) ?hr ?_; (case hd => rfl); (case hg => rfl); (case hr => first | (go_simp; done) | (go_simp; rfl)); intro gb211 hg w7 hbox hb; have n0_ := Aside0.mk (below_step (by repeat (first | (with_reducible first | exact HB.out | apply below_alloc | apply pw_below_drewN | apply below_drew1) | exact HB.out)) hb); have n1_ := Aside0.mk (hbox); have n2_ := Aside0.mk ((by rw [hg]; exact (below_size (by repeat (first | (with_reducible first | exact HB.out | apply below_alloc | apply pw_below_drewN | apply below_drew1) | exact HB.out))) : w.heap.size ≤ gb211)); have n3_ := Aside0.mk ((by rw [hg]; exact (below_size (by repeat (first | (with_reducible first | exact HB.out | apply below_alloc | apply pw_below_drewN | apply below_drew1) | exact HB.out))) : w.heap.size ≤ gb211)); clear HB; have HB := n0_; have BK211 := n1_; have GW211 := n2_; have GE211 := n3_; clear n0_ n1_ n2_ n3_; clear hb hbox hg; have hcz8_0 : w7.cell? ⟨gb211, 0, none⟩ = some (.slice A0_0 l0_0.length c0_0) := (blk_cell BK211.out 0).trans rfl; have hcz8_1 : w7.cell? ⟨gb211, 1, none⟩ = some (.int .i64 a0_1) := (blk_cell BK211.out 1).trans rfl; have hfz8_0 := blk_frozen BK211.out 0; have hfz8_1 := blk_frozen BK211.out 1; have p212 : 0 ≤ (0 : Int) := (by omega); have q212 : 0 < (l0_0.length : Int) := of_decide_eq_true (by first | (with_reducible assumption) | assumption); obtain ⟨ad212, e212, hx212_0, hx212_1⟩ := at_T39 HR0_0.out 0 p212 q212; cases e212; have qi212 : (0 < l0_0.length) = True := eq_true (by omega); (try rw [show ((0 : Int)).toNat = 0 from rfl] at hx212_0); (try rw [show 0 * 2 = 0 from rfl] at hx212_0); (try rw [Addr.add_zero'] at hx212_0); (try rw [show ((0 : Int)).toNat = 0 from rfl] at hx212_1); (try rw [show 0 * 2 = 0 from rfl] at hx212_1); (try rw [Addr.add_zero'] at hx212_1); replace hx212_0 := (HB.out.cell (World.block_lt_of_cell? w _ hx212_0)).trans hx212_0; replace hx212_1 := (HB.out.cell (World.block_lt_of_cell? w _ hx212_1)).trans hx212_1; replace p212 := eq_true p212; replace q212 := eq_true q212; have p213 : 0 ≤ ((ji4) : Int) := of_decide_eq_true (by first | (with_reducible assumption) | assumption); have q213 : (ji4) < (l0_0.length : Int) := of_decide_eq_true (by first | (with_reducible assumption) | assumption); obtain ⟨ad213, e213, hx213_0, hx213_1⟩ := at_T39 HR0_0.out (ji4) p213 q213; obtain rfl : ad212 = ad213 := (by injection e213); replace hx213_0 := (HB.out.cell (World.block_lt_of_cell? w _ hx213_0)).trans hx213_0; replace hx213_1 := (HB.out.cell (World.block_lt_of_cell? w _ hx213_1)).trans hx213_1; replace p213 := eq_true p213; replace q213 := eq_true q213)))
    go_loopg [5, 6] k (fun kq v5 v6 w' => ∃ (x5_1 : Int) (x6_1 : Int), v5 = .int .i64 x5_1 ∧ v6 = .int .i64 x6_1 ∧ Aside0 (spileref14_least.l0 kq a1 x5_1 x6_1 l0_0 a0_1 = some r) ∧ Aside0 (kq ≤ k) ∧ Aside0 (w'.heap[gb211]? = some (.cells #[(.slice (some ad212) l0_0.length c0_0), .int .i64 a0_1] 24 (0, 0))) ∧ Aside0 (Below w.heap.size w w'))
    case atStart => exact ⟨((rd_T39 l0_0 0).f0), ((rd_T39 l0_0 (ji4)).f0), (by first | rfl | (simp; done) | (simp [*]; done)), (by first | rfl | (simp; done) | (simp only [← hji4] <;> (first | rfl | simp)) | (simp [*]; done)), H', ⟨Nat.le_refl _⟩, ⟨by (with_reducible repeat (first | refine blk_drewN ?_ _ | refine blk_drew ?_ | refine blk_alloc ?_ _)); exact BK211.out⟩, ⟨by repeat (first | (with_reducible first | exact HB.out | apply below_alloc | apply pw_below_drewN | apply below_drew1 | refine below_set ?_ GE211.out) | exact HB.out)⟩⟩
    case round =>
     clear H'
     try clear p2
     try clear q2
     try clear hx2
     try clear qi2
     try clear c3
     try clear c3b0
     try clear c3b1
     try clear c5
     try clear c5b0
     try clear c6
     try clear c6b0
     try clear p6
     try clear hcz8_0
     try clear hcz8_1
     try clear hfz8_0
     try clear hfz8_1
     try clear hx212_0
     try clear hx212_1
     try clear hx213_0
     try clear hx213_1
     try clear p212
     try clear p213
     try clear q212
     try clear q213
     obtain ⟨x5_1, x6_1, rfl, rfl, HA, HK1, BK211, HB⟩ := hrel
     cases gk with
     | zero => exact absurd HA.out (by simp [spileref14_least.l0])
     | succ k1 =>
      have H := HA.out
      clear HA
      simp only [spileref14_least.l0] at H
      by_cases c9 : x5_1 < x6_1
      ·
       rw [if_pos c9] at H
       have c9b0 : decide (x5_1 < x6_1) = true := decide_eq_true c9
       clear c9
       replace H := Option.bind_eq_some_iff.mp H
       obtain ⟨t214, A100, H⟩ := H
       replace H : (if t214 ≥ a1 then (spileref14_least.l0 k1 a1 x5_1 (wrap64 (Int.tdiv (wrap64 (x5_1 + x6_1)) 2)) l0_0 a0_1) else (spileref14_least.l0 k1 a1 (wrap64 ((wrap64 (Int.tdiv (wrap64 (x5_1 + x6_1)) 2)) + 1)) x6_1 l0_0 a0_1)) = some r := H
       have A10 := Aside0.mk A100
       clear A100
       by_cases c11 : t214 ≥ a1
       ·
        rw [if_pos c11] at H
        have c11b0 : decide (a1 ≤ t214) = true := decide_eq_true c11
        clear c11
        have H' := Aside0.mk H
        clear H
        have hcz12_0 : wr.cell? ⟨gb211, 0, none⟩ = some (.slice (some ad212) l0_0.length c0_0) := (blk_cell BK211.out 0).trans rfl
        have hcz12_1 : wr.cell? ⟨gb211, 1, none⟩ = some (.int .i64 a0_1) := (blk_cell BK211.out 1).trans rfl
        have hfz12_0 := blk_frozen BK211.out 0
        have hfz12_1 := blk_frozen BK211.out 1
        go_wp2_with (first | (go_at_call 36; (with_reducible refine (spileref13_At.calls k1 _ _ l0_0 a0_1 (wrap64 (Int.tdiv (wrap64 (x5_1 + x6_1)) 2)) t214 _ ?side1 ?side2 A10.out).mono ?_); (case side1 => repeat (first | exact (Kd.C_below HR0_0.out HB.out) | (with_reducible refine Kd.C_alloc ?_ _) | (with_reducible refine Kd.C_drewN ?_ _) | (with_reducible refine Kd.C_drew ?_))); (case side2 => exact HC0_0.out); rintro e w13 ⟨rfl, hb⟩; have n0_ := Aside0.mk (blk_below (g := gb211) (o := .cells #[.slice (some ad212) l0_0.length c0_0, .int .i64 a0_1] 24 (0, 0)) (by (with_reducible repeat (first | refine blk_drewN ?_ _ | refine blk_drew ?_ | refine blk_alloc ?_ _)); exact BK211.out) hb); have n1_ := Aside0.mk (below_step (by repeat (first | (with_reducible first | exact HB.out | apply below_alloc | apply pw_below_drewN | apply below_drew1 | refine below_set ?_ GE211.out) | exact HB.out)) hb); clear BK211; clear HB; have BK211 := n0_; have HB := n1_; clear n0_ n1_; (try clear hb); (try clear hb2); (try clear hk); (try clear hi)))
        repeat (go_quiet (first | (go_at_call 36; (with_reducible refine (spileref13_At.calls k1 _ _ l0_0 a0_1 (wrap64 (Int.tdiv (wrap64 (x5_1 + x6_1)) 2)) t214 _ ?side1 ?side2 A10.out).mono ?_); (case side1 => repeat (first | exact (Kd.C_below HR0_0.out HB.out) | (with_reducible refine Kd.C_alloc ?_ _) | (with_reducible refine Kd.C_drewN ?_ _) | (with_reducible refine Kd.C_drew ?_))); (case side2 => exact HC0_0.out); rintro e w13 ⟨rfl, hb⟩; have n0_ := Aside0.mk (blk_below (g := gb211) (o := .cells #[.slice (some ad212) l0_0.length c0_0, .int .i64 a0_1] 24 (0, 0)) (by (with_reducible repeat (first | refine blk_drewN ?_ _ | refine blk_drew ?_ | refine blk_alloc ?_ _)); exact BK211.out) hb); have n1_ := Aside0.mk (below_step (by repeat (first | (with_reducible first | exact HB.out | apply below_alloc | apply pw_below_drewN | apply below_drew1 | refine below_set ?_ GE211.out) | exact HB.out)) hb); clear BK211; clear HB; have BK211 := n0_; have HB := n1_; clear n0_ n1_; (try clear hb); (try clear hb2); (try clear hk); (try clear hi))); try go_wp2_with (first | (go_at_call 36; (with_reducible refine (spileref13_At.calls k1 _ _ l0_0 a0_1 (wrap64 (Int.tdiv (wrap64 (x5_1 + x6_1)) 2)) t214 _ ?side1 ?side2 A10.out).mono ?_); (case side1 => repeat (first | exact (Kd.C_below HR0_0.out HB.out) | (with_reducible refine Kd.C_alloc ?_ _) | (with_reducible refine Kd.C_drewN ?_ _) | (with_reducible refine Kd.C_drew ?_))); (case side2 => exact HC0_0.out); rintro e w13 ⟨rfl, hb⟩; have n0_ := Aside0.mk (blk_below (g := gb211) (o := .cells #[.slice (some ad212) l0_0.length c0_0, .int .i64 a0_1] 24 (0, 0)) (by (with_reducible repeat (first | refine blk_drewN ?_ _ | refine blk_drew ?_ | refine blk_alloc ?_ _)); exact BK211.out) hb); have n1_ := Aside0.mk (below_step (by repeat (first | (with_reducible first | exact HB.out | apply below_alloc | apply pw_below_drewN | apply below_drew1 | refine below_set ?_ GE211.out) | exact HB.out)) hb); clear BK211; clear HB; have BK211 := n0_; have HB := n1_; clear n0_ n1_; (try clear hb); (try clear hb2); (try clear hk); (try clear hi))))
        go_roundg k1
        case measure => have := HK1.out; omega
        case rel => exact ⟨(x5_1), (wrap64 (Int.tdiv (wrap64 (x5_1 + x6_1)) 2)), (by first | rfl | (simp; done) | (simp [*]; done)), (by first | rfl | (simp; done) | (simp [*]; done)), H', ⟨by have := HK1.out; omega⟩, ⟨by (with_reducible repeat (first | refine blk_drewN ?_ _ | refine blk_drew ?_ | refine blk_alloc ?_ _)); exact BK211.out⟩, ⟨by repeat (first | (with_reducible first | exact HB.out | apply below_alloc | apply pw_below_drewN | apply below_drew1 | refine below_set ?_ GE211.out) | exact HB.out)⟩⟩
       ·
        rw [if_neg c11] at H
        have c11b0 : decide (a1 ≤ t214) = false := decide_eq_false c11
        clear c11
        have H' := Aside0.mk H
        clear H
        have hcz14_0 : wr.cell? ⟨gb211, 0, none⟩ = some (.slice (some ad212) l0_0.length c0_0) := (blk_cell BK211.out 0).trans rfl
        have hcz14_1 : wr.cell? ⟨gb211, 1, none⟩ = some (.int .i64 a0_1) := (blk_cell BK211.out 1).trans rfl
        have hfz14_0 := blk_frozen BK211.out 0
        have hfz14_1 := blk_frozen BK211.out 1
        go_wp2_with (first | (go_at_call 36; (with_reducible refine (spileref13_At.calls k1 _ _ l0_0 a0_1 (wrap64 (Int.tdiv (wrap64 (x5_1 + x6_1)) 2)) t214 _ ?side1 ?side2 A10.out).mono ?_); (case side1 => repeat (first | exact (Kd.C_below HR0_0.out HB.out) | (with_reducible refine Kd.C_alloc ?_ _) | (with_reducible refine Kd.C_drewN ?_ _) | (with_reducible refine Kd.C_drew ?_))); (case side2 => exact HC0_0.out); rintro e w15 ⟨rfl, hb⟩; have n0_ := Aside0.mk (blk_below (g := gb211) (o := .cells #[.slice (some ad212) l0_0.length c0_0, .int .i64 a0_1] 24 (0, 0)) (by (with_reducible repeat (first | refine blk_drewN ?_ _ | refine blk_drew ?_ | refine blk_alloc ?_ _)); exact BK211.out) hb); have n1_ := Aside0.mk (below_step (by repeat (first | (with_reducible first | exact HB.out | apply below_alloc | apply pw_below_drewN | apply below_drew1 | refine below_set ?_ GE211.out) | exact HB.out)) hb); clear BK211; clear HB; have BK211 := n0_; have HB := n1_; clear n0_ n1_; (try clear hb); (try clear hb2); (try clear hk); (try clear hi)))
        repeat (go_quiet (first | (go_at_call 36; (with_reducible refine (spileref13_At.calls k1 _ _ l0_0 a0_1 (wrap64 (Int.tdiv (wrap64 (x5_1 + x6_1)) 2)) t214 _ ?side1 ?side2 A10.out).mono ?_); (case side1 => repeat (first | exact (Kd.C_below HR0_0.out HB.out) | (with_reducible refine Kd.C_alloc ?_ _) | (with_reducible refine Kd.C_drewN ?_ _) | (with_reducible refine Kd.C_drew ?_))); (case side2 => exact HC0_0.out); rintro e w15 ⟨rfl, hb⟩; have n0_ := Aside0.mk (blk_below (g := gb211) (o := .cells #[.slice (some ad212) l0_0.length c0_0, .int .i64 a0_1] 24 (0, 0)) (by (with_reducible repeat (first | refine blk_drewN ?_ _ | refine blk_drew ?_ | refine blk_alloc ?_ _)); exact BK211.out) hb); have n1_ := Aside0.mk (below_step (by repeat (first | (with_reducible first | exact HB.out | apply below_alloc | apply pw_below_drewN | apply below_drew1 | refine below_set ?_ GE211.out) | exact HB.out)) hb); clear BK211; clear HB; have BK211 := n0_; have HB := n1_; clear n0_ n1_; (try clear hb); (try clear hb2); (try clear hk); (try clear hi))); try go_wp2_with (first | (go_at_call 36; (with_reducible refine (spileref13_At.calls k1 _ _ l0_0 a0_1 (wrap64 (Int.tdiv (wrap64 (x5_1 + x6_1)) 2)) t214 _ ?side1 ?side2 A10.out).mono ?_); (case side1 => repeat (first | exact (Kd.C_below HR0_0.out HB.out) | (with_reducible refine Kd.C_alloc ?_ _) | (with_reducible refine Kd.C_drewN ?_ _) | (with_reducible refine Kd.C_drew ?_))); (case side2 => exact HC0_0.out); rintro e w15 ⟨rfl, hb⟩; have n0_ := Aside0.mk (blk_below (g := gb211) (o := .cells #[.slice (some ad212) l0_0.length c0_0, .int .i64 a0_1] 24 (0, 0)) (by (with_reducible repeat (first | refine blk_drewN ?_ _ | refine blk_drew ?_ | refine blk_alloc ?_ _)); exact BK211.out) hb); have n1_ := Aside0.mk (below_step (by repeat (first | (with_reducible first | exact HB.out | apply below_alloc | apply pw_below_drewN | apply below_drew1 | refine below_set ?_ GE211.out) | exact HB.out)) hb); clear BK211; clear HB; have BK211 := n0_; have HB := n1_; clear n0_ n1_; (try clear hb); (try clear hb2); (try clear hk); (try clear hi))))
        go_roundg k1
        case measure => have := HK1.out; omega
        case rel => exact ⟨(wrap64 ((wrap64 (Int.tdiv (wrap64 (x5_1 + x6_1)) 2)) + 1)), (x6_1), (by first | rfl | (simp; done) | (simp [*]; done)), (by first | rfl | (simp; done) | (simp [*]; done)), H', ⟨by have := HK1.out; omega⟩, ⟨by (with_reducible repeat (first | refine blk_drewN ?_ _ | refine blk_drew ?_ | refine blk_alloc ?_ _)); exact BK211.out⟩, ⟨by repeat (first | (with_reducible first | exact HB.out | apply below_alloc | apply pw_below_drewN | apply below_drew1 | refine below_set ?_ GE211.out) | exact HB.out)⟩⟩
      ·
       rw [if_neg c9] at H
       have c9b0 : decide (x5_1 < x6_1) = false := decide_eq_false c9
       clear c9
       obtain rfl := Option.some.inj H
       go_wp2
       repeat (go_quiet (fail); try go_wp2)
       go_ret
       exact ⟨by first | rfl | (simp [errW_none, errW_some] <;> rfl) | (simp only [← hji4]; first | rfl | (simp [errW_none, errW_some] <;> rfl)) | (simp [*, errW_none, errW_some] <;> rfl), by repeat (first | (with_reducible first | exact HB.out | apply below_alloc | apply pw_below_drewN | apply below_drew1 | refine below_set ?_ GE211.out) | exact HB.out)⟩
   ·
    rw [if_neg c6] at H
    exact absurd H (by simp)
  ·
   rw [if_neg c5] at H
   exact absurd H (by simp)
 ·
  rw [if_neg c3] at H
  exact absurd H (by simp)
end Go.Proofs.YtkolhpacpbhceaaDoor.Pr
namespace Go.Proofs.YtkolhpacpbhceaaDoor.Pr
open Go.RowKit Go.Proofs.YtkolhpacpbhceaaDoorW.PrintWords Go.Proofs.YtkolhpacpbhceaaDoorW.PrintLast Go.Proofs.YtkolhpacpbhceaaDoorW.PrintMore Go.Proofs.YtkolhpacpbhceaaDoor.X
attribute [local go_sem] max2_int min2_int max_two min_two max_three min_three max_four min_four   -- for this text's walks alone
set_option linter.unusedVariables false
set_option linter.unusedSimpArgs false
mutual
def spileref14_Make.j0 : Nat → Int → Bool → List (S39) → Int → Option ((List (S39)) × Int)
 | 0, _, _, _, _ => none
 | k + 1, x1, x18, x216000, x216001 => if x18 = true then (some (([] : List (S39)), 2)) else (if 0 ≤ (wrap64 ((x216000.length : Int) - 1)) then (if (wrap64 ((x216000.length : Int) - 1)) < (x216000.length : Int) then (if ((rd_T39 x216000 (wrap64 ((x216000.length : Int) - 1))).f1) < x1 then (some (([] : List (S39)), 9)) else (spileref14_Make.l0 k x1 ([] : List (S39)) x1 x216000 x216001 ((rd_T39 x216000 (wrap64 ((x216000.length : Int) - 1))).f0) ((rd_T39 x216000 (wrap64 ((x216000.length : Int) - 1))).f1))) else (none)) else (none))
def spileref14_Make.l0 : Nat → Int → List (S39) → Int → List (S39) → Int → Int → Int → Option ((List (S39)) × Int)
 | 0, _, _, _, _, _, _, _ => none
 | k + 1, x1, x7, x8, x216000, x216001, x219000, x219001 => if x8 ≤ x219001 then ((spileref14_least.f k x216000 x216001 x8).bind fun t219 => ((spileref13_At.f k x216000 x216001 t219).bind fun t220 => (if x1 = 0 then (none) else (if x7.length < 8796093022208 then ((some (x7 ++ [(⟨t219, wrap64 ((wrap64 (Int.tdiv t220 x1)) * x1)⟩ : S39)] : List (S39))).bind fun y221 => (if (y221.length : Int) > 128 then (some (([] : List (S39)), 8)) else (spileref14_Make.l0 k x1 y221 (wrap64 ((wrap64 ((wrap64 (Int.tdiv t220 x1)) * x1)) + x1)) x216000 x216001 x219000 x219001))) else (none))))) else (some (x7, 0))
end
def spileref14_Make.f (k : Nat) (l0_0 : List (S39)) (a0_1 : Int) (a1 : Int) : Option ((List (S39)) × Int) := (spileref13_Check.f k l0_0 a0_1).bind fun t216 => (if t216 = 0 then (if a1 < 1 then (spileref14_Make.j0 k a1 true l0_0 a0_1) else (spileref14_Make.j0 k a1 (decide (a1 > 1073741824)) l0_0 a0_1)) else (some (([] : List (S39)), 1)))
set_option maxHeartbeats 8000000 in
set_option maxRecDepth 100000 in
theorem spileref14_Make.calls (k : Nat) (A0_0 : Option Addr) (c0_0 : Nat) (l0_0 : List (S39)) (a0_1 : Int) (a1 : Int) (r1 : List (S39)) (r2 : Int) (w : World) (hr0_0 : Kd.C k39 w A0_0 l0_0.length l0_0) (hc0_0 : l0_0.length ≤ c0_0) (h : spileref14_Make.f k l0_0 a0_1 a1 = some (r1, r2)) :
  Calls Tryd.prog 14 #[.agg #[.slice A0_0 l0_0.length c0_0, .int .i64 a0_1], .int .i64 a1] w fun e w' => ∃ v0_ : Value, e = .returned (.tuple #[v0_, .int .i64 r2]) ∧ Kd.R k39 39 w' w.heap.size (fun _ => True) v0_ r1 ∧ Below w.heap.size w w' := by
 have hu24 := Tryd.underlying24
 have hu39 := Tryd.underlying39
 have HR0_0 := Aside0.mk hr0_0
 have HC0_0 := Aside0.mk hc0_0
 clear hr0_0 hc0_0
 have HB := Aside0.mk (Below.refl w.heap.size w)
 have H : ((spileref13_Check.f k l0_0 a0_1).bind fun t216 => (if t216 = 0 then (if a1 < 1 then (spileref14_Make.j0 k a1 true l0_0 a0_1) else (spileref14_Make.j0 k a1 (decide (a1 > 1073741824)) l0_0 a0_1)) else (some (([] : List (S39)), 1)))) = some (r1, r2) := h
 clear h
 replace H := Option.bind_eq_some_iff.mp H
 obtain ⟨t216, A30, H⟩ := H
 replace H : (if t216 = 0 then (if a1 < 1 then (spileref14_Make.j0 k a1 true l0_0 a0_1) else (spileref14_Make.j0 k a1 (decide (a1 > 1073741824)) l0_0 a0_1)) else (some (([] : List (S39)), 1))) = some (r1, r2) := H
 have A3 := Aside0.mk A30
 clear A30
 by_cases c4 : t216 = 0
 ·
  rw [if_pos c4] at H
  have c4b0 : (t216 == 0) = true := beq_iff_eq.mpr c4
  have c4b1 : (t216 != 0) = false := bne_eq_false_iff_eq.mpr c4
  clear c4
  have HC5 := Aside0.mk H
  clear H
  go_enter Tryd.func14, Tryd.ntmps14
  go_upto_region 3 with (first | ((with_reducible refine gate_dst (N := 2) rfl ?_); refine box_event ?hg (N := 2) ?hd (cs := #[.slice A0_0 l0_0.length c0_0, .int .i64 a0_1]) (t := 24) ?hr ?_; (case hd => rfl); (case hg => rfl); (case hr => first | (go_simp; done) | (go_simp; rfl)); intro gb215 hg w6 hbox hb; have n0_ := Aside0.mk (below_step (by repeat (first | (with_reducible first | exact HB.out | apply below_alloc | apply pw_below_drewN | apply below_drew1) | exact HB.out)) hb); have n1_ := Aside0.mk (hbox); have n2_ := Aside0.mk ((by rw [hg]; exact (below_size (by repeat (first | (with_reducible first | exact HB.out | apply below_alloc | apply pw_below_drewN | apply below_drew1) | exact HB.out))) : w.heap.size ≤ gb215)); have n3_ := Aside0.mk ((by rw [hg]; exact (below_size (by repeat (first | (with_reducible first | exact HB.out | apply below_alloc | apply pw_below_drewN | apply below_drew1) | exact HB.out))) : w.heap.size ≤ gb215)); clear HB; have HB := n0_; have BK215 := n1_; have GW215 := n2_; have GE215 := n3_; clear n0_ n1_ n2_ n3_; clear hb hbox hg; have hcz7_0 : w6.cell? ⟨gb215, 0, none⟩ = some (.slice A0_0 l0_0.length c0_0) := (blk_cell BK215.out 0).trans rfl; have hcz7_1 : w6.cell? ⟨gb215, 1, none⟩ = some (.int .i64 a0_1) := (blk_cell BK215.out 1).trans rfl; have hfz7_0 := blk_frozen BK215.out 0; have hfz7_1 := blk_frozen BK215.out 1) | ((with_reducible refine gate_callee (f := 34) rfl ?_); refine goesL_ (some 11) rfl rfl Tryd.func34 (by kernel_rfl) rfl #[.agg #[.slice A0_0 l0_0.length c0_0, .int .i64 a0_1]] rfl (by (try simp only [List.map_toArray, List.map_cons, List.map_nil]); first | done | rfl | (simp only [List.length_drop, List.length_take]; rfl)) ?_; (with_reducible refine (spileref13_Check.calls k _ _ l0_0 a0_1 t216 _ ?side1 ?side2 A3.out).mono ?_); (case side1 => repeat (first | exact (Kd.C_below HR0_0.out HB.out) | (with_reducible refine Kd.C_alloc ?_ _) | (with_reducible refine Kd.C_drewN ?_ _) | (with_reducible refine Kd.C_drew ?_))); (case side2 => exact HC0_0.out); rintro e w8 ⟨rfl, hb⟩; refine ⟨_, rfl, ?_⟩; have n0_ := Aside0.mk (blk_below (g := gb215) (o := .cells #[.slice A0_0 l0_0.length c0_0, .int .i64 a0_1] 24 (0, 0)) (by (with_reducible repeat (first | refine blk_drewN ?_ _ | refine blk_drew ?_ | refine blk_alloc ?_ _)); exact BK215.out) hb); have n1_ := Aside0.mk (below_step (by repeat (first | (with_reducible first | exact HB.out | apply below_alloc | apply pw_below_drewN | apply below_drew1 | refine below_set ?_ GE215.out) | exact HB.out)) hb); clear BK215; clear HB; have BK215 := n0_; have HB := n1_; clear n0_ n1_; (try clear hb); (try clear hb2); (try clear hk); (try clear hi)))
  (try simp only [Act.put, List.setIfInBounds_toArray, List.set_cons_zero, List.set_cons_succ])
  go_cut [18] (fun v18 wc => ∃ (kq : Nat) (x18_4 : Bool), v18 = .bool x18_4 ∧ Aside0 (spileref14_Make.j0 kq a1 x18_4 l0_0 a0_1 = some (r1, r2)) ∧ Aside0 (kq ≤ k) ∧ Aside0 (wc.heap[gb215]? = some (.cells #[(.slice A0_0 l0_0.length c0_0), .int .i64 a0_1] 24 (0, 0))) ∧ Aside0 (Below w.heap.size w wc))
  case first =>
   have H := HC5.out
   clear HC5
   by_cases c9 : a1 < 1
   ·
    rw [if_pos c9] at H
    have c9b0 : decide (a1 < 1) = true := decide_eq_true c9
    clear c9
    (first | rw [c9b0] | (simp only [i64_w, i32_w]; rw [c9b0]) | skip)
    have H' := Aside0.mk H
    clear H
    go_wp2
    go_meet
    case rel => exact ⟨_, (true), (by first | rfl | (simp; done) | (simp [*]; done)), H', ⟨by first | omega | exact Nat.le_refl _⟩, ⟨by (with_reducible repeat (first | refine blk_drewN ?_ _ | refine blk_drew ?_ | refine blk_alloc ?_ _)); exact BK215.out⟩, ⟨by repeat (first | (with_reducible first | exact HB.out | apply below_alloc | apply pw_below_drewN | apply below_drew1 | refine below_set ?_ GE215.out) | exact HB.out)⟩⟩
   ·
    rw [if_neg c9] at H
    have c9b0 : decide (a1 < 1) = false := decide_eq_false c9
    clear c9
    (first | rw [c9b0] | (simp only [i64_w, i32_w]; rw [c9b0]) | skip)
    have H' := Aside0.mk H
    clear H
    go_wp2
    go_meet
    case rel => exact ⟨_, (decide (a1 > 1073741824)), (by first | rfl | (simp; done) | (simp [*]; done)), H', ⟨by first | omega | exact Nat.le_refl _⟩, ⟨by (with_reducible repeat (first | refine blk_drewN ?_ _ | refine blk_drew ?_ | refine blk_alloc ?_ _)); exact BK215.out⟩, ⟨by repeat (first | (with_reducible first | exact HB.out | apply below_alloc | apply pw_below_drewN | apply below_drew1 | refine below_set ?_ GE215.out) | exact HB.out)⟩⟩
  case rest =>
   clear HC5
   try clear c1
   try clear p2
   try clear c3
   try clear c4
   try clear c4b0
   try clear c4b1
   try clear c9
   try clear c9b0
   try clear hcz7_0
   try clear hcz7_1
   try clear hfz7_0
   try clear hfz7_1
   obtain ⟨kq, x18_4, rfl, HA, HJ4, BK215, HB⟩ := hcut
   cases kq with
   | zero => exact absurd HA.out (by simp [spileref14_Make.j0])
   | succ kj4 =>
    have H := HA.out
    clear HA
    simp only [spileref14_Make.j0] at H
    by_cases c10 : x18_4 = true
    ·
     subst c10
     have H1 : (some (([] : List (S39)), 2)) = some (r1, r2) := by rw [if_pos rfl] at H; exact H
     clear H
     have H := H1
     clear H1
     simp only [Option.some.injEq, Prod.mk.injEq] at H
     obtain ⟨rfl, rfl⟩ := H
     go_wp2
     go_ret2
     exact ⟨_, by first | rfl | (simp [errW_none, errW_some] <;> rfl) | (simp [*, errW_none, errW_some] <;> rfl), by first | exact Kd.R_nil _ _ _ _ _ | exact Kd.N_nil _ _ _ _ _ | exact Kd.V_nil _ _ _ _ _ | exact Kd.Q_nil _ _ _ _ _ | exact Kd.S_nil _ _ _ _ _, by repeat (first | (with_reducible first | exact HB.out | apply below_alloc | apply pw_below_drewN | apply below_drew1 | refine below_set ?_ GE215.out) | exact HB.out)⟩
    ·
     replace c10 := Bool.eq_false_iff.mpr c10
     subst c10
     have H1 : (if 0 ≤ (wrap64 ((l0_0.length : Int) - 1)) then (if (wrap64 ((l0_0.length : Int) - 1)) < (l0_0.length : Int) then (if ((rd_T39 l0_0 (wrap64 ((l0_0.length : Int) - 1))).f1) < a1 then (some (([] : List (S39)), 9)) else (spileref14_Make.l0 kj4 a1 ([] : List (S39)) a1 l0_0 a0_1 ((rd_T39 l0_0 (wrap64 ((l0_0.length : Int) - 1))).f0) ((rd_T39 l0_0 (wrap64 ((l0_0.length : Int) - 1))).f1))) else (none)) else (none)) = some (r1, r2) := by rw [if_neg (show ¬ (false = true) by decide)] at H; exact H
     clear H
     have H := H1
     clear H1
     obtain ⟨ji11, hji11⟩ : ∃ j_ : Int, (wrap64 ((l0_0.length : Int) - 1)) = j_ := ⟨_, rfl⟩
     replace H : (if 0 ≤ (ji11) then (if (ji11) < (l0_0.length : Int) then (if ((rd_T39 l0_0 (ji11)).f1) < a1 then (some (([] : List (S39)), 9)) else (spileref14_Make.l0 kj4 a1 ([] : List (S39)) a1 l0_0 a0_1 ((rd_T39 l0_0 (ji11)).f0) ((rd_T39 l0_0 (ji11)).f1))) else (none)) else (none)) = some (r1, r2) := by first | (rw [hji11] at H; exact H) | (simp only [hji11] at H ⊢; exact H)
     have hji11w : (IntKind.i64.wrap ((l0_0.length : Int) - 1)) = ji11 := (i64_w _).trans hji11
     by_cases c12 : 0 ≤ (ji11)
     ·
      rw [if_pos c12] at H
      have c12b0 : decide (0 ≤ (ji11)) = true := decide_eq_true c12
      clear c12
      by_cases c13 : (ji11) < (l0_0.length : Int)
      ·
       rw [if_pos c13] at H
       have c13b0 : decide ((ji11) < (l0_0.length : Int)) = true := decide_eq_true c13
       clear c13
       by_cases c14 : ((rd_T39 l0_0 (ji11)).f1) < a1
       ·
        rw [if_pos c14] at H
        have c14b0 : decide (((rd_T39 l0_0 (ji11)).f1) < a1) = true := decide_eq_true c14
        clear c14
        simp only [Option.some.injEq, Prod.mk.injEq] at H
        obtain ⟨rfl, rfl⟩ := H
        have hcz15_0 : wc.cell? ⟨gb215, 0, none⟩ = some (.slice A0_0 l0_0.length c0_0) := (blk_cell BK215.out 0).trans rfl
        have hcz15_1 : wc.cell? ⟨gb215, 1, none⟩ = some (.int .i64 a0_1) := (blk_cell BK215.out 1).trans rfl
        have hfz15_0 := blk_frozen BK215.out 0
        have hfz15_1 := blk_frozen BK215.out 1
        have p217 : 0 ≤ ((ji11) : Int) := of_decide_eq_true (by first | (with_reducible assumption) | assumption)
        have q217 : (ji11) < (l0_0.length : Int) := of_decide_eq_true (by first | (with_reducible assumption) | assumption)
        obtain ⟨ad217, e217, hx217_0, hx217_1⟩ := at_T39 HR0_0.out (ji11) p217 q217
        cases e217
        replace hx217_0 := (HB.out.cell (World.block_lt_of_cell? w _ hx217_0)).trans hx217_0
        replace hx217_1 := (HB.out.cell (World.block_lt_of_cell? w _ hx217_1)).trans hx217_1
        replace p217 := eq_true p217
        replace q217 := eq_true q217
        go_wp2_with (first | ((with_reducible refine gate_dst (N := 6) rfl ?_); refine box_event ?hg (N := 6) ?hd (cs := #[.int .i64 0, .int .i64 0]) (t := 39) ?hr ?_; (case hd => rfl); (case hg => rfl); (case hr => first | (go_simp; done) | (go_simp; rfl)); intro gb218 hg w16 hbox hb; have n0_ := Aside0.mk (blk_below (g := gb215) (o := .cells #[.slice (some ad217) l0_0.length c0_0, .int .i64 a0_1] 24 (0, 0)) (by (with_reducible repeat (first | refine blk_drewN ?_ _ | refine blk_drew ?_ | refine blk_alloc ?_ _)); exact BK215.out) hb); have n1_ := Aside0.mk (below_step (by repeat (first | (with_reducible first | exact HB.out | apply below_alloc | apply pw_below_drewN | apply below_drew1 | refine below_set ?_ GE215.out) | exact HB.out)) hb); have n2_ := Aside0.mk (hbox); have n3_ := Aside0.mk ((by rw [hg]; exact (below_size (by repeat (first | (with_reducible first | exact HB.out | apply below_alloc | apply pw_below_drewN | apply below_drew1 | refine below_set ?_ GE215.out) | exact HB.out))) : w.heap.size ≤ gb218)); have n4_ := Aside0.mk ((by rw [hg]; exact (below_size (by repeat (first | (with_reducible first | exact HB.out | apply below_alloc | apply pw_below_drewN | apply below_drew1 | refine below_set ?_ GE215.out) | exact HB.out))) : w.heap.size ≤ gb218)); have n5_ := Aside0.mk ((by rw [hg]; exact Nat.ne_of_lt (blk_lt (g := gb215) (o := .cells #[.slice (some ad217) l0_0.length c0_0, .int .i64 a0_1] 24 (0, 0)) (by (with_reducible repeat (first | refine blk_drewN ?_ _ | refine blk_drew ?_ | refine blk_alloc ?_ _)); exact BK215.out)) : gb215 ≠ gb218)); have n6_ := Aside0.mk ((by rw [hg]; exact Nat.ne_of_gt (blk_lt (g := gb215) (o := .cells #[.slice (some ad217) l0_0.length c0_0, .int .i64 a0_1] 24 (0, 0)) (by (with_reducible repeat (first | refine blk_drewN ?_ _ | refine blk_drew ?_ | refine blk_alloc ?_ _)); exact BK215.out)) : gb218 ≠ gb215)); clear BK215; clear HB; have BK215 := n0_; have HB := n1_; have BK218 := n2_; have GW218 := n3_; have GE218 := n4_; have NB215_218 := n5_; have NB218_215 := n6_; clear n0_ n1_ n2_ n3_ n4_ n5_ n6_; clear hb hbox hg; have hnb17 := NB218_215.out; have hnc17 := NB215_218.out; have hcz18_0 : w16.cell? ⟨gb218, 0, none⟩ = some (.int .i64 0) := (blk_cell BK218.out 0).trans rfl; have hcz18_1 : w16.cell? ⟨gb218, 1, none⟩ = some (.int .i64 0) := (blk_cell BK218.out 1).trans rfl; have hfz18_0 := blk_frozen BK218.out 0; have hfz18_1 := blk_frozen BK218.out 1))
        go_ret2
        exact ⟨_, by first | rfl | (simp [errW_none, errW_some] <;> rfl) | (simp only [← hji11]; first | rfl | (simp [errW_none, errW_some] <;> rfl)) | (simp [*, errW_none, errW_some] <;> rfl), by first | exact Kd.R_nil _ _ _ _ _ | exact Kd.N_nil _ _ _ _ _ | exact Kd.V_nil _ _ _ _ _ | exact Kd.Q_nil _ _ _ _ _ | exact Kd.S_nil _ _ _ _ _, by repeat (first | (with_reducible first | exact HB.out | apply below_alloc | apply pw_below_drewN | apply below_drew1 | refine below_set ?_ GE215.out | refine below_set ?_ GE218.out) | exact HB.out)⟩
       ·
        rw [if_neg c14] at H
        have c14b0 : decide (((rd_T39 l0_0 (ji11)).f1) < a1) = false := decide_eq_false c14
        clear c14
        have H' := Aside0.mk H
        clear H
        have hcz19_0 : wc.cell? ⟨gb215, 0, none⟩ = some (.slice A0_0 l0_0.length c0_0) := (blk_cell BK215.out 0).trans rfl
        have hcz19_1 : wc.cell? ⟨gb215, 1, none⟩ = some (.int .i64 a0_1) := (blk_cell BK215.out 1).trans rfl
        have hfz19_0 := blk_frozen BK215.out 0
        have hfz19_1 := blk_frozen BK215.out 1
        have p217 : 0 ≤ ((ji11) : Int) := of_decide_eq_true (by first | (with_reducible assumption) | assumption)
        have q217 : (ji11) < (l0_0.length : Int) := of_decide_eq_true (by first | (with_reducible assumption) | assumption)
        obtain ⟨ad217, e217, hx217_0, hx217_1⟩ := at_T39 HR0_0.out (ji11) p217 q217
        cases e217
        replace hx217_0 := (HB.out.cell (World.block_lt_of_cell? w _ hx217_0)).trans hx217_0
        replace hx217_1 := (HB.out.cell (World.block_lt_of_cell? w _ hx217_1)).trans hx217_1
        replace p217 := eq_true p217
        replace q217 := eq_true q217
        go_wp2_with (first | ((with_reducible refine gate_dst (N := 6) rfl ?_); refine box_event ?hg (N := 6) ?hd (cs := #[.int .i64 0, .int .i64 0]) (t := 39) ?hr ?_; (case hd => rfl); (case hg => rfl); (case hr => first | (go_simp; done) | (go_simp; rfl)); intro gb218 hg w20 hbox hb; have n0_ := Aside0.mk (blk_below (g := gb215) (o := .cells #[.slice (some ad217) l0_0.length c0_0, .int .i64 a0_1] 24 (0, 0)) (by (with_reducible repeat (first | refine blk_drewN ?_ _ | refine blk_drew ?_ | refine blk_alloc ?_ _)); exact BK215.out) hb); have n1_ := Aside0.mk (below_step (by repeat (first | (with_reducible first | exact HB.out | apply below_alloc | apply pw_below_drewN | apply below_drew1 | refine below_set ?_ GE215.out) | exact HB.out)) hb); have n2_ := Aside0.mk (hbox); have n3_ := Aside0.mk ((by rw [hg]; exact (below_size (by repeat (first | (with_reducible first | exact HB.out | apply below_alloc | apply pw_below_drewN | apply below_drew1 | refine below_set ?_ GE215.out) | exact HB.out))) : w.heap.size ≤ gb218)); have n4_ := Aside0.mk ((by rw [hg]; exact (below_size (by repeat (first | (with_reducible first | exact HB.out | apply below_alloc | apply pw_below_drewN | apply below_drew1 | refine below_set ?_ GE215.out) | exact HB.out))) : w.heap.size ≤ gb218)); have n5_ := Aside0.mk ((by rw [hg]; exact Nat.ne_of_lt (blk_lt (g := gb215) (o := .cells #[.slice (some ad217) l0_0.length c0_0, .int .i64 a0_1] 24 (0, 0)) (by (with_reducible repeat (first | refine blk_drewN ?_ _ | refine blk_drew ?_ | refine blk_alloc ?_ _)); exact BK215.out)) : gb215 ≠ gb218)); have n6_ := Aside0.mk ((by rw [hg]; exact Nat.ne_of_gt (blk_lt (g := gb215) (o := .cells #[.slice (some ad217) l0_0.length c0_0, .int .i64 a0_1] 24 (0, 0)) (by (with_reducible repeat (first | refine blk_drewN ?_ _ | refine blk_drew ?_ | refine blk_alloc ?_ _)); exact BK215.out)) : gb218 ≠ gb215)); clear BK215; clear HB; have BK215 := n0_; have HB := n1_; have BK218 := n2_; have GW218 := n3_; have GE218 := n4_; have NB215_218 := n5_; have NB218_215 := n6_; clear n0_ n1_ n2_ n3_ n4_ n5_ n6_; clear hb hbox hg; have hnb21 := NB218_215.out; have hnc21 := NB215_218.out; have hcz22_0 : w20.cell? ⟨gb218, 0, none⟩ = some (.int .i64 0) := (blk_cell BK218.out 0).trans rfl; have hcz22_1 : w20.cell? ⟨gb218, 1, none⟩ = some (.int .i64 0) := (blk_cell BK218.out 1).trans rfl; have hfz22_0 := blk_frozen BK218.out 0; have hfz22_1 := blk_frozen BK218.out 1))
        go_loopg [7, 8] kj4 (fun kq v7 v8 w' => ∃ (x7_2 : List (S39)) (x8_2 : Int), v8 = .int .i64 x8_2 ∧ Aside0 (spileref14_Make.l0 kq a1 x7_2 x8_2 l0_0 a0_1 ((rd_T39 l0_0 (ji11)).f0) ((rd_T39 l0_0 (ji11)).f1) = some (r1, r2)) ∧ Aside0 (kq ≤ kj4) ∧ Aside0 (Kd.R k39 39 w' w.heap.size (fun k_ => k_ ≠ gb218) v7 x7_2) ∧ Aside0 (w'.heap[gb215]? = some (.cells #[(.slice (some ad217) l0_0.length c0_0), .int .i64 a0_1] 24 (0, 0))) ∧ Aside0 (w'.heap[gb218]? = some (.cells #[.int .i64 ((rd_T39 l0_0 (ji11)).f0), .int .i64 ((rd_T39 l0_0 (ji11)).f1)] 39 (0, 0))) ∧ Aside0 (Below w.heap.size w w'))
        case atStart => exact ⟨(([] : List (S39))), (a1), (by first | rfl | (simp; done) | (simp [*]; done)), H', ⟨Nat.le_refl _⟩, ⟨by first | exact Kd.R_nil _ _ _ _ _ | exact Kd.N_nil _ _ _ _ _ | exact Kd.V_nil _ _ _ _ _ | exact Kd.Q_nil _ _ _ _ _ | exact Kd.S_nil _ _ _ _ _⟩, ⟨by (with_reducible repeat (first | refine blk_drewN ?_ _ | refine blk_drew ?_ | refine blk_alloc ?_ _)); refine blk_far ?_ NB215_218.out _; (with_reducible repeat (first | refine blk_drewN ?_ _ | refine blk_drew ?_ | refine blk_alloc ?_ _)); refine blk_far ?_ NB215_218.out _; (with_reducible repeat (first | refine blk_drewN ?_ _ | refine blk_drew ?_ | refine blk_alloc ?_ _)); exact BK215.out⟩, ⟨by (with_reducible repeat (first | refine blk_drewN ?_ _ | refine blk_drew ?_ | refine blk_alloc ?_ _)); refine blk_put (cs := #[.int .i64 ((rd_T39 l0_0 (ji11)).f0), .int .i64 0]) ?_ 1 _ rfl; (with_reducible repeat (first | refine blk_drewN ?_ _ | refine blk_drew ?_ | refine blk_alloc ?_ _)); refine blk_put (cs := #[.int .i64 0, .int .i64 0]) ?_ 0 _ rfl; (with_reducible repeat (first | refine blk_drewN ?_ _ | refine blk_drew ?_ | refine blk_alloc ?_ _)); exact BK218.out⟩, ⟨by repeat (first | (with_reducible first | exact HB.out | apply below_alloc | apply pw_below_drewN | apply below_drew1 | refine below_set ?_ GE215.out | refine below_set ?_ GE218.out) | exact HB.out)⟩⟩
        case round =>
         clear H'
         try clear c1
         try clear c2
         try clear p2
         try clear q2
         try clear hx2
         try clear c3
         try clear c4
         try clear c4b0
         try clear c4b1
         try clear p6
         try clear c9
         try clear c9b0
         try clear c10
         try clear c12
         try clear c12b0
         try clear c13
         try clear c13b0
         try clear c14
         try clear c14b0
         try clear c17
         try clear c21
         try clear p21
         try clear q21
         try clear hx21
         try clear hcz15_0
         try clear hcz15_1
         try clear hcz18_0
         try clear hcz18_1
         try clear hcz19_0
         try clear hcz19_1
         try clear hcz22_0
         try clear hcz22_1
         try clear hcz7_0
         try clear hcz7_1
         try clear hfz15_0
         try clear hfz15_1
         try clear hfz18_0
         try clear hfz18_1
         try clear hfz19_0
         try clear hfz19_1
         try clear hfz22_0
         try clear hfz22_1
         try clear hfz7_0
         try clear hfz7_1
         try clear hx217_0
         try clear hx217_1
         try clear p2
         try clear p217
         try clear q217
         obtain ⟨x7_2, x8_2, rfl, HA, HK2, HO_7, BK215, BK218, HB⟩ := hrel
         cases gk with
         | zero => exact absurd HA.out (by simp [spileref14_Make.l0])
         | succ k2 =>
          have H := HA.out
          clear HA
          simp only [spileref14_Make.l0] at H
          by_cases c23 : x8_2 ≤ ((rd_T39 l0_0 (ji11)).f1)
          ·
           rw [if_pos c23] at H
           have c23b0 : decide (x8_2 ≤ ((rd_T39 l0_0 (ji11)).f1)) = true := decide_eq_true c23
           clear c23
           replace H := Option.bind_eq_some_iff.mp H
           obtain ⟨t219, A240, H⟩ := H
           replace H : ((spileref13_At.f k2 l0_0 a0_1 t219).bind fun t220 => (if a1 = 0 then (none) else (if x7_2.length < 8796093022208 then ((some (x7_2 ++ [(⟨t219, wrap64 ((wrap64 (Int.tdiv t220 a1)) * a1)⟩ : S39)] : List (S39))).bind fun y221 => (if (y221.length : Int) > 128 then (some (([] : List (S39)), 8)) else (spileref14_Make.l0 k2 a1 y221 (wrap64 ((wrap64 ((wrap64 (Int.tdiv t220 a1)) * a1)) + a1)) l0_0 a0_1 ((rd_T39 l0_0 (ji11)).f0) ((rd_T39 l0_0 (ji11)).f1)))) else (none)))) = some (r1, r2) := H
           have A24 := Aside0.mk A240
           clear A240
           replace H := Option.bind_eq_some_iff.mp H
           obtain ⟨t220, A250, H⟩ := H
           replace H : (if a1 = 0 then (none) else (if x7_2.length < 8796093022208 then ((some (x7_2 ++ [(⟨t219, wrap64 ((wrap64 (Int.tdiv t220 a1)) * a1)⟩ : S39)] : List (S39))).bind fun y221 => (if (y221.length : Int) > 128 then (some (([] : List (S39)), 8)) else (spileref14_Make.l0 k2 a1 y221 (wrap64 ((wrap64 ((wrap64 (Int.tdiv t220 a1)) * a1)) + a1)) l0_0 a0_1 ((rd_T39 l0_0 (ji11)).f0) ((rd_T39 l0_0 (ji11)).f1)))) else (none))) = some (r1, r2) := H
           have A25 := Aside0.mk A250
           clear A250
           by_cases c26 : a1 = 0
           ·
            rw [if_pos c26] at H
            exact absurd H (by simp)
           ·
            rw [if_neg c26] at H
            have c26b0 : (a1 == 0) = false := beq_eq_false_iff_ne.mpr c26
            have c26b1 : (a1 != 0) = true := bne_iff_ne.mpr c26
            by_cases c27 : x7_2.length < 8796093022208
            ·
             rw [if_pos c27] at H
             have LMc27 := Aside0.mk c27
             clear c27
             obtain ⟨y221, hy221⟩ : ∃ y_ : List (S39), y_ = (x7_2 ++ [(⟨t219, wrap64 ((wrap64 (Int.tdiv t220 a1)) * a1)⟩ : S39)]) := ⟨_, rfl⟩
             replace H : (if (y221.length : Int) > 128 then (some (([] : List (S39)), 8)) else (spileref14_Make.l0 k2 a1 y221 (wrap64 ((wrap64 ((wrap64 (Int.tdiv t220 a1)) * a1)) + a1)) l0_0 a0_1 ((rd_T39 l0_0 (ji11)).f0) ((rd_T39 l0_0 (ji11)).f1))) = some (r1, r2) := by first | (rw [hy221]; with_reducible exact H) | (have H2_ := (Option.bind_some _ _).symm.trans H; rw [hy221]; with_reducible exact H2_) | (have H2_ := (Option.bind_some _ _).symm.trans H; with_reducible exact H2_) | with_reducible exact H | (rw [hy221]; exact H) | exact H
             have Ny221 := Aside0.mk hy221
             clear hy221
             by_cases c28 : (y221.length : Int) > 128
             ·
              rw [if_pos c28] at H
              have c28b0 : decide (128 < (y221.length : Int)) = true := decide_eq_true c28
              have c28b1 : decide (128 < y221.length) = true := decide_eq_true (by omega)
              clear c28
              simp only [Option.some.injEq, Prod.mk.injEq] at H
              obtain ⟨rfl, rfl⟩ := H
              have hnb29 := NB218_215.out
              have hnc29 := NB215_218.out
              have hcz30_0 : wr.cell? ⟨gb218, 0, none⟩ = some (.int .i64 ((rd_T39 l0_0 (ji11)).f0)) := (blk_cell BK218.out 0).trans rfl
              have hcz30_1 : wr.cell? ⟨gb218, 1, none⟩ = some (.int .i64 ((rd_T39 l0_0 (ji11)).f1)) := (blk_cell BK218.out 1).trans rfl
              have hfz30_0 := blk_frozen BK218.out 0
              have hfz30_1 := blk_frozen BK218.out 1
              have hcz31_0 : wr.cell? ⟨gb215, 0, none⟩ = some (.slice (some ad217) l0_0.length c0_0) := (blk_cell BK215.out 0).trans rfl
              have hcz31_1 : wr.cell? ⟨gb215, 1, none⟩ = some (.int .i64 a0_1) := (blk_cell BK215.out 1).trans rfl
              have hfz31_0 := blk_frozen BK215.out 0
              have hfz31_1 := blk_frozen BK215.out 1
              go_wp2_with (first | ((with_reducible refine gate_callee (f := 35) rfl ?_); refine goesL_ (some 38) rfl rfl Tryd.func35 (by kernel_rfl) rfl #[.agg #[.slice (some ad217) l0_0.length c0_0, .int .i64 a0_1], .int .i64 x8_2] rfl (by (try simp only [List.map_toArray, List.map_cons, List.map_nil]); first | done | rfl | (simp only [List.length_drop, List.length_take]; rfl)) ?_; (with_reducible refine (spileref14_least.calls k2 _ _ l0_0 a0_1 x8_2 t219 _ ?side1 ?side2 A24.out).mono ?_); (case side1 => repeat (first | exact (Kd.C_below HR0_0.out HB.out) | (with_reducible refine Kd.C_alloc ?_ _) | (with_reducible refine Kd.C_drewN ?_ _) | (with_reducible refine Kd.C_drew ?_))); (case side2 => exact HC0_0.out); rintro e w32 ⟨rfl, hb⟩; refine ⟨_, rfl, ?_⟩; have n0_ := Aside0.mk (Kd.R_below (by (with_reducible repeat (first | apply Kd.R_alloc | apply Kd.R_drewN | apply Kd.R_drew)); exact HO_7.out) hb); have n1_ := Aside0.mk (blk_below (g := gb215) (o := .cells #[.slice (some ad217) l0_0.length c0_0, .int .i64 a0_1] 24 (0, 0)) (by (with_reducible repeat (first | refine blk_drewN ?_ _ | refine blk_drew ?_ | refine blk_alloc ?_ _)); exact BK215.out) hb); have n2_ := Aside0.mk (blk_below (g := gb218) (o := .cells #[.int .i64 ((rd_T39 l0_0 (ji11)).f0), .int .i64 ((rd_T39 l0_0 (ji11)).f1)] 39 (0, 0)) (by (with_reducible repeat (first | refine blk_drewN ?_ _ | refine blk_drew ?_ | refine blk_alloc ?_ _)); exact BK218.out) hb); have n3_ := Aside0.mk (below_step (by repeat (first | (with_reducible first | exact HB.out | apply below_alloc | apply pw_below_drewN | apply below_drew1 | refine below_set ?_ GE215.out | refine below_set ?_ GE218.out) | exact HB.out)) hb); clear HO_7; clear BK215; clear BK218; clear HB; have HO_7 := n0_; have BK215 := n1_; have BK218 := n2_; have HB := n3_; clear n0_ n1_ n2_ n3_; (try clear hb); (try clear hb2); (try clear hk); (try clear hi); have hcz33_0 : w32.cell? ⟨gb215, 0, none⟩ = some (.slice (some ad217) l0_0.length c0_0) := (blk_cell BK215.out 0).trans rfl; have hcz33_1 : w32.cell? ⟨gb215, 1, none⟩ = some (.int .i64 a0_1) := (blk_cell BK215.out 1).trans rfl; have hfz33_0 := blk_frozen BK215.out 0; have hfz33_1 := blk_frozen BK215.out 1) | ((with_reducible refine gate_callee (f := 36) rfl ?_); refine goesL_ (some 41) rfl rfl Tryd.func36 (by kernel_rfl) rfl #[.agg #[.slice (some ad217) l0_0.length c0_0, .int .i64 a0_1], .int .i64 t219] rfl (by (try simp only [List.map_toArray, List.map_cons, List.map_nil]); first | done | rfl | (simp only [List.length_drop, List.length_take]; rfl)) ?_; (with_reducible refine (spileref13_At.calls k2 _ _ l0_0 a0_1 t219 t220 _ ?side1 ?side2 A25.out).mono ?_); (case side1 => repeat (first | exact (Kd.C_below HR0_0.out HB.out) | (with_reducible refine Kd.C_alloc ?_ _) | (with_reducible refine Kd.C_drewN ?_ _) | (with_reducible refine Kd.C_drew ?_))); (case side2 => exact HC0_0.out); rintro e w34 ⟨rfl, hb⟩; refine ⟨_, rfl, ?_⟩; have n0_ := Aside0.mk (Kd.R_below (by (with_reducible repeat (first | apply Kd.R_alloc | apply Kd.R_drewN | apply Kd.R_drew)); exact HO_7.out) hb); have n1_ := Aside0.mk (blk_below (g := gb215) (o := .cells #[.slice (some ad217) l0_0.length c0_0, .int .i64 a0_1] 24 (0, 0)) (by (with_reducible repeat (first | refine blk_drewN ?_ _ | refine blk_drew ?_ | refine blk_alloc ?_ _)); exact BK215.out) hb); have n2_ := Aside0.mk (blk_below (g := gb218) (o := .cells #[.int .i64 ((rd_T39 l0_0 (ji11)).f0), .int .i64 ((rd_T39 l0_0 (ji11)).f1)] 39 (0, 0)) (by (with_reducible repeat (first | refine blk_drewN ?_ _ | refine blk_drew ?_ | refine blk_alloc ?_ _)); exact BK218.out) hb); have n3_ := Aside0.mk (below_step (by repeat (first | (with_reducible first | exact HB.out | apply below_alloc | apply pw_below_drewN | apply below_drew1 | refine below_set ?_ GE215.out | refine below_set ?_ GE218.out) | exact HB.out)) hb); clear HO_7; clear BK215; clear BK218; clear HB; have HO_7 := n0_; have BK215 := n1_; have BK218 := n2_; have HB := n3_; clear n0_ n1_ n2_ n3_; (try clear hb); (try clear hb2); (try clear hk); (try clear hi)) | ((with_reducible refine gate_builtin (b := .append) (xs := #[.tmp 46, .tmp 50]) rfl ?_); at_builtin; refine Kd.R_append k39 (w0 := w) w.heap.size rfl (.tmp 46) (.tmp 50) 22 39 (.agg #[(.int .i64 0), (.int .i64 0)]) 16 rfl Tryd.underlying22 info39 rfl (by decide) (by omega) u7 x7_2 (⟨t219, wrap64 ((wrap64 (Int.tdiv t220 a1)) * a1)⟩ : S39) [.int .i64 t219, .int .i64 (wrap64 ((wrap64 (Int.tdiv t220 a1)) * a1))] (fun k_ => k_ ≠ gb218) (fun _ => False) rfl rfl ?aP (fun _ hk => hk.elim) ?aF ?aO ?aB ?aS ?aL ?_; (case aP => exact k39_mkM _ _ _ (⟨t219, wrap64 ((wrap64 (Int.tdiv t220 a1)) * a1)⟩ : S39)); (case aB => exact (by repeat (first | (with_reducible first | exact HB.out | apply below_alloc | apply pw_below_drewN | apply below_drew1 | refine below_set ?_ GE215.out | refine below_set ?_ GE218.out) | exact HB.out))); (case aF => exact (fun k_ hk => Kd.freshB (g := gb218) (o := .cells #[.int .i64 ((rd_T39 l0_0 (ji11)).f0), .int .i64 ((rd_T39 l0_0 (ji11)).f1)] 39 (0, 0)) (by (with_reducible repeat (first | refine blk_drewN ?_ _ | refine blk_drew ?_ | refine blk_alloc ?_ _)); exact BK218.out) k_ hk)); (case aO => exact (by (with_reducible repeat (first | apply Kd.R_alloc | apply Kd.R_drewN | apply Kd.R_drew)); exact HO_7.out)); (case aS => exact (below_size (by repeat (first | (with_reducible first | exact HB.out | apply below_alloc | apply pw_below_drewN | apply below_drew1 | refine below_set ?_ GE215.out | refine below_set ?_ GE218.out) | exact HB.out)))); (case aL => have := LMc27.out; omega); intro v222 w35 ho hb hg hat; rw [← Ny221.out] at ho; have n0_ := Aside0.mk (blk_grown (g := gb215) (o := .cells #[.slice (some ad217) l0_0.length c0_0, .int .i64 a0_1] 24 (0, 0)) (by (with_reducible repeat (first | refine blk_drewN ?_ _ | refine blk_drew ?_ | refine blk_alloc ?_ _)); exact BK215.out) hg (Kd.R_ne HO_7.out BK215.out (by decide))); have n1_ := Aside0.mk (blk_grown (g := gb218) (o := .cells #[.int .i64 ((rd_T39 l0_0 (ji11)).f0), .int .i64 ((rd_T39 l0_0 (ji11)).f1)] 39 (0, 0)) (by (with_reducible repeat (first | refine blk_drewN ?_ _ | refine blk_drew ?_ | refine blk_alloc ?_ _)); exact BK218.out) hg (Kd.R_away HO_7.out (fun _ hk => hk))); have n2_ := Aside0.mk (hb); have n3_ := Aside0.mk (ho); clear BK215; clear BK218; clear HB; clear HO_7; have BK215 := n0_; have BK218 := n1_; have HB := n2_; have HO223 := n3_; clear n0_ n1_ n2_ n3_; clear ho hb hg hat; obtain ⟨Ao36, co36, eo36⟩ := Kd.R_slice HO223.out; subst eo36))
              go_ret2
              exact ⟨_, by first | rfl | (simp [errW_none, errW_some] <;> rfl) | (simp only [← hji11]; first | rfl | (simp [errW_none, errW_some] <;> rfl)) | (simp [*, errW_none, errW_some] <;> rfl), by first | exact Kd.R_nil _ _ _ _ _ | exact Kd.N_nil _ _ _ _ _ | exact Kd.V_nil _ _ _ _ _ | exact Kd.Q_nil _ _ _ _ _ | exact Kd.S_nil _ _ _ _ _, by repeat (first | (with_reducible first | exact HB.out | apply below_alloc | apply pw_below_drewN | apply below_drew1 | refine below_set ?_ GE215.out | refine below_set ?_ GE218.out) | exact HB.out)⟩
             ·
              rw [if_neg c28] at H
              have c28b0 : decide (128 < (y221.length : Int)) = false := decide_eq_false c28
              have c28b1 : decide (128 < y221.length) = false := decide_eq_false (by omega)
              clear c28
              have H' := Aside0.mk H
              clear H
              have hnb37 := NB218_215.out
              have hnc37 := NB215_218.out
              have hcz38_0 : wr.cell? ⟨gb218, 0, none⟩ = some (.int .i64 ((rd_T39 l0_0 (ji11)).f0)) := (blk_cell BK218.out 0).trans rfl
              have hcz38_1 : wr.cell? ⟨gb218, 1, none⟩ = some (.int .i64 ((rd_T39 l0_0 (ji11)).f1)) := (blk_cell BK218.out 1).trans rfl
              have hfz38_0 := blk_frozen BK218.out 0
              have hfz38_1 := blk_frozen BK218.out 1
              have hcz39_0 : wr.cell? ⟨gb215, 0, none⟩ = some (.slice (some ad217) l0_0.length c0_0) := (blk_cell BK215.out 0).trans rfl
              have hcz39_1 : wr.cell? ⟨gb215, 1, none⟩ = some (.int .i64 a0_1) := (blk_cell BK215.out 1).trans rfl
              have hfz39_0 := blk_frozen BK215.out 0
              have hfz39_1 := blk_frozen BK215.out 1
              go_wp2_with (first | ((with_reducible refine gate_callee (f := 35) rfl ?_); refine goesL_ (some 38) rfl rfl Tryd.func35 (by kernel_rfl) rfl #[.agg #[.slice (some ad217) l0_0.length c0_0, .int .i64 a0_1], .int .i64 x8_2] rfl (by (try simp only [List.map_toArray, List.map_cons, List.map_nil]); first | done | rfl | (simp only [List.length_drop, List.length_take]; rfl)) ?_; (with_reducible refine (spileref14_least.calls k2 _ _ l0_0 a0_1 x8_2 t219 _ ?side1 ?side2 A24.out).mono ?_); (case side1 => repeat (first | exact (Kd.C_below HR0_0.out HB.out) | (with_reducible refine Kd.C_alloc ?_ _) | (with_reducible refine Kd.C_drewN ?_ _) | (with_reducible refine Kd.C_drew ?_))); (case side2 => exact HC0_0.out); rintro e w40 ⟨rfl, hb⟩; refine ⟨_, rfl, ?_⟩; have n0_ := Aside0.mk (Kd.R_below (by (with_reducible repeat (first | apply Kd.R_alloc | apply Kd.R_drewN | apply Kd.R_drew)); exact HO_7.out) hb); have n1_ := Aside0.mk (blk_below (g := gb215) (o := .cells #[.slice (some ad217) l0_0.length c0_0, .int .i64 a0_1] 24 (0, 0)) (by (with_reducible repeat (first | refine blk_drewN ?_ _ | refine blk_drew ?_ | refine blk_alloc ?_ _)); exact BK215.out) hb); have n2_ := Aside0.mk (blk_below (g := gb218) (o := .cells #[.int .i64 ((rd_T39 l0_0 (ji11)).f0), .int .i64 ((rd_T39 l0_0 (ji11)).f1)] 39 (0, 0)) (by (with_reducible repeat (first | refine blk_drewN ?_ _ | refine blk_drew ?_ | refine blk_alloc ?_ _)); exact BK218.out) hb); have n3_ := Aside0.mk (below_step (by repeat (first | (with_reducible first | exact HB.out | apply below_alloc | apply pw_below_drewN | apply below_drew1 | refine below_set ?_ GE215.out | refine below_set ?_ GE218.out) | exact HB.out)) hb); clear HO_7; clear BK215; clear BK218; clear HB; have HO_7 := n0_; have BK215 := n1_; have BK218 := n2_; have HB := n3_; clear n0_ n1_ n2_ n3_; (try clear hb); (try clear hb2); (try clear hk); (try clear hi); have hcz41_0 : w40.cell? ⟨gb215, 0, none⟩ = some (.slice (some ad217) l0_0.length c0_0) := (blk_cell BK215.out 0).trans rfl; have hcz41_1 : w40.cell? ⟨gb215, 1, none⟩ = some (.int .i64 a0_1) := (blk_cell BK215.out 1).trans rfl; have hfz41_0 := blk_frozen BK215.out 0; have hfz41_1 := blk_frozen BK215.out 1) | ((with_reducible refine gate_callee (f := 36) rfl ?_); refine goesL_ (some 41) rfl rfl Tryd.func36 (by kernel_rfl) rfl #[.agg #[.slice (some ad217) l0_0.length c0_0, .int .i64 a0_1], .int .i64 t219] rfl (by (try simp only [List.map_toArray, List.map_cons, List.map_nil]); first | done | rfl | (simp only [List.length_drop, List.length_take]; rfl)) ?_; (with_reducible refine (spileref13_At.calls k2 _ _ l0_0 a0_1 t219 t220 _ ?side1 ?side2 A25.out).mono ?_); (case side1 => repeat (first | exact (Kd.C_below HR0_0.out HB.out) | (with_reducible refine Kd.C_alloc ?_ _) | (with_reducible refine Kd.C_drewN ?_ _) | (with_reducible refine Kd.C_drew ?_))); (case side2 => exact HC0_0.out); rintro e w42 ⟨rfl, hb⟩; refine ⟨_, rfl, ?_⟩; have n0_ := Aside0.mk (Kd.R_below (by (with_reducible repeat (first | apply Kd.R_alloc | apply Kd.R_drewN | apply Kd.R_drew)); exact HO_7.out) hb); have n1_ := Aside0.mk (blk_below (g := gb215) (o := .cells #[.slice (some ad217) l0_0.length c0_0, .int .i64 a0_1] 24 (0, 0)) (by (with_reducible repeat (first | refine blk_drewN ?_ _ | refine blk_drew ?_ | refine blk_alloc ?_ _)); exact BK215.out) hb); have n2_ := Aside0.mk (blk_below (g := gb218) (o := .cells #[.int .i64 ((rd_T39 l0_0 (ji11)).f0), .int .i64 ((rd_T39 l0_0 (ji11)).f1)] 39 (0, 0)) (by (with_reducible repeat (first | refine blk_drewN ?_ _ | refine blk_drew ?_ | refine blk_alloc ?_ _)); exact BK218.out) hb); have n3_ := Aside0.mk (below_step (by repeat (first | (with_reducible first | exact HB.out | apply below_alloc | apply pw_below_drewN | apply below_drew1 | refine below_set ?_ GE215.out | refine below_set ?_ GE218.out) | exact HB.out)) hb); clear HO_7; clear BK215; clear BK218; clear HB; have HO_7 := n0_; have BK215 := n1_; have BK218 := n2_; have HB := n3_; clear n0_ n1_ n2_ n3_; (try clear hb); (try clear hb2); (try clear hk); (try clear hi)) | ((with_reducible refine gate_builtin (b := .append) (xs := #[.tmp 46, .tmp 50]) rfl ?_); at_builtin; refine Kd.R_append k39 (w0 := w) w.heap.size rfl (.tmp 46) (.tmp 50) 22 39 (.agg #[(.int .i64 0), (.int .i64 0)]) 16 rfl Tryd.underlying22 info39 rfl (by decide) (by omega) u7 x7_2 (⟨t219, wrap64 ((wrap64 (Int.tdiv t220 a1)) * a1)⟩ : S39) [.int .i64 t219, .int .i64 (wrap64 ((wrap64 (Int.tdiv t220 a1)) * a1))] (fun k_ => k_ ≠ gb218) (fun _ => False) rfl rfl ?aP (fun _ hk => hk.elim) ?aF ?aO ?aB ?aS ?aL ?_; (case aP => exact k39_mkM _ _ _ (⟨t219, wrap64 ((wrap64 (Int.tdiv t220 a1)) * a1)⟩ : S39)); (case aB => exact (by repeat (first | (with_reducible first | exact HB.out | apply below_alloc | apply pw_below_drewN | apply below_drew1 | refine below_set ?_ GE215.out | refine below_set ?_ GE218.out) | exact HB.out))); (case aF => exact (fun k_ hk => Kd.freshB (g := gb218) (o := .cells #[.int .i64 ((rd_T39 l0_0 (ji11)).f0), .int .i64 ((rd_T39 l0_0 (ji11)).f1)] 39 (0, 0)) (by (with_reducible repeat (first | refine blk_drewN ?_ _ | refine blk_drew ?_ | refine blk_alloc ?_ _)); exact BK218.out) k_ hk)); (case aO => exact (by (with_reducible repeat (first | apply Kd.R_alloc | apply Kd.R_drewN | apply Kd.R_drew)); exact HO_7.out)); (case aS => exact (below_size (by repeat (first | (with_reducible first | exact HB.out | apply below_alloc | apply pw_below_drewN | apply below_drew1 | refine below_set ?_ GE215.out | refine below_set ?_ GE218.out) | exact HB.out)))); (case aL => have := LMc27.out; omega); intro v222 w43 ho hb hg hat; rw [← Ny221.out] at ho; have n0_ := Aside0.mk (blk_grown (g := gb215) (o := .cells #[.slice (some ad217) l0_0.length c0_0, .int .i64 a0_1] 24 (0, 0)) (by (with_reducible repeat (first | refine blk_drewN ?_ _ | refine blk_drew ?_ | refine blk_alloc ?_ _)); exact BK215.out) hg (Kd.R_ne HO_7.out BK215.out (by decide))); have n1_ := Aside0.mk (blk_grown (g := gb218) (o := .cells #[.int .i64 ((rd_T39 l0_0 (ji11)).f0), .int .i64 ((rd_T39 l0_0 (ji11)).f1)] 39 (0, 0)) (by (with_reducible repeat (first | refine blk_drewN ?_ _ | refine blk_drew ?_ | refine blk_alloc ?_ _)); exact BK218.out) hg (Kd.R_away HO_7.out (fun _ hk => hk))); have n2_ := Aside0.mk (hb); have n3_ := Aside0.mk (ho); clear BK215; clear BK218; clear HB; clear HO_7; have BK215 := n0_; have BK218 := n1_; have HB := n2_; have HO223 := n3_; clear n0_ n1_ n2_ n3_; clear ho hb hg hat; obtain ⟨Ao44, co44, eo44⟩ := Kd.R_slice HO223.out; subst eo44))
              go_roundg k2
              case measure => have := HJ4.out; have := HK2.out; omega
              case rel => exact ⟨(y221), (wrap64 ((wrap64 ((wrap64 (Int.tdiv t220 a1)) * a1)) + a1)), (by first | rfl | (simp; done) | (simp [*]; done)), H', ⟨by have := HJ4.out; have := HK2.out; omega⟩, ⟨by (with_reducible repeat (first | apply Kd.R_alloc | apply Kd.R_drewN | apply Kd.R_drew)); exact HO223.out⟩, ⟨by (with_reducible repeat (first | refine blk_drewN ?_ _ | refine blk_drew ?_ | refine blk_alloc ?_ _)); exact BK215.out⟩, ⟨by (with_reducible repeat (first | refine blk_drewN ?_ _ | refine blk_drew ?_ | refine blk_alloc ?_ _)); exact BK218.out⟩, ⟨by repeat (first | (with_reducible first | exact HB.out | apply below_alloc | apply pw_below_drewN | apply below_drew1 | refine below_set ?_ GE215.out | refine below_set ?_ GE218.out) | exact HB.out)⟩⟩
            ·
             rw [if_neg c27] at H
             exact absurd H (by simp)
          ·
           rw [if_neg c23] at H
           have c23b0 : decide (x8_2 ≤ ((rd_T39 l0_0 (ji11)).f1)) = false := decide_eq_false c23
           clear c23
           simp only [Option.some.injEq, Prod.mk.injEq] at H
           obtain ⟨rfl, rfl⟩ := H
           have hnb45 := NB218_215.out
           have hnc45 := NB215_218.out
           have hcz46_0 : wr.cell? ⟨gb218, 0, none⟩ = some (.int .i64 ((rd_T39 l0_0 (ji11)).f0)) := (blk_cell BK218.out 0).trans rfl
           have hcz46_1 : wr.cell? ⟨gb218, 1, none⟩ = some (.int .i64 ((rd_T39 l0_0 (ji11)).f1)) := (blk_cell BK218.out 1).trans rfl
           have hfz46_0 := blk_frozen BK218.out 0
           have hfz46_1 := blk_frozen BK218.out 1
           go_wp2
           go_ret2
           exact ⟨_, by first | rfl | (simp [errW_none, errW_some] <;> rfl) | (simp only [← hji11]; first | rfl | (simp [errW_none, errW_some] <;> rfl)) | (simp [*, errW_none, errW_some] <;> rfl), by (with_reducible repeat (first | apply Kd.R_alloc | apply Kd.R_drewN | apply Kd.R_drew)); exact Kd.R_mono HO_7.out (fun _ hk => trivial), by repeat (first | (with_reducible first | exact HB.out | apply below_alloc | apply pw_below_drewN | apply below_drew1 | refine below_set ?_ GE215.out | refine below_set ?_ GE218.out) | exact HB.out)⟩
      ·
       rw [if_neg c13] at H
       exact absurd H (by simp)
     ·
      rw [if_neg c12] at H
      exact absurd H (by simp)
 ·
  rw [if_neg c4] at H
  have c4b0 : (t216 == 0) = false := beq_eq_false_iff_ne.mpr c4
  have c4b1 : (t216 != 0) = true := bne_iff_ne.mpr c4
  simp only [Option.some.injEq, Prod.mk.injEq] at H
  obtain ⟨rfl, rfl⟩ := H
  go_enter Tryd.func14, Tryd.ntmps14
  go_wp2_with (first | ((with_reducible refine gate_dst (N := 2) rfl ?_); refine box_event ?hg (N := 2) ?hd (cs := #[.slice A0_0 l0_0.length c0_0, .int .i64 a0_1]) (t := 24) ?hr ?_; (case hd => rfl); (case hg => rfl); (case hr => first | (go_simp; done) | (go_simp; rfl)); intro gb215 hg w47 hbox hb; have n0_ := Aside0.mk (below_step (by repeat (first | (with_reducible first | exact HB.out | apply below_alloc | apply pw_below_drewN | apply below_drew1) | exact HB.out)) hb); have n1_ := Aside0.mk (hbox); have n2_ := Aside0.mk ((by rw [hg]; exact (below_size (by repeat (first | (with_reducible first | exact HB.out | apply below_alloc | apply pw_below_drewN | apply below_drew1) | exact HB.out))) : w.heap.size ≤ gb215)); have n3_ := Aside0.mk ((by rw [hg]; exact (below_size (by repeat (first | (with_reducible first | exact HB.out | apply below_alloc | apply pw_below_drewN | apply below_drew1) | exact HB.out))) : w.heap.size ≤ gb215)); clear HB; have HB := n0_; have BK215 := n1_; have GW215 := n2_; have GE215 := n3_; clear n0_ n1_ n2_ n3_; clear hb hbox hg; have hcz48_0 : w47.cell? ⟨gb215, 0, none⟩ = some (.slice A0_0 l0_0.length c0_0) := (blk_cell BK215.out 0).trans rfl; have hcz48_1 : w47.cell? ⟨gb215, 1, none⟩ = some (.int .i64 a0_1) := (blk_cell BK215.out 1).trans rfl; have hfz48_0 := blk_frozen BK215.out 0; have hfz48_1 := blk_frozen BK215.out 1) | ((with_reducible refine gate_callee (f := 34) rfl ?_); refine goesL_ (some 11) rfl rfl Tryd.func34 (by kernel_rfl) rfl #[.agg #[.slice A0_0 l0_0.length c0_0, .int .i64 a0_1]] rfl (by (try simp only [List.map_toArray, List.map_cons, List.map_nil]); first | done | rfl | (simp only [List.length_drop, List.length_take]; rfl)) ?_; (with_reducible refine (spileref13_Check.calls k _ _ l0_0 a0_1 t216 _ ?side1 ?side2 A3.out).mono ?_); (case side1 => repeat (first | exact (Kd.C_below HR0_0.out HB.out) | (with_reducible refine Kd.C_alloc ?_ _) | (with_reducible refine Kd.C_drewN ?_ _) | (with_reducible refine Kd.C_drew ?_))); (case side2 => exact HC0_0.out); rintro e w49 ⟨rfl, hb⟩; refine ⟨_, rfl, ?_⟩; have n0_ := Aside0.mk (blk_below (g := gb215) (o := .cells #[.slice A0_0 l0_0.length c0_0, .int .i64 a0_1] 24 (0, 0)) (by (with_reducible repeat (first | refine blk_drewN ?_ _ | refine blk_drew ?_ | refine blk_alloc ?_ _)); exact BK215.out) hb); have n1_ := Aside0.mk (below_step (by repeat (first | (with_reducible first | exact HB.out | apply below_alloc | apply pw_below_drewN | apply below_drew1 | refine below_set ?_ GE215.out) | exact HB.out)) hb); clear BK215; clear HB; have BK215 := n0_; have HB := n1_; clear n0_ n1_; (try clear hb); (try clear hb2); (try clear hk); (try clear hi)))
  go_ret2
  exact ⟨_, by first | rfl | (simp [errW_none, errW_some] <;> rfl) | (simp [*, errW_none, errW_some] <;> rfl), by first | exact Kd.R_nil _ _ _ _ _ | exact Kd.N_nil _ _ _ _ _ | exact Kd.V_nil _ _ _ _ _ | exact Kd.Q_nil _ _ _ _ _ | exact Kd.S_nil _ _ _ _ _, by repeat (first | (with_reducible first | exact HB.out | apply below_alloc | apply pw_below_drewN | apply below_drew1 | refine below_set ?_ GE215.out) | exact HB.out)⟩
def spilelaw14_RodMakes.f (k : Nat) (l0_0 : List (S39)) (a0_1 : Int) (a1 : Int) : Option (Bool) := (spilelaw14_awake.f).bind fun t225 => (if t225 = true then ((spilelaw14_few.f ([] : List (S39)) l0_0 a0_1).bind fun t226 => (if t226 = true then ((spileref13_Copy.f l0_0 a0_1).bind fun bt227 => ((rod_Make.f k bt227.1 bt227.2 a1).bind fun bt231 => ((spileref14_Make.f k l0_0 a0_1 a1).bind fun bt235 => ((spileref14_Same.f k bt231.1 bt235.1).bind fun t239 => (if t239 = true then (some (bt231.2 == bt235.2)) else (some false)))))) else (some true))) else (some false))
set_option maxHeartbeats 8000000 in
set_option maxRecDepth 100000 in
theorem spilelaw14_RodMakes.calls (k : Nat) (A0_0 : Option Addr) (c0_0 : Nat) (l0_0 : List (S39)) (a0_1 : Int) (a1 : Int) (r : Bool) (w : World) (hr0_0 : Kd.C k39 w A0_0 l0_0.length l0_0) (hc0_0 : l0_0.length ≤ c0_0) (hG : GI w) (hr_ : r = true) (h : spilelaw14_RodMakes.f k l0_0 a0_1 a1 = some r) :
  Calls Tryd.prog 3 #[.agg #[.slice A0_0 l0_0.length c0_0, .int .i64 a0_1], .int .i64 a1] w fun e w' => e = .returned (.bool r) ∧ Below w.heap.size w w' := by
 have hu24 := Tryd.underlying24
 have HR0_0 := Aside0.mk hr0_0
 have HC0_0 := Aside0.mk hc0_0
 clear hr0_0 hc0_0
 have HG := Aside0.mk hG
 clear hG
 have HB := Aside0.mk (Below.refl w.heap.size w)
 have H : ((spilelaw14_awake.f).bind fun t225 => (if t225 = true then ((spilelaw14_few.f ([] : List (S39)) l0_0 a0_1).bind fun t226 => (if t226 = true then ((spileref13_Copy.f l0_0 a0_1).bind fun bt227 => ((rod_Make.f k bt227.1 bt227.2 a1).bind fun bt231 => ((spileref14_Make.f k l0_0 a0_1 a1).bind fun bt235 => ((spileref14_Same.f k bt231.1 bt235.1).bind fun t239 => (if t239 = true then (some (bt231.2 == bt235.2)) else (some false)))))) else (some true))) else (some false))) = some r := h
 clear h
 replace H := Option.bind_eq_some_iff.mp H
 obtain ⟨t225, A30, H⟩ := H
 replace H : (if t225 = true then ((spilelaw14_few.f ([] : List (S39)) l0_0 a0_1).bind fun t226 => (if t226 = true then ((spileref13_Copy.f l0_0 a0_1).bind fun bt227 => ((rod_Make.f k bt227.1 bt227.2 a1).bind fun bt231 => ((spileref14_Make.f k l0_0 a0_1 a1).bind fun bt235 => ((spileref14_Same.f k bt231.1 bt235.1).bind fun t239 => (if t239 = true then (some (bt231.2 == bt235.2)) else (some false)))))) else (some true))) else (some false)) = some r := H
 have A3 := Aside0.mk A30
 clear A30
 by_cases c4 : t225 = true
 ·
  subst c4
  have H1 : ((spilelaw14_few.f ([] : List (S39)) l0_0 a0_1).bind fun t226 => (if t226 = true then ((spileref13_Copy.f l0_0 a0_1).bind fun bt227 => ((rod_Make.f k bt227.1 bt227.2 a1).bind fun bt231 => ((spileref14_Make.f k l0_0 a0_1 a1).bind fun bt235 => ((spileref14_Same.f k bt231.1 bt235.1).bind fun t239 => (if t239 = true then (some (bt231.2 == bt235.2)) else (some false)))))) else (some true))) = some r := by rw [if_pos rfl] at H; exact H
  clear H
  have H := H1
  clear H1
  replace H := Option.bind_eq_some_iff.mp H
  obtain ⟨t226, A50, H⟩ := H
  replace H : (if t226 = true then ((spileref13_Copy.f l0_0 a0_1).bind fun bt227 => ((rod_Make.f k bt227.1 bt227.2 a1).bind fun bt231 => ((spileref14_Make.f k l0_0 a0_1 a1).bind fun bt235 => ((spileref14_Same.f k bt231.1 bt235.1).bind fun t239 => (if t239 = true then (some (bt231.2 == bt235.2)) else (some false)))))) else (some true)) = some r := H
  have A5 := Aside0.mk A50
  clear A50
  by_cases c6 : t226 = true
  ·
   subst c6
   have H1 : ((spileref13_Copy.f l0_0 a0_1).bind fun bt227 => ((rod_Make.f k bt227.1 bt227.2 a1).bind fun bt231 => ((spileref14_Make.f k l0_0 a0_1 a1).bind fun bt235 => ((spileref14_Same.f k bt231.1 bt235.1).bind fun t239 => (if t239 = true then (some (bt231.2 == bt235.2)) else (some false)))))) = some r := by rw [if_pos rfl] at H; exact H
   clear H
   have H := H1
   clear H1
   replace H := Option.bind_eq_some_iff.mp H
   obtain ⟨⟨t227, t230⟩, A70, H⟩ := H
   replace H : ((rod_Make.f k t227 t230 a1).bind fun bt231 => ((spileref14_Make.f k l0_0 a0_1 a1).bind fun bt235 => ((spileref14_Same.f k bt231.1 bt235.1).bind fun t239 => (if t239 = true then (some (bt231.2 == bt235.2)) else (some false))))) = some r := H
   have A7 := Aside0.mk A70
   clear A70
   replace H := Option.bind_eq_some_iff.mp H
   obtain ⟨⟨t231, t234⟩, A80, H⟩ := H
   replace H : ((spileref14_Make.f k l0_0 a0_1 a1).bind fun bt235 => ((spileref14_Same.f k t231 bt235.1).bind fun t239 => (if t239 = true then (some (t234 == bt235.2)) else (some false)))) = some r := H
   have A8 := Aside0.mk A80
   clear A80
   replace H := Option.bind_eq_some_iff.mp H
   obtain ⟨⟨t235, t238⟩, A90, H⟩ := H
   replace H : ((spileref14_Same.f k t231 t235).bind fun t239 => (if t239 = true then (some (t234 == t238)) else (some false))) = some r := H
   have A9 := Aside0.mk A90
   clear A90
   replace H := Option.bind_eq_some_iff.mp H
   obtain ⟨t239, A100, H⟩ := H
   replace H : (if t239 = true then (some (t234 == t238)) else (some false)) = some r := H
   have A10 := Aside0.mk A100
   clear A100
   by_cases c11 : t239 = true
   ·
    subst c11
    have H1 : (some (t234 == t238)) = some r := by rw [if_pos rfl] at H; exact H
    clear H
    have H := H1
    clear H1
    obtain rfl := Option.some.inj H
    go_enter Tryd.func3, Tryd.ntmps3
    go_wp2_with (first | ((with_reducible refine gate_dst (N := 2) rfl ?_); refine box_event ?hg (N := 2) ?hd (cs := #[.slice A0_0 l0_0.length c0_0, .int .i64 a0_1]) (t := 24) ?hr ?_; (case hd => rfl); (case hg => rfl); (case hr => first | (go_simp; done) | (go_simp; rfl)); intro gb224 hg w12 hbox hb; have n0_ := Aside0.mk (below_step (by repeat (first | (with_reducible first | exact HB.out | apply below_alloc | apply pw_below_drewN | apply below_drew1) | exact HB.out)) hb); have n1_ := Aside0.mk (hbox); have n2_ := Aside0.mk ((by rw [hg]; exact (below_size (by repeat (first | (with_reducible first | exact HB.out | apply below_alloc | apply pw_below_drewN | apply below_drew1) | exact HB.out))) : w.heap.size ≤ gb224)); have n3_ := Aside0.mk ((by rw [hg]; exact (below_size (by repeat (first | (with_reducible first | exact HB.out | apply below_alloc | apply pw_below_drewN | apply below_drew1) | exact HB.out))) : w.heap.size ≤ gb224)); clear HB; have HB := n0_; have BK224 := n1_; have GW224 := n2_; have GE224 := n3_; clear n0_ n1_ n2_ n3_; clear hb hbox hg) | ((with_reducible refine gate_callee (f := 10) rfl ?_); refine goesL_ (some 9) rfl rfl Tryd.func10 (by kernel_rfl) rfl #[] rfl (by (try simp only [List.map_toArray, List.map_cons, List.map_nil]); first | done | rfl | (simp only [List.length_drop, List.length_take]; rfl)) ?_; (with_reducible refine (spilelaw14_awake.calls  true _ ?side1 A3.out).mono ?_); (case side1 => exact GI.below HG.out (by repeat (first | (with_reducible first | exact HB.out | apply below_alloc | apply pw_below_drewN | apply below_drew1 | refine below_set ?_ GE224.out) | exact HB.out))); rintro e w13 ⟨rfl, hb⟩; refine ⟨_, rfl, ?_⟩; have n0_ := Aside0.mk (blk_below (g := gb224) (o := .cells #[.slice A0_0 l0_0.length c0_0, .int .i64 a0_1] 24 (0, 0)) (by (with_reducible repeat (first | refine blk_drewN ?_ _ | refine blk_drew ?_ | refine blk_alloc ?_ _)); exact BK224.out) hb); have n1_ := Aside0.mk (below_step (by repeat (first | (with_reducible first | exact HB.out | apply below_alloc | apply pw_below_drewN | apply below_drew1 | refine below_set ?_ GE224.out) | exact HB.out)) hb); clear BK224; clear HB; have BK224 := n0_; have HB := n1_; clear n0_ n1_; (try clear hb); (try clear hb2); (try clear hk); (try clear hi); have hcz14_0 : w13.cell? ⟨gb224, 0, none⟩ = some (.slice A0_0 l0_0.length c0_0) := (blk_cell BK224.out 0).trans rfl; have hcz14_1 : w13.cell? ⟨gb224, 1, none⟩ = some (.int .i64 a0_1) := (blk_cell BK224.out 1).trans rfl; have hfz14_0 := blk_frozen BK224.out 0; have hfz14_1 := blk_frozen BK224.out 1) | ((with_reducible refine gate_callee (f := 11) rfl ?_); refine goesL_ (some 12) rfl rfl Tryd.func11 (by kernel_rfl) rfl #[.slice none 0 0, .agg #[.slice A0_0 l0_0.length c0_0, .int .i64 a0_1]] rfl (by (try simp only [List.map_toArray, List.map_cons, List.map_nil]); first | done | rfl | (simp only [List.length_drop, List.length_take]; rfl)) ?_; (refine (spilelaw14_few.calls _ _ ([] : List (S39)) _ _ l0_0 a0_1 true _ ?side1 ?side2 ?side3 ?side4 A5.out).mono ?_); (case side1 => exact Kd.C_nil _ _); (case side2 => exact Nat.le_refl _); (case side3 => repeat (first | exact (Kd.C_below HR0_0.out HB.out) | (with_reducible refine Kd.C_alloc ?_ _) | (with_reducible refine Kd.C_drewN ?_ _) | (with_reducible refine Kd.C_drew ?_))); (case side4 => exact HC0_0.out); rintro e w15 ⟨rfl, hb⟩; refine ⟨_, rfl, ?_⟩; have n0_ := Aside0.mk (blk_below (g := gb224) (o := .cells #[.slice A0_0 l0_0.length c0_0, .int .i64 a0_1] 24 (0, 0)) (by (with_reducible repeat (first | refine blk_drewN ?_ _ | refine blk_drew ?_ | refine blk_alloc ?_ _)); exact BK224.out) hb); have n1_ := Aside0.mk (below_step (by repeat (first | (with_reducible first | exact HB.out | apply below_alloc | apply pw_below_drewN | apply below_drew1 | refine below_set ?_ GE224.out) | exact HB.out)) hb); clear BK224; clear HB; have BK224 := n0_; have HB := n1_; clear n0_ n1_; (try clear hb); (try clear hb2); (try clear hk); (try clear hi); have hcz16_0 : w15.cell? ⟨gb224, 0, none⟩ = some (.slice A0_0 l0_0.length c0_0) := (blk_cell BK224.out 0).trans rfl; have hcz16_1 : w15.cell? ⟨gb224, 1, none⟩ = some (.int .i64 a0_1) := (blk_cell BK224.out 1).trans rfl; have hfz16_0 := blk_frozen BK224.out 0; have hfz16_1 := blk_frozen BK224.out 1) | ((with_reducible refine gate_callee (f := 13) rfl ?_); refine goesL_ (some 16) rfl rfl Tryd.func13 (by kernel_rfl) rfl #[.agg #[.slice A0_0 l0_0.length c0_0, .int .i64 a0_1]] rfl (by (try simp only [List.map_toArray, List.map_cons, List.map_nil]); first | done | rfl | (simp only [List.length_drop, List.length_take]; rfl)) ?_; (with_reducible refine (spileref13_Copy.calls _ _ l0_0 a0_1 t227 t230 _ ?side1 ?side2 A7.out).mono ?_); (case side1 => repeat (first | exact (Kd.C_below HR0_0.out HB.out) | (with_reducible refine Kd.C_alloc ?_ _) | (with_reducible refine Kd.C_drewN ?_ _) | (with_reducible refine Kd.C_drew ?_))); (case side2 => exact HC0_0.out); rintro e w17 ⟨v228, rfl, ho0, hb⟩; refine ⟨_, rfl, ?_⟩; have n0_ := Aside0.mk (Kd.R_lower ho0 (below_size (by repeat (first | (with_reducible first | exact HB.out | apply below_alloc | apply pw_below_drewN | apply below_drew1 | refine below_set ?_ GE224.out) | exact HB.out)))); have n1_ := Aside0.mk (blk_below (g := gb224) (o := .cells #[.slice A0_0 l0_0.length c0_0, .int .i64 a0_1] 24 (0, 0)) (by (with_reducible repeat (first | refine blk_drewN ?_ _ | refine blk_drew ?_ | refine blk_alloc ?_ _)); exact BK224.out) hb); have n2_ := Aside0.mk (below_step (by repeat (first | (with_reducible first | exact HB.out | apply below_alloc | apply pw_below_drewN | apply below_drew1 | refine below_set ?_ GE224.out) | exact HB.out)) hb); clear BK224; clear HB; have HO229 := n0_; have BK224 := n1_; have HB := n2_; clear n0_ n1_ n2_; (try clear hb); (try clear hb2); (try clear hk); (try clear hi); (try clear ho0); obtain ⟨Ao18, co18, eo18⟩ := Kd.R_slice HO229.out; subst eo18) | ((with_reducible refine gate_callee (f := 12) rfl ?_); refine goesL_ (some 18) rfl rfl Tryd.func12 (by kernel_rfl) rfl #[.agg #[.slice Ao18 t227.length co18, .int .i64 t230], .int .i64 a1] rfl (by (try simp only [List.map_toArray, List.map_cons, List.map_nil]); first | done | rfl | (simp only [List.length_drop, List.length_take]; rfl)) ?_; (with_reducible refine (rod_Make.calls k _ _ t227 t230 a1 t231 t234 _ ?side1 ?side2 A8.out).mono ?_); (case side1 => repeat (first | exact (Kd.R_reads' HO229.out).2.2 | (with_reducible refine Kd.C_alloc ?_ _) | (with_reducible refine Kd.C_drewN ?_ _) | (with_reducible refine Kd.C_drew ?_))); (case side2 => exact (Kd.R_reads' HO229.out).2.1); rintro e w19 ⟨v232, rfl, ho0, hb⟩; refine ⟨_, rfl, ?_⟩; have n0_ := Aside0.mk (Kd.R_elder' (by (with_reducible repeat (first | apply Kd.R_alloc | apply Kd.R_drewN | apply Kd.R_drew)); exact HO229.out) (Kd.R_base ho0) hb); have n1_ := Aside0.mk (Kd.R_lower (Kd.R_new' ho0 (Kd.R_lt (by (with_reducible repeat (first | apply Kd.R_alloc | apply Kd.R_drewN | apply Kd.R_drew)); exact HO229.out))) (below_size (by repeat (first | (with_reducible first | exact HB.out | apply below_alloc | apply pw_below_drewN | apply below_drew1 | refine below_set ?_ GE224.out) | exact HB.out)))); have n2_ := Aside0.mk (blk_below (g := gb224) (o := .cells #[.slice A0_0 l0_0.length c0_0, .int .i64 a0_1] 24 (0, 0)) (by (with_reducible repeat (first | refine blk_drewN ?_ _ | refine blk_drew ?_ | refine blk_alloc ?_ _)); exact BK224.out) hb); have n3_ := Aside0.mk (below_step (by repeat (first | (with_reducible first | exact HB.out | apply below_alloc | apply pw_below_drewN | apply below_drew1 | refine below_set ?_ GE224.out) | exact HB.out)) hb); clear HO229; clear BK224; clear HB; have HO229 := n0_; have HO233 := n1_; have BK224 := n2_; have HB := n3_; clear n0_ n1_ n2_ n3_; (try clear hb); (try clear hb2); (try clear hk); (try clear hi); (try clear ho0); have hcz20_0 : w19.cell? ⟨gb224, 0, none⟩ = some (.slice A0_0 l0_0.length c0_0) := (blk_cell BK224.out 0).trans rfl; have hcz20_1 : w19.cell? ⟨gb224, 1, none⟩ = some (.int .i64 a0_1) := (blk_cell BK224.out 1).trans rfl; have hfz20_0 := blk_frozen BK224.out 0; have hfz20_1 := blk_frozen BK224.out 1) | ((with_reducible refine gate_callee (f := 14) rfl ?_); refine goesL_ (some 24) rfl rfl Tryd.func14 (by kernel_rfl) rfl #[.agg #[.slice A0_0 l0_0.length c0_0, .int .i64 a0_1], .int .i64 a1] rfl (by (try simp only [List.map_toArray, List.map_cons, List.map_nil]); first | done | rfl | (simp only [List.length_drop, List.length_take]; rfl)) ?_; (with_reducible refine (spileref14_Make.calls k _ _ l0_0 a0_1 a1 t235 t238 _ ?side1 ?side2 A9.out).mono ?_); (case side1 => repeat (first | exact (Kd.C_below HR0_0.out HB.out) | (with_reducible refine Kd.C_alloc ?_ _) | (with_reducible refine Kd.C_drewN ?_ _) | (with_reducible refine Kd.C_drew ?_))); (case side2 => exact HC0_0.out); rintro e w21 ⟨v236, rfl, ho0, hb⟩; refine ⟨_, rfl, ?_⟩; have n0_ := Aside0.mk (Kd.R_elder' (by (with_reducible repeat (first | apply Kd.R_alloc | apply Kd.R_drewN | apply Kd.R_drew)); exact HO229.out) (Kd.R_base ho0) hb); have n1_ := Aside0.mk (Kd.R_elder' (by (with_reducible repeat (first | apply Kd.R_alloc | apply Kd.R_drewN | apply Kd.R_drew)); exact HO233.out) (Kd.R_base ho0) hb); have n2_ := Aside0.mk (Kd.R_lower (Kd.R_new' (Kd.R_new' ho0 (Kd.R_lt (by (with_reducible repeat (first | apply Kd.R_alloc | apply Kd.R_drewN | apply Kd.R_drew)); exact HO229.out))) (Kd.R_lt (by (with_reducible repeat (first | apply Kd.R_alloc | apply Kd.R_drewN | apply Kd.R_drew)); exact HO233.out))) (below_size (by repeat (first | (with_reducible first | exact HB.out | apply below_alloc | apply pw_below_drewN | apply below_drew1 | refine below_set ?_ GE224.out) | exact HB.out)))); have n3_ := Aside0.mk (blk_below (g := gb224) (o := .cells #[.slice A0_0 l0_0.length c0_0, .int .i64 a0_1] 24 (0, 0)) (by (with_reducible repeat (first | refine blk_drewN ?_ _ | refine blk_drew ?_ | refine blk_alloc ?_ _)); exact BK224.out) hb); have n4_ := Aside0.mk (below_step (by repeat (first | (with_reducible first | exact HB.out | apply below_alloc | apply pw_below_drewN | apply below_drew1 | refine below_set ?_ GE224.out) | exact HB.out)) hb); clear HO229; clear HO233; clear BK224; clear HB; have HO229 := n0_; have HO233 := n1_; have HO237 := n2_; have BK224 := n3_; have HB := n4_; clear n0_ n1_ n2_ n3_ n4_; (try clear hb); (try clear hb2); (try clear hk); (try clear hi); (try clear ho0); obtain ⟨Ao22, co22, eo22⟩ := Kd.R_slice HO233.out; subst eo22; obtain ⟨Ao23, co23, eo23⟩ := Kd.R_slice HO237.out; subst eo23) | ((with_reducible refine gate_callee (f := 15) rfl ?_); refine goesL_ (some 29) rfl rfl Tryd.func15 (by kernel_rfl) rfl #[.slice Ao22 t231.length co22, .slice Ao23 t235.length co23] rfl (by (try simp only [List.map_toArray, List.map_cons, List.map_nil]); first | done | rfl | (simp only [List.length_drop, List.length_take]; rfl)) ?_; (with_reducible refine (spileref14_Same.calls k _ _ t231 _ _ t235 true _ ?side1 ?side2 ?side3 ?side4 A10.out).mono ?_); (case side1 => repeat (first | exact (Kd.R_reads' HO233.out).2.2 | (with_reducible refine Kd.C_alloc ?_ _) | (with_reducible refine Kd.C_drewN ?_ _) | (with_reducible refine Kd.C_drew ?_))); (case side2 => exact (Kd.R_reads' HO233.out).2.1); (case side3 => repeat (first | exact (Kd.R_reads' HO237.out).2.2 | (with_reducible refine Kd.C_alloc ?_ _) | (with_reducible refine Kd.C_drewN ?_ _) | (with_reducible refine Kd.C_drew ?_))); (case side4 => exact (Kd.R_reads' HO237.out).2.1); rintro e w24 ⟨rfl, hb⟩; refine ⟨_, rfl, ?_⟩; have n0_ := Aside0.mk (Kd.R_below (by (with_reducible repeat (first | apply Kd.R_alloc | apply Kd.R_drewN | apply Kd.R_drew)); exact HO229.out) hb); have n1_ := Aside0.mk (Kd.R_below (by (with_reducible repeat (first | apply Kd.R_alloc | apply Kd.R_drewN | apply Kd.R_drew)); exact HO233.out) hb); have n2_ := Aside0.mk (Kd.R_below (by (with_reducible repeat (first | apply Kd.R_alloc | apply Kd.R_drewN | apply Kd.R_drew)); exact HO237.out) hb); have n3_ := Aside0.mk (blk_below (g := gb224) (o := .cells #[.slice A0_0 l0_0.length c0_0, .int .i64 a0_1] 24 (0, 0)) (by (with_reducible repeat (first | refine blk_drewN ?_ _ | refine blk_drew ?_ | refine blk_alloc ?_ _)); exact BK224.out) hb); have n4_ := Aside0.mk (below_step (by repeat (first | (with_reducible first | exact HB.out | apply below_alloc | apply pw_below_drewN | apply below_drew1 | refine below_set ?_ GE224.out) | exact HB.out)) hb); clear HO229; clear HO233; clear HO237; clear BK224; clear HB; have HO229 := n0_; have HO233 := n1_; have HO237 := n2_; have BK224 := n3_; have HB := n4_; clear n0_ n1_ n2_ n3_ n4_; (try clear hb); (try clear hb2); (try clear hk); (try clear hi)))
    go_ret
    exact ⟨by first | rfl | (simp [errW_none, errW_some] <;> rfl) | (simp [*, errW_none, errW_some] <;> rfl), by repeat (first | (with_reducible first | exact HB.out | apply below_alloc | apply pw_below_drewN | apply below_drew1 | refine below_set ?_ GE224.out) | exact HB.out)⟩
   ·
    replace c11 := Bool.eq_false_iff.mpr c11
    subst c11
    have H1 : (some false) = some r := by rw [if_neg (show ¬ (false = true) by decide)] at H; exact H
    clear H
    have H := H1
    clear H1
    subst hr_
    exact absurd H (by simp)
  ·
   replace c6 := Bool.eq_false_iff.mpr c6
   subst c6
   have H1 : (some true) = some r := by rw [if_neg (show ¬ (false = true) by decide)] at H; exact H
   clear H
   have H := H1
   clear H1
   obtain rfl := Option.some.inj H
   go_enter Tryd.func3, Tryd.ntmps3
   go_wp2_with (first | ((with_reducible refine gate_dst (N := 2) rfl ?_); refine box_event ?hg (N := 2) ?hd (cs := #[.slice A0_0 l0_0.length c0_0, .int .i64 a0_1]) (t := 24) ?hr ?_; (case hd => rfl); (case hg => rfl); (case hr => first | (go_simp; done) | (go_simp; rfl)); intro gb224 hg w25 hbox hb; have n0_ := Aside0.mk (below_step (by repeat (first | (with_reducible first | exact HB.out | apply below_alloc | apply pw_below_drewN | apply below_drew1) | exact HB.out)) hb); have n1_ := Aside0.mk (hbox); have n2_ := Aside0.mk ((by rw [hg]; exact (below_size (by repeat (first | (with_reducible first | exact HB.out | apply below_alloc | apply pw_below_drewN | apply below_drew1) | exact HB.out))) : w.heap.size ≤ gb224)); have n3_ := Aside0.mk ((by rw [hg]; exact (below_size (by repeat (first | (with_reducible first | exact HB.out | apply below_alloc | apply pw_below_drewN | apply below_drew1) | exact HB.out))) : w.heap.size ≤ gb224)); clear HB; have HB := n0_; have BK224 := n1_; have GW224 := n2_; have GE224 := n3_; clear n0_ n1_ n2_ n3_; clear hb hbox hg) | ((with_reducible refine gate_callee (f := 10) rfl ?_); refine goesL_ (some 9) rfl rfl Tryd.func10 (by kernel_rfl) rfl #[] rfl (by (try simp only [List.map_toArray, List.map_cons, List.map_nil]); first | done | rfl | (simp only [List.length_drop, List.length_take]; rfl)) ?_; (with_reducible refine (spilelaw14_awake.calls  true _ ?side1 A3.out).mono ?_); (case side1 => exact GI.below HG.out (by repeat (first | (with_reducible first | exact HB.out | apply below_alloc | apply pw_below_drewN | apply below_drew1 | refine below_set ?_ GE224.out) | exact HB.out))); rintro e w26 ⟨rfl, hb⟩; refine ⟨_, rfl, ?_⟩; have n0_ := Aside0.mk (blk_below (g := gb224) (o := .cells #[.slice A0_0 l0_0.length c0_0, .int .i64 a0_1] 24 (0, 0)) (by (with_reducible repeat (first | refine blk_drewN ?_ _ | refine blk_drew ?_ | refine blk_alloc ?_ _)); exact BK224.out) hb); have n1_ := Aside0.mk (below_step (by repeat (first | (with_reducible first | exact HB.out | apply below_alloc | apply pw_below_drewN | apply below_drew1 | refine below_set ?_ GE224.out) | exact HB.out)) hb); clear BK224; clear HB; have BK224 := n0_; have HB := n1_; clear n0_ n1_; (try clear hb); (try clear hb2); (try clear hk); (try clear hi); have hcz27_0 : w26.cell? ⟨gb224, 0, none⟩ = some (.slice A0_0 l0_0.length c0_0) := (blk_cell BK224.out 0).trans rfl; have hcz27_1 : w26.cell? ⟨gb224, 1, none⟩ = some (.int .i64 a0_1) := (blk_cell BK224.out 1).trans rfl; have hfz27_0 := blk_frozen BK224.out 0; have hfz27_1 := blk_frozen BK224.out 1) | ((with_reducible refine gate_callee (f := 11) rfl ?_); refine goesL_ (some 12) rfl rfl Tryd.func11 (by kernel_rfl) rfl #[.slice none 0 0, .agg #[.slice A0_0 l0_0.length c0_0, .int .i64 a0_1]] rfl (by (try simp only [List.map_toArray, List.map_cons, List.map_nil]); first | done | rfl | (simp only [List.length_drop, List.length_take]; rfl)) ?_; (refine (spilelaw14_few.calls _ _ ([] : List (S39)) _ _ l0_0 a0_1 false _ ?side1 ?side2 ?side3 ?side4 A5.out).mono ?_); (case side1 => exact Kd.C_nil _ _); (case side2 => exact Nat.le_refl _); (case side3 => repeat (first | exact (Kd.C_below HR0_0.out HB.out) | (with_reducible refine Kd.C_alloc ?_ _) | (with_reducible refine Kd.C_drewN ?_ _) | (with_reducible refine Kd.C_drew ?_))); (case side4 => exact HC0_0.out); rintro e w28 ⟨rfl, hb⟩; refine ⟨_, rfl, ?_⟩; have n0_ := Aside0.mk (blk_below (g := gb224) (o := .cells #[.slice A0_0 l0_0.length c0_0, .int .i64 a0_1] 24 (0, 0)) (by (with_reducible repeat (first | refine blk_drewN ?_ _ | refine blk_drew ?_ | refine blk_alloc ?_ _)); exact BK224.out) hb); have n1_ := Aside0.mk (below_step (by repeat (first | (with_reducible first | exact HB.out | apply below_alloc | apply pw_below_drewN | apply below_drew1 | refine below_set ?_ GE224.out) | exact HB.out)) hb); clear BK224; clear HB; have BK224 := n0_; have HB := n1_; clear n0_ n1_; (try clear hb); (try clear hb2); (try clear hk); (try clear hi)))
   go_ret
   exact ⟨by first | rfl | (simp [errW_none, errW_some] <;> rfl) | (simp [*, errW_none, errW_some] <;> rfl), by repeat (first | (with_reducible first | exact HB.out | apply below_alloc | apply pw_below_drewN | apply below_drew1 | refine below_set ?_ GE224.out) | exact HB.out)⟩
 ·
  replace c4 := Bool.eq_false_iff.mpr c4
  subst c4
  have H1 : (some false) = some r := by rw [if_neg (show ¬ (false = true) by decide)] at H; exact H
  clear H
  have H := H1
  clear H1
  subst hr_
  exact absurd H (by simp)
end Go.Proofs.YtkolhpacpbhceaaDoor.Pr
namespace Go.Proofs.YtkolhpacpbhceaaDoor.Pr
open Go.RowKit Go.Proofs.YtkolhpacpbhceaaDoorW.PrintWords Go.Proofs.YtkolhpacpbhceaaDoorW.PrintLast Go.Proofs.YtkolhpacpbhceaaDoorW.PrintMore Go.Proofs.YtkolhpacpbhceaaDoor.X
attribute [local go_sem] max2_int min2_int max_two min_two max_three min_three max_four min_four   -- for this text's walks alone
set_option linter.unusedVariables false
set_option linter.unusedSimpArgs false
theorem eqA34 (d : Nat) (w : World) (x0 y0 : Int) (x1 y1 : Int) :
  (Op.equalIn (d + 2) 34 (.agg #[.int .i64 x0, .int .i64 x1]) (.agg #[.int .i64 y0, .int .i64 y1])).run Tryd.prog w = .ok (x0 == y0 && (x1 == y1)) w := by
 refine eqA_of Tryd.underlying34 (by kernel_rfl) ?_
 refine eqf_cons (by rfl) (by go_simp; rfl) (by go_simp; rfl) (by go_simp) ?_
 exact eqf_last (by rfl) (by go_simp; rfl) (by go_simp; rfl) (by go_simp)
end Go.Proofs.YtkolhpacpbhceaaDoor.Pr
namespace Go.Proofs.YtkolhpacpbhceaaDoor.Pr
open Go.RowKit Go.Proofs.YtkolhpacpbhceaaDoorW.PrintWords Go.Proofs.YtkolhpacpbhceaaDoorW.PrintLast Go.Proofs.YtkolhpacpbhceaaDoorW.PrintMore Go.Proofs.YtkolhpacpbhceaaDoor.X
attribute [local go_sem] max2_int min2_int max_two min_two max_three min_three max_four min_four   -- for this text's walks alone
set_option linter.unusedVariables false
set_option linter.unusedSimpArgs false
def spileref13_Read.f (k : Nat) (l0_0 : List (S39)) (a0_1 : Int) (a1 : Int) : Option (Int × Int) := (spileref13_Check.f k l0_0 a0_1).bind fun t256 => (if t256 = 0 then (if 0 < (l0_0.length : Int) then (if a1 < ((rd_T39 l0_0 0).f0) then (some (0, 2)) else (if 0 ≤ (wrap64 ((l0_0.length : Int) - 1)) then (if (wrap64 ((l0_0.length : Int) - 1)) < (l0_0.length : Int) then (if a1 > ((rd_T39 l0_0 (wrap64 ((l0_0.length : Int) - 1))).f0) then (some (0, 2)) else ((spileref13_At.f k l0_0 a0_1 a1).bind fun t259 => (some (t259, 0)))) else (none)) else (none))) else (none)) else (some (0, 1)))
end Go.Proofs.YtkolhpacpbhceaaDoor.Pr
namespace Go.Proofs.YtkolhpacpbhceaaDoor.Opn
open Go Go.RowKit Go.Proofs.YtkolhpacpbhceaaDoorW.PrintWords Go.Proofs.YtkolhpacpbhceaaDoor.O Go.Proofs.YtkolhpacpbhceaaDoor.Pr
theorem opens3 : Opens Tryd.prog 3 (Kd.int .i64) (fun x => (Lit.int .i64 x).wf = true) := opens_int Tryd.underlying3 (by kernel_rfl)
def ok39 (x : S39) : Prop := (Lit.int .i64 x.f0).wf = true ∧ (Lit.int .i64 x.f1).wf = true
theorem opens39 : Opens Tryd.prog 39 k39 ok39 :=
  ⟨by kernel_rfl, fun H enc w base sp held fuel cs x h => by
    obtain ⟨xs, n, _, _, hl, hx, hf⟩ := DataW.trod_struct Tryd.underlying39 h
    have hc_ : Tryd.prog.cellsOf 39 = 2 := by kernel_rfl
    rw [hc_] at hl
    obtain ⟨c0, c1, rfl⟩ : ∃ c0 c1, cs = [c0, c1] := by
      clear h hf hx
      rcases cs with _ | ⟨c0, _ | ⟨c1, _ | ⟨_, _⟩⟩⟩
      all_goals first | exact ⟨_, _, rfl⟩ | (simp at hl)
    obtain ⟨y0, hy0⟩ : ∃ y, xs[0]? = some y := ⟨xs[0]'(by rw [hx]; decide), List.getElem?_eq_getElem _⟩
    have e0 : DataW.trod enc Tryd.prog w base sp held n 3 ((List.drop 0 [c0, c1]).take (Tryd.prog.cellsOf 3)) = xs[0]? := hf 0 _ rfl
    rw [hy0, show Tryd.prog.cellsOf 3 = 1 from by kernel_rfl] at e0
    obtain ⟨v0, K0, o0⟩ := opens3.2 H enc w base sp held n _ _ e0
    replace K0 : (Kd.int .i64).K w v0 [c0] := K0
    obtain ⟨y1, hy1⟩ : ∃ y, xs[1]? = some y := ⟨xs[1]'(by rw [hx]; decide), List.getElem?_eq_getElem _⟩
    have e1 : DataW.trod enc Tryd.prog w base sp held n 3 ((List.drop 1 [c0, c1]).take (Tryd.prog.cellsOf 3)) = xs[1]? := hf 1 _ rfl
    rw [hy1, show Tryd.prog.cellsOf 3 = 1 from by kernel_rfl] at e1
    obtain ⟨v1, K1, o1⟩ := opens3.2 H enc w base sp held n _ _ e1
    replace K1 : (Kd.int .i64).K w v1 [c1] := K1
    obtain rfl : c0 = _ := List.singleton_inj.1 K0
    obtain rfl : c1 = _ := List.singleton_inj.1 K1
    refine ⟨⟨v0, v1⟩, ?_, o0, o1⟩
    exact k39_mk w ⟨v0, v1⟩ ⟩
theorem opens22 : Opens Tryd.prog 22 (Kd.slice 39 k39) (fun x => (x.length ≤ maxLen ∧ ∀ x0_, x0_ ∈ x → ok39 x0_)) := opens_slice (P := Tryd.prog) (t := 22) (e := 39) Tryd.underlying22 (by kernel_rfl) opens39
def ok24 (x : S24) : Prop := (x.f0.length ≤ maxLen ∧ ∀ x0_, x0_ ∈ x.f0 → ok39 x0_) ∧ (Lit.int .i64 x.f1).wf = true
theorem opens24 : Opens Tryd.prog 24 k24 ok24 :=
  ⟨by kernel_rfl, fun H enc w base sp held fuel cs x h => by
    obtain ⟨xs, n, _, _, hl, hx, hf⟩ := DataW.trod_struct Tryd.underlying24 h
    have hc_ : Tryd.prog.cellsOf 24 = 2 := by kernel_rfl
    rw [hc_] at hl
    obtain ⟨c0, c1, rfl⟩ : ∃ c0 c1, cs = [c0, c1] := by
      clear h hf hx
      rcases cs with _ | ⟨c0, _ | ⟨c1, _ | ⟨_, _⟩⟩⟩
      all_goals first | exact ⟨_, _, rfl⟩ | (simp at hl)
    obtain ⟨y0, hy0⟩ : ∃ y, xs[0]? = some y := ⟨xs[0]'(by rw [hx]; decide), List.getElem?_eq_getElem _⟩
    have e0 : DataW.trod enc Tryd.prog w base sp held n 22 ((List.drop 0 [c0, c1]).take (Tryd.prog.cellsOf 22)) = xs[0]? := hf 0 _ rfl
    rw [hy0, show Tryd.prog.cellsOf 22 = 1 from by kernel_rfl] at e0
    obtain ⟨v0, K0, o0⟩ := opens22.2 H enc w base sp held n _ _ e0
    replace K0 : (Kd.slice 39 k39).K w v0 [c0] := K0
    obtain ⟨y1, hy1⟩ : ∃ y, xs[1]? = some y := ⟨xs[1]'(by rw [hx]; decide), List.getElem?_eq_getElem _⟩
    have e1 : DataW.trod enc Tryd.prog w base sp held n 3 ((List.drop 1 [c0, c1]).take (Tryd.prog.cellsOf 3)) = xs[1]? := hf 1 _ rfl
    rw [hy1, show Tryd.prog.cellsOf 3 = 1 from by kernel_rfl] at e1
    obtain ⟨v1, K1, o1⟩ := opens3.2 H enc w base sp held n _ _ e1
    replace K1 : (Kd.int .i64).K w v1 [c1] := K1
    obtain ⟨A0, q0, w0, m0, g0⟩ := K0
    obtain rfl : c0 = _ := List.singleton_inj.1 w0
    obtain rfl : c1 = _ := List.singleton_inj.1 K1
    refine ⟨⟨v0, v1⟩, ?_, o0, o1⟩
    exact k24_mk w ⟨v0, v1⟩ m0 g0⟩
end Go.Proofs.YtkolhpacpbhceaaDoor.Opn
namespace Go.Proofs.YtkolhpacpbhceaaDoor.Pure
open Go Go.RowKit Go.Proofs.YtkolhpacpbhceaaDoor.Pr Go.Proofs.YtkolhpacpbhceaaDoor.Opn
def rodMakesPure : Prop := ∀ (l0_0 : (List S39)) (a0_1 : Int) (a1 : Int), (l0_0.length ≤ maxLen ∧ ∀ x0_, x0_ ∈ l0_0 → ok39 x0_) → (Lit.int .i64 a0_1).wf = true → (Lit.int .i64 a1).wf = true → ∃ k, spilelaw14_RodMakes.f k l0_0 a0_1 a1 = some true
end Go.Proofs.YtkolhpacpbhceaaDoor.Pure
namespace Go.Proofs.YtkolhpacpbhceaaDoor.PL
open Go Go.RowKit Go.Proofs.YtkolhpacpbhceaaDoorW.PrintWords Go.Proofs.YtkolhpacpbhceaaDoorW.PrintLast Go.Proofs.YtkolhpacpbhceaaDoorW.PrintMore
theorem evp {α : Type} {c : Prop} [Decidable c] {g h : Nat → Option α} {r : α} (hc : c) (k : Ev g r) : Ev (fun n => if c then g n else h n) r :=
  Ev.congr (fun n => if_pos hc) k
theorem evn {α : Type} {c : Prop} [Decidable c] {g h : Nat → Option α} {r : α} (hc : ¬ c) (k : Ev h r) : Ev (fun n => if c then g n else h n) r :=
  Ev.congr (fun n => if_neg hc) k
theorem evb {α β : Type} {g : Nat → Option α} {f : Nat → α → Option β} {a : α} {r : β} (h : Ev g a) (k : Ev (fun n => f n a) r) : Ev (fun n => (g n).bind (f n)) r := Ev.bind h k
theorem evr {α : Type} {a r : α} (h : a = r) : Ev (fun _ => some a) r := by subst h; exact Ev.now _
theorem evc {α : Type} {g : Nat → Option α} {r : α} {o : Option α} (hg : ∀ n, g n = o) (h : o = some r) : Ev g r := by
  subst h
  exact Ev.congr hg (Ev.now _)
/-- A loop that counts upwards to n. -/
theorem count_up (a n : Int) (P : Int → Prop) (hend : P n) (hround : ∀ i, a ≤ i → i < n → P (i + 1) → P i) : ∀ i, a ≤ i → i ≤ n → P i := by
  intro i h0 h1
  obtain ⟨d, hd⟩ : ∃ d : Nat, n - i = d := ⟨(n - i).toNat, by omega⟩
  induction d generalizing i with
  | zero =>
    obtain rfl : i = n := by omega
    exact hend
  | succ d ih => exact hround i h0 (by omega) (ih (i + 1) (by omega) (by omega) (by omega))
theorem w64 {x : Int} (h0 : -9223372036854775808 ≤ x) (h1 : x ≤ 9223372036854775807) : wrap64 x = x := by
  unfold wrap64
  omega
theorem w64_succ {i n : Int} (h0 : 0 ≤ i) (h : i < n) (hn : n ≤ 9223372036854775807) : wrap64 (i + 1) = i + 1 := w64 (by omega) (by omega)
theorem w64_pred {i n : Int} (h0 : 0 ≤ i) (h : i ≤ n) (hn : n ≤ 9223372036854775807) : wrap64 (i - 1) = i - 1 := w64 (by omega) (by omega)
/-- A test that comes to true where P holds, and else to false. -/
def EvB (g : Nat → Option Bool) (P : Prop) : Prop := (P → Ev g true) ∧ (¬ P → Ev g false)
theorem EvB.map {g : Nat → Option Bool} {f : Nat → Bool → Option Bool} {P Q : Prop} (h : EvB g P) (ht : P → EvB (fun n => f n true) Q) (hf : ¬ P → EvB (fun n => f n false) Q) : EvB (fun n => (g n).bind (f n)) Q := by
  by_cases hp : P
  · exact ⟨fun q => Ev.bind (h.1 hp) ((ht hp).1 q), fun q => Ev.bind (h.1 hp) ((ht hp).2 q)⟩
  · exact ⟨fun q => Ev.bind (h.2 hp) ((hf hp).1 q), fun q => Ev.bind (h.2 hp) ((hf hp).2 q)⟩
theorem u64w {x : Int} (h0 : 0 ≤ x) (h1 : x ≤ 9223372036854775807) : IntKind.u64.wrap x = x := by
  unfold IntKind.wrap
  simp [IntKind.signed, IntKind.bits]
  omega
theorem half {i j : Int} (h0 : 0 ≤ i) (h1 : i < j) (h2 : j ≤ 4611686018427387904) : wrap64 ((IntKind.u64.wrap (wrap64 (i + j))) / 2) = (i + j) / 2 := by
  rw [w64 (x := i + j) (by omega) (by omega), u64w (by omega) (by omega), w64 (by omega) (by omega)]
theorem mulb {x y X Y : Int} (h0 : 0 ≤ x) (h1 : x ≤ X) (k0 : 0 ≤ y) (k1 : y ≤ Y) : 0 ≤ x * y ∧ x * y ≤ X * Y :=
  ⟨Int.mul_nonneg h0 k0, Int.mul_le_mul h1 k1 k0 (Int.le_trans h0 h1)⟩
end Go.Proofs.YtkolhpacpbhceaaDoor.PL
namespace Go.Proofs.YtkolhpacpbhceaaDoor.PL
open Go Go.RowKit Go.Proofs.YtkolhpacpbhceaaDoorW.PrintWords Go.Proofs.YtkolhpacpbhceaaDoorW.PrintLast Go.Proofs.YtkolhpacpbhceaaDoorW.PrintMore Go.Proofs.YtkolhpacpbhceaaDoor.Pr Go.Proofs.YtkolhpacpbhceaaDoor.Opn Go.Proofs.YtkolhpacpbhceaaDoor.X
theorem rd39_get {l : List S39} {i : Int} (h0 : 0 ≤ i) (h : i < (l.length : Int)) : l[i.toNat]? = some (rd_T39 l i) := by
  have hl : i.toNat < l.length := by omega
  unfold rd_T39
  rw [List.getD_eq_getElem?_getD, List.getElem?_eq_getElem hl]
  rfl
theorem rd39_mem {l : List S39} {i : Int} (h0 : 0 ≤ i) (h : i < (l.length : Int)) : rd_T39 l i ∈ l := List.mem_of_getElem? (rd39_get h0 h)
theorem drop39 {l : List S39} {i : Int} (h0 : 0 ≤ i) (h1 : i < (l.length : Int)) : l.drop i.toNat = rd_T39 l i :: l.drop (i + 1).toNat := by
  have hl : i.toNat < l.length := by omega
  have g := rd39_get h0 h1
  rw [List.getElem?_eq_getElem hl] at g
  rw [← Option.some.inj g, show (i + 1).toNat = i.toNat + 1 from by omega, ← List.drop_eq_getElem_cons hl]
def Rng (x : S39) : Prop := 0 ≤ x.f0 ∧ x.f0 ≤ 200000 ∧ 0 ≤ x.f1 ∧ x.f1 ≤ 4294967296
def Stp (x y : S39) : Prop := x.f0 < y.f0 ∧ x.f1 ≤ y.f1
def OKT (l : List S39) (t : Int) : Prop := 2 ≤ (l.length : Int) ∧ (l.length : Int) ≤ 128 ∧ (0 ≤ t ∧ t ≤ 4294967296) ∧ (∀ j, 0 ≤ j → j < (l.length : Int) → Rng (rd_T39 l j)) ∧ (∀ j, 1 ≤ j → j < (l.length : Int) → Stp (rd_T39 l (j - 1)) (rd_T39 l j))
theorem volume_eq (b : Int) : dip_volume.f b = some (decide (0 ≤ b ∧ b ≤ 4294967296)) := by
  unfold dip_volume.f
  by_cases h : b ≥ 0
  · rw [if_pos h]
    exact congrArg some (decide_eq_decide.2 ⟨fun q => ⟨h, q⟩, fun q => q.2⟩)
  · rw [if_neg h, decide_eq_false (by omega)]
theorem bad_eq (x : S39) : ∃ b, dip_Check_1.f x.f0 x.f1 = some b ∧ (b = true ↔ ¬ Rng x) := by
  unfold dip_Check_1.f Rng
  rw [volume_eq]
  by_cases h1 : x.f0 < 0
  · exact ⟨true, by rw [if_pos h1], by simp; omega⟩
  by_cases h2 : x.f0 > 200000
  · exact ⟨true, by rw [if_neg h1, if_pos h2], by simp; omega⟩
  refine ⟨!decide (0 ≤ x.f1 ∧ x.f1 ≤ 4294967296), by rw [if_neg h1, if_neg h2]; rfl, ?_⟩
  by_cases h3 : 0 ≤ x.f1 ∧ x.f1 ≤ 4294967296
  · rw [decide_eq_true h3]; simp; omega
  · rw [decide_eq_false h3]; simp; omega
theorem range_dip (l : List S39) (hl : (l.length : Int) ≤ 9223372036854775807) : ∀ i, 0 ≤ i → i ≤ (l.length : Int) →
    ∃ r, Ev (fun k => api_Mark_38_at_51.l0 k l (l.length : Int) i) r ∧ (r ≥ 0 ↔ ¬ ∀ j, i ≤ j → j < (l.length : Int) → Rng (rd_T39 l j)) := by
  refine count_up 0 (l.length : Int) _ ?_ ?_
  · exact ⟨-1, Ev.step (fun k => api_Mark_38_at_51.l0.eq_2 ..) (evn (by omega) (Ev.now _)), by constructor; omega; exact fun h => absurd (fun j h1 h2 => by omega) h⟩
  · intro i h0 h1 ih
    obtain ⟨b, hb, hb2⟩ := bad_eq (rd_T39 l i)
    have hs := w64_succ h0 h1 hl
    by_cases c : Rng (rd_T39 l i)
    · obtain ⟨r, r1, r2⟩ := ih
      have hbf : ¬ b = true := fun h => hb2.1 h c
      refine ⟨r, Ev.step (fun k => api_Mark_38_at_51.l0.eq_2 ..) (evp h1 (evp h0 (evp h1 (evb (evc (fun _ => rfl) hb) (evn hbf (by rw [hs]; exact r1)))))), r2.trans (not_congr ⟨fun h j a q => ?_, fun h j a q => h j (by omega) q⟩)⟩
      by_cases e : j = i
      · rw [e]; exact c
      · exact h j (by omega) q
    · exact ⟨i, Ev.step (fun k => api_Mark_38_at_51.l0.eq_2 ..) (evp h1 (evp h0 (evp h1 (evb (evc (fun _ => rfl) hb) (evp (hb2.2 c) (Ev.now _)))))), ⟨fun _ h => c (h i (Int.le_refl _) h1), fun _ => h0⟩⟩
theorem order_both (l : List S39) (t : Int) (hn : (l.length : Int) ≤ 128) : ∀ i, 1 ≤ i → i ≤ (l.length : Int) →
    ∃ e, Ev (fun k => dip_Check.l0 k i l t) e ∧ Ev (fun k => spileref13_Check.l1 k i l t) e ∧ (e = 0 ↔ ∀ j, i ≤ j → j < (l.length : Int) → Stp (rd_T39 l (j - 1)) (rd_T39 l j)) := by
  refine count_up 1 (l.length : Int) _ ?_ ?_
  · exact ⟨0, Ev.step (fun k => dip_Check.l0.eq_2 ..) (evn (by omega) (Ev.now _)), Ev.step (fun k => spileref13_Check.l1.eq_2 ..) (evn (by omega) (Ev.now _)), ⟨fun _ j a b => by omega, fun _ => rfl⟩⟩
  · intro i h0 h1 ih
    have hs := w64_succ (i := i) (by omega) h1 (by omega)
    have hp := w64_pred (i := i) (by omega) (Int.le_of_lt h1) (by omega)
    have q0 : 0 ≤ wrap64 (i - 1) := by rw [hp]; omega
    have q1 : wrap64 (i - 1) < (l.length : Int) := by rw [hp]; omega
    by_cases c1 : (rd_T39 l (wrap64 (i - 1))).f0 ≥ (rd_T39 l i).f0
    · refine ⟨5, Ev.step (fun k => dip_Check.l0.eq_2 ..) (evp h1 (evp q0 (evp q1 (evp (by omega) (evp c1 (Ev.now _)))))), Ev.step (fun k => spileref13_Check.l1.eq_2 ..) (evp h1 (evp q0 (evp q1 (evp (by omega) (evp c1 (Ev.now _)))))), ⟨fun h => by omega, fun h => ?_⟩⟩
      rw [hp] at c1
      have := (h i (by omega) h1).1
      omega
    by_cases c2 : (rd_T39 l (wrap64 (i - 1))).f1 > (rd_T39 l i).f1
    · refine ⟨5, Ev.step (fun k => dip_Check.l0.eq_2 ..) (evp h1 (evp q0 (evp q1 (evp (by omega) (evn c1 (evp c2 (Ev.now _))))))), Ev.step (fun k => spileref13_Check.l1.eq_2 ..) (evp h1 (evp q0 (evp q1 (evp (by omega) (evn c1 (evp c2 (Ev.now _))))))), ⟨fun h => by omega, fun h => ?_⟩⟩
      rw [hp] at c2
      have := (h i (by omega) h1).2
      omega
    · obtain ⟨e, e1, e2, e3⟩ := ih
      refine ⟨e, Ev.step (fun k => dip_Check.l0.eq_2 ..) (evp h1 (evp q0 (evp q1 (evp (by omega) (evn c1 (evn c2 (by rw [hs]; exact e1))))))), Ev.step (fun k => spileref13_Check.l1.eq_2 ..) (evp h1 (evp q0 (evp q1 (evp (by omega) (evn c1 (evn c2 (by rw [hs]; exact e2))))))), e3.trans ⟨fun h j a b => ?_, fun h j a b => h j (by omega) b⟩⟩
      by_cases z : j = i
      · rw [hp] at c1 c2; rw [z]; exact ⟨by omega, by omega⟩
      · exact h j (by omega) b
theorem range_ref (l : List S39) (t e : Int) (hl : (l.length : Int) ≤ 9223372036854775807) (ht : 0 ≤ t ∧ t ≤ 4294967296 → Ev (fun k => spileref13_Check.l1 k 1 l t) e) (ht2 : ¬ (0 ≤ t ∧ t ≤ 4294967296) → e = 2) : ∀ i, 0 ≤ i → i ≤ (l.length : Int) →
    ((∀ j, i ≤ j → j < (l.length : Int) → Rng (rd_T39 l j)) → Ev (fun k => spileref13_Check.l0 k i l t) e) ∧ ((¬ ∀ j, i ≤ j → j < (l.length : Int) → Rng (rd_T39 l j)) → Ev (fun k => spileref13_Check.l0 k i l t) 2) := by
  refine count_up 0 (l.length : Int) _ ?_ ?_
  · refine ⟨fun _ => ?_, fun h => absurd (fun j a b => by omega) h⟩
    refine Ev.step (fun k => spileref13_Check.l0.eq_2 ..) (evn (by omega) ?_)
    by_cases c1 : t < 0
    · rw [ht2 (by omega)]
      exact evp c1 (Ev.step (fun k => spileref13_Check.j1.eq_2 ..) (evp rfl (Ev.now _)))
    · refine evn c1 ?_
      by_cases c2 : t > 4294967296
      · rw [ht2 (by omega), decide_eq_true c2]
        exact Ev.step (fun k => spileref13_Check.j1.eq_2 ..) (evp rfl (Ev.now _))
      · rw [decide_eq_false c2]
        exact Ev.step (fun k => spileref13_Check.j1.eq_2 ..) (evn (by simp) (ht (by omega)))
  · intro i h0 h1 ih
    have hs := w64_succ h0 h1 hl
    by_cases c : Rng (rd_T39 l i)
    · have up : ∀ r, Ev (fun k => spileref13_Check.l0 k (i + 1) l t) r → Ev (fun k => spileref13_Check.l0 k i l t) r := fun r h => by
        have c' := c
        unfold Rng at c'
        exact Ev.step (fun k => spileref13_Check.l0.eq_2 ..) (evp h1 (evp h0 (evn (by omega) (evn (by omega) (evn (by omega) (evn (by omega) (by rw [hs]; exact h)))))))
      refine ⟨fun h => up _ (ih.1 fun j a b => h j (by omega) b), fun h => up _ (ih.2 fun h2 => h fun j a b => ?_)⟩
      by_cases z : j = i
      · rw [z]; exact c
      · exact h2 j (by omega) b
    · refine ⟨fun h => absurd (h i (Int.le_refl _) h1) c, fun _ => ?_⟩
      unfold Rng at c
      by_cases d1 : (rd_T39 l i).f0 < 0
      · exact Ev.step (fun k => spileref13_Check.l0.eq_2 ..) (evp h1 (evp h0 (evp d1 (Ev.now _))))
      by_cases d2 : (rd_T39 l i).f0 > 200000
      · exact Ev.step (fun k => spileref13_Check.l0.eq_2 ..) (evp h1 (evp h0 (evn d1 (evp d2 (Ev.now _)))))
      by_cases d3 : (rd_T39 l i).f1 < 0
      · exact Ev.step (fun k => spileref13_Check.l0.eq_2 ..) (evp h1 (evp h0 (evn d1 (evn d2 (evp d3 (Ev.now _))))))
      · exact Ev.step (fun k => spileref13_Check.l0.eq_2 ..) (evp h1 (evp h0 (evn d1 (evn d2 (evn d3 (evp (by omega) (Ev.now _)))))))
theorem tab_both (l : List S39) (t : Int) (hl : (l.length : Int) ≤ 9223372036854775807) : ∃ e, Ev (fun k => dip_Check.f k l t) e ∧ Ev (fun k => spileref13_Check.f k l t) e ∧ (e = 0 ↔ OKT l t) := by
  by_cases a1 : (l.length : Int) < 2
  · exact ⟨9, evp a1 (Ev.now _), evp a1 (Ev.now _), ⟨fun h => by omega, fun h => by have := h.1; omega⟩⟩
  by_cases a2 : (l.length : Int) > 128
  · exact ⟨8, evn a1 (evp a2 (Ev.now _)), evn a1 (evp a2 (Ev.now _)), ⟨fun h => by omega, fun h => by have := h.2.1; omega⟩⟩
  obtain ⟨e, e1, e2, e3⟩ := order_both l t (by omega) 1 (Int.le_refl _) (by omega)
  obtain ⟨r, r1, r2⟩ := range_dip l hl 0 (Int.le_refl _) (by omega)
  have two : Ev (fun k => dip_Check.j0 k true l t) 2 := Ev.step (fun k => dip_Check.j0.eq_2 ..) (evp rfl (Ev.now _))
  by_cases ht : 0 ≤ t ∧ t ≤ 4294967296
  · have ref := range_ref l t e hl (fun _ => e2) (fun h => absurd ht h) 0 (Int.le_refl _) (by omega)
    have pre : ∀ z, Ev (fun k => dip_Check.j0 k (decide (r ≥ 0)) l t) z → Ev (fun k => dip_Check.f k l t) z := fun z h =>
      evn a1 (evn a2 (evb (evc (fun _ => rfl) (volume_eq t)) (evp (decide_eq_true ht) (evb (evb r1 (Ev.now _)) h))))
    by_cases hr : ∀ j, 0 ≤ j → j < (l.length : Int) → Rng (rd_T39 l j)
    · refine ⟨e, pre _ ?_, evn a1 (evn a2 (ref.1 hr)), e3.trans ⟨fun h => ⟨by omega, by omega, ht, hr, h⟩, fun h => h.2.2.2.2⟩⟩
      rw [decide_eq_false (fun h => r2.1 h hr)]
      exact Ev.step (fun k => dip_Check.j0.eq_2 ..) (evn (by simp) e1)
    · refine ⟨2, pre _ ?_, evn a1 (evn a2 (ref.2 hr)), ⟨fun h => by omega, fun h => absurd h.2.2.2.1 hr⟩⟩
      rw [decide_eq_true (r2.2 hr)]
      exact two
  · have ref := range_ref l t 2 hl (fun h => absurd h ht) (fun _ => rfl) 0 (Int.le_refl _) (by omega)
    refine ⟨2, evn a1 (evn a2 (evb (evc (fun _ => rfl) (volume_eq t)) (evn (by simpa using ht) two))), evn a1 (evn a2 ?_), ⟨fun h => by omega, fun h => absurd h.2.2.1 ht⟩⟩
    by_cases hr : ∀ j, 0 ≤ j → j < (l.length : Int) → Rng (rd_T39 l j)
    · exact ref.1 hr
    · exact ref.2 hr
def atL : List S39 → Int → Int
  | a :: b :: r, x => if x ≤ b.f0 then a.f1 + (b.f1 - a.f1) * (x - a.f0) / (b.f0 - a.f0) else atL (b :: r) x
  | _, _ => 0
theorem atL_cons (a b : S39) (r : List S39) (x : Int) : atL (a :: b :: r) x = if x ≤ b.f0 then a.f1 + (b.f1 - a.f1) * (x - a.f0) / (b.f0 - a.f0) else atL (b :: r) x := rfl
/-- What a table is, told along the list. -/
def Up : List S39 → Prop
  | a :: b :: r => Stp a b ∧ Rng a ∧ Rng b ∧ Up (b :: r)
  | _ => True
def lastM (d : S39) : List S39 → S39
  | [] => d
  | x :: r => lastM x r
theorem up_of (l : List S39) (hr : ∀ j, 0 ≤ j → j < (l.length : Int) → Rng (rd_T39 l j)) (hs : ∀ j, 1 ≤ j → j < (l.length : Int) → Stp (rd_T39 l (j - 1)) (rd_T39 l j)) : Up l := by
  have key : ∀ i, 0 ≤ i → i ≤ (l.length : Int) → Up (l.drop i.toNat) := by
    refine count_up 0 (l.length : Int) _ ?_ ?_
    · rw [List.drop_eq_nil_of_le (by omega)]; trivial
    · intro i h0 h1 ih
      rw [drop39 h0 h1]
      by_cases c : i + 1 < (l.length : Int)
      · rw [drop39 (i := i + 1) (by omega) c] at ih ⊢
        have := hs (i + 1) (by omega) c
        rw [show i + 1 - 1 = i from by omega] at this
        exact ⟨this, hr i h0 h1, hr (i + 1) (by omega) c, ih⟩
      · rw [List.drop_eq_nil_of_le (by omega)]; trivial
  have := key 0 (Int.le_refl _) (by omega)
  rwa [show (0 : Int).toNat = 0 from rfl, List.drop_zero] at this
theorem frac {p q n d : Int} (hp : 0 ≤ p) (hn : 0 ≤ n) (hnd : n ≤ d) (hd : 0 < d) : 0 ≤ p * n / d ∧ p * n / d ≤ p := by
  refine ⟨Int.ediv_nonneg (Int.mul_nonneg hp hn) (by omega), ?_⟩
  have h1 : p * n ≤ p * d := Int.mul_le_mul_of_nonneg_left hnd hp
  have h2 := Int.ediv_le_ediv hd h1
  rwa [Int.mul_ediv_cancel _ (by omega)] at h2
theorem up_last : ∀ (l : List S39) (a : S39), Up (a :: l) → a.f0 ≤ (lastM a l).f0 ∧ a.f1 ≤ (lastM a l).f1
  | [], a, _ => ⟨Int.le_refl _, Int.le_refl _⟩
  | b :: r, a, h => by
    have ih := up_last r b h.2.2.2
    have hs := h.1
    unfold Stp at hs
    show a.f0 ≤ (lastM b r).f0 ∧ a.f1 ≤ (lastM b r).f1
    omega
theorem at_bounds : ∀ (r : List S39) (a b : S39) (x : Int), Up (a :: b :: r) → a.f0 ≤ x → x ≤ (lastM b r).f0 → a.f1 ≤ atL (a :: b :: r) x ∧ atL (a :: b :: r) x ≤ (lastM b r).f1
  | r, a, b, x, h, h0, h1 => by
    have hs := h.1
    unfold Stp at hs
    have hl := up_last r b h.2.2.2
    rw [atL_cons]
    by_cases c : x ≤ b.f0
    · rw [if_pos c]
      have := frac (p := b.f1 - a.f1) (q := 0) (n := x - a.f0) (d := b.f0 - a.f0) (by omega) (by omega) (by omega) (by omega)
      omega
    · rw [if_neg c]
      match r, h, h1 with
      | [], _, h1 => simp only [lastM] at h1; omega
      | d :: r, h, h1 =>
        have ih := at_bounds r b d x h.2.2.2 (by omega) h1
        show a.f1 ≤ _ ∧ _ ≤ (lastM d r).f1
        omega
theorem at_mono : ∀ (r : List S39) (a b : S39) (x y : Int), Up (a :: b :: r) → a.f0 ≤ x → x ≤ y → y ≤ (lastM b r).f0 → atL (a :: b :: r) x ≤ atL (a :: b :: r) y
  | r, a, b, x, y, h, h0, h1, h2 => by
    have hs := h.1
    unfold Stp at hs
    rw [atL_cons, atL_cons]
    by_cases c : y ≤ b.f0
    · rw [if_pos (by omega), if_pos c]
      have hm : (b.f1 - a.f1) * (x - a.f0) ≤ (b.f1 - a.f1) * (y - a.f0) := Int.mul_le_mul_of_nonneg_left (by omega) (by omega)
      have := Int.ediv_le_ediv (c := b.f0 - a.f0) (by omega) hm
      omega
    · rw [if_neg c]
      match r, h, h2 with
      | [], _, h2 => simp only [lastM] at h2; omega
      | d :: r, h, h2 =>
        by_cases c2 : x ≤ b.f0
        · rw [if_pos c2]
          have f := frac (p := b.f1 - a.f1) (q := 0) (n := x - a.f0) (d := b.f0 - a.f0) (by omega) (by omega) (by omega) (by omega)
          have := (at_bounds r b d y h.2.2.2 (by omega) h2).1
          omega
        · rw [if_neg c2]
          exact at_mono r b d x y h.2.2.2 (by omega) h1 h2
theorem at_last : ∀ (r : List S39) (a b : S39), Up (a :: b :: r) → atL (a :: b :: r) (lastM b r).f0 = (lastM b r).f1
  | [], a, b, h => by
    have hs := h.1
    unfold Stp at hs
    show (if b.f0 ≤ b.f0 then a.f1 + (b.f1 - a.f1) * (b.f0 - a.f0) / (b.f0 - a.f0) else atL [b] b.f0) = b.f1
    rw [if_pos (Int.le_refl _), Int.mul_ediv_cancel _ (by omega)]
    omega
  | d :: r, a, b, h => by
    have hs := h.2.2.2.1
    unfold Stp at hs
    have hl := up_last r d h.2.2.2.2.2.2
    show atL (a :: b :: d :: r) (lastM d r).f0 = (lastM d r).f1
    rw [atL_cons, if_neg (by omega)]
    exact at_last r b d h.2.2.2
theorem lastM_rd : ∀ (l : List S39) (a : S39), lastM a l = rd_T39 (a :: l) (((a :: l).length : Int) - 1)
  | [], a => rfl
  | b :: r, a => by
    have e := lastM_rd r b
    show lastM b r = _
    rw [e]
    unfold rd_T39
    rw [show (((a :: b :: r).length : Int) - 1).toNat = (((b :: r).length : Int) - 1).toNat + 1 from by simp]
    rfl
/-- The first and the last height, the last volume. -/
def h0 (l : List S39) : Int := (rd_T39 l 0).f0
def hN (l : List S39) : Int := (rd_T39 l ((l.length : Int) - 1)).f0
def vN (l : List S39) : Int := (rd_T39 l ((l.length : Int) - 1)).f1
structure Facts (l : List S39) : Prop where
  h0le : 0 ≤ h0 l
  hNle : hN l ≤ 200000
  h01 : h0 l ≤ hN l
  vNle : vN l ≤ 4294967296
  bounds : ∀ x, h0 l ≤ x → x ≤ hN l → 0 ≤ atL l x ∧ atL l x ≤ vN l
  mono : ∀ x y, h0 l ≤ x → x ≤ y → y ≤ hN l → atL l x ≤ atL l y
  last : atL l (hN l) = vN l
theorem two_of {l : List S39} (h : 2 ≤ (l.length : Int)) : ∃ a b r, l = a :: b :: r := by
  cases l with
  | nil => exact absurd h (by simp)
  | cons a l =>
    cases l with
    | nil => exact absurd h (by simp)
    | cons b r => exact ⟨a, b, r, rfl⟩
theorem facts {l : List S39} {t : Int} (h : OKT l t) : Facts l := by
  obtain ⟨h2, h3, h4, h5, h6⟩ := h
  have hu := up_of l h5 h6
  obtain ⟨a, b, r, rfl⟩ := two_of h2
  have e : lastM b r = rd_T39 (a :: b :: r) (((a :: b :: r).length : Int) - 1) := lastM_rd (b :: r) a
  have q0 := h5 0 (Int.le_refl _) (by omega)
  have q1 := h5 (((a :: b :: r).length : Int) - 1) (by omega) (by omega)
  unfold Rng at q0 q1
  have f0 : (rd_T39 (a :: b :: r) 0) = a := rfl
  have hl := up_last (b :: r) a hu
  have hl2 : lastM a (b :: r) = lastM b r := rfl
  rw [hl2, e] at hl
  rw [f0] at q0
  refine ⟨q0.1, q1.2.1, hl.1, q1.2.2.2, fun x g0 g1 => ?_, fun x y g0 g1 g2 => ?_, ?_⟩
  · have := at_bounds r a b x hu g0 (by rw [e]; exact g1)
    rw [e] at this
    exact ⟨by omega, this.2⟩
  · exact at_mono r a b x y hu g0 g1 (by rw [e]; exact g2)
  · have := at_last r a b hu
    rw [e] at this
    exact this
theorem step_eq {l : List S39} {i : Int} (x : Int) (h1 : 1 ≤ i) (h2 : i < (l.length : Int)) : atL (l.drop (i - 1).toNat) x = if x ≤ (rd_T39 l i).f0 then (rd_T39 l (i - 1)).f1 + ((rd_T39 l i).f1 - (rd_T39 l (i - 1)).f1) * (x - (rd_T39 l (i - 1)).f0) / ((rd_T39 l i).f0 - (rd_T39 l (i - 1)).f0) else atL (l.drop i.toNat) x := by
  rw [drop39 (i := i - 1) (by omega) (by omega), show i - 1 + 1 = i from by omega, drop39 (i := i) (by omega) h2, atL_cons, ← drop39 (i := i) (by omega) h2]
theorem read_loop {l : List S39} {t : Int} (h : OKT l t) (x : Int) (hx : x ≤ hN l) : ∀ i, 1 ≤ i → i ≤ (l.length : Int) → i < (l.length : Int) → (rd_T39 l (i - 1)).f0 ≤ x →
    Ev (fun k => dip_read.l0 k x i l t) (atL (l.drop (i - 1).toNat) x) ∧ Ev (fun k => spileref13_At.l0 k x i l t) (atL (l.drop (i - 1).toNat) x) := by
  obtain ⟨h2, h3, h4, h5, h6⟩ := h
  refine count_up 1 (l.length : Int) (fun i => i < (l.length : Int) → (rd_T39 l (i - 1)).f0 ≤ x → Ev (fun k => dip_read.l0 k x i l t) (atL (l.drop (i - 1).toNat) x) ∧ Ev (fun k => spileref13_At.l0 k x i l t) (atL (l.drop (i - 1).toNat) x)) (fun g => absurd g (by omega)) ?_
  intro i g0 g1 ih _ gx
  have hp := w64_pred (i := i) (by omega) (Int.le_of_lt g1) (by omega)
  have hs := w64_succ (i := i) (by omega) g1 (by omega)
  have q0 : 0 ≤ wrap64 (i - 1) := by rw [hp]; omega
  have q1 : wrap64 (i - 1) < (l.length : Int) := by rw [hp]; omega
  have ra := h5 (i - 1) (by omega) (by omega)
  have rb := h5 i (by omega) g1
  have rs := h6 i g0 g1
  unfold Rng at ra rb
  unfold Stp at rs
  rw [step_eq x g0 g1]
  by_cases c : (rd_T39 l i).f0 < x
  · rw [if_neg (by omega)]
    have c2 : i + 1 < (l.length : Int) := by
      rcases Int.lt_or_le (i + 1) (l.length : Int) with h | h
      · exact h
      · have e : i = (l.length : Int) - 1 := by omega
        unfold hN at hx
        rw [← e] at hx
        omega
    have q := ih c2 (by rw [show i + 1 - 1 = i from by omega]; omega)
    rw [show i + 1 - 1 = i from by omega] at q
    exact ⟨Ev.step (fun k => dip_read.l0.eq_2 ..) (evp (by omega) (evp g1 (evp c (by rw [hs]; exact q.1)))), Ev.step (fun k => spileref13_At.l0.eq_2 ..) (evp (by omega) (evp g1 (evp c (by rw [hs]; exact q.2))))⟩
  · rw [if_pos (by omega)]
    have w1 : wrap64 ((rd_T39 l i).f0 - (rd_T39 l (i - 1)).f0) = (rd_T39 l i).f0 - (rd_T39 l (i - 1)).f0 := w64 (by omega) (by omega)
    have w2 : wrap64 ((rd_T39 l i).f1 - (rd_T39 l (i - 1)).f1) = (rd_T39 l i).f1 - (rd_T39 l (i - 1)).f1 := w64 (by omega) (by omega)
    have w3 : wrap64 (x - (rd_T39 l (i - 1)).f0) = x - (rd_T39 l (i - 1)).f0 := w64 (by omega) (by omega)
    have mb := mulb (x := (rd_T39 l i).f1 - (rd_T39 l (i - 1)).f1) (y := x - (rd_T39 l (i - 1)).f0) (X := 4294967296) (Y := 200000) (by omega) (by omega) (by omega) (by omega)
    have w4 : wrap64 (((rd_T39 l i).f1 - (rd_T39 l (i - 1)).f1) * (x - (rd_T39 l (i - 1)).f0)) = ((rd_T39 l i).f1 - (rd_T39 l (i - 1)).f1) * (x - (rd_T39 l (i - 1)).f0) := w64 (by omega) (by omega)
    have fr := frac (p := (rd_T39 l i).f1 - (rd_T39 l (i - 1)).f1) (q := 0) (n := x - (rd_T39 l (i - 1)).f0) (d := (rd_T39 l i).f0 - (rd_T39 l (i - 1)).f0) (by omega) (by omega) (by omega) (by omega)
    have w5 : Int.tdiv (((rd_T39 l i).f1 - (rd_T39 l (i - 1)).f1) * (x - (rd_T39 l (i - 1)).f0)) ((rd_T39 l i).f0 - (rd_T39 l (i - 1)).f0) = ((rd_T39 l i).f1 - (rd_T39 l (i - 1)).f1) * (x - (rd_T39 l (i - 1)).f0) / ((rd_T39 l i).f0 - (rd_T39 l (i - 1)).f0) := Int.tdiv_eq_ediv_of_nonneg mb.1
    have w6 : wrap64 (((rd_T39 l i).f1 - (rd_T39 l (i - 1)).f1) * (x - (rd_T39 l (i - 1)).f0) / ((rd_T39 l i).f0 - (rd_T39 l (i - 1)).f0)) = ((rd_T39 l i).f1 - (rd_T39 l (i - 1)).f1) * (x - (rd_T39 l (i - 1)).f0) / ((rd_T39 l i).f0 - (rd_T39 l (i - 1)).f0) := w64 (by omega) (by omega)
    constructor
    · refine Ev.step (fun k => dip_read.l0.eq_2 ..) (evp (by omega) (evp g1 (evn c (evp q0 (evp q1 ?_)))))
      rw [hp, w1, w2, w3, w4, w5, w6]
      exact evn (by omega) (evr (w64 (by omega) (by omega)))
    · refine Ev.step (fun k => spileref13_At.l0.eq_2 ..) (evp (by omega) (evp g1 (evn c (evp q0 (evp q1 ?_)))))
      rw [hp, w1, w2, w3, w4, w5, w6]
      exact evn (by omega) (evr (w64 (by omega) (by omega)))
theorem read_both {l : List S39} {t : Int} (h : OKT l t) (x : Int) (hx0 : h0 l ≤ x) (hx : x ≤ hN l) : Ev (fun k => dip_read.f k l t x) (atL l x) ∧ Ev (fun k => spileref13_At.f k l t x) (atL l x) := by
  have := read_loop h x hx 1 (Int.le_refl _) (by have := h.1; omega) (by have := h.1; omega) hx0
  rwa [show (1 - 1 : Int).toNat = 0 from rfl, List.drop_zero] at this
/-- What Read answers. -/
def rdR (l : List S39) (x : Int) : Int × Int := if x < h0 l then (0, 2) else if x > hN l then (0, 2) else (atL l x, 0)
theorem Read_both {l : List S39} {t : Int} (h : OKT l t) (x : Int) : Ev (fun k => dip_Read.f k l t x) (rdR l x) ∧ Ev (fun k => spileref13_Read.f k l t x) (rdR l x) := by
  have h2 := h.1
  have h3 := h.2.1
  obtain ⟨e, e1, e2, e3⟩ := tab_both l t (by omega)
  obtain rfl := e3.2 h
  have hp := w64_pred (i := (l.length : Int)) (by omega) (Int.le_refl _) (by omega)
  have q0 : 0 ≤ wrap64 ((l.length : Int) - 1) := by rw [hp]; omega
  have q1 : wrap64 ((l.length : Int) - 1) < (l.length : Int) := by rw [hp]; omega
  unfold rdR
  by_cases c1 : x < h0 l
  · rw [if_pos c1]
    exact ⟨evb e1 (evp rfl (evp (by omega) (evp c1 (Ev.now _)))), evb e2 (evp rfl (evp (by omega) (evp c1 (Ev.now _))))⟩
  by_cases c2 : x > hN l
  · rw [if_neg c1, if_pos c2]
    have c2' : x > (rd_T39 l (wrap64 ((l.length : Int) - 1))).f0 := by rw [hp]; exact c2
    exact ⟨evb e1 (evp rfl (evp (by omega) (evn c1 (evp q0 (evp q1 (evp c2' (Ev.now _))))))), evb e2 (evp rfl (evp (by omega) (evn c1 (evp q0 (evp q1 (evp c2' (Ev.now _)))))))⟩
  · rw [if_neg c1, if_neg c2]
    have c2' : ¬ x > (rd_T39 l (wrap64 ((l.length : Int) - 1))).f0 := by rw [hp]; exact c2
    obtain ⟨r1, r2⟩ := read_both h x (by omega) (by omega)
    exact ⟨evb e1 (evp rfl (evp (by omega) (evn c1 (evp q0 (evp q1 (evn c2' (evb r1 (Ev.now _)))))))), evb e2 (evp rfl (evp (by omega) (evn c1 (evp q0 (evp q1 (evn c2' (evb r2 (Ev.now _))))))))⟩
end Go.Proofs.YtkolhpacpbhceaaDoor.PL
namespace Go.Proofs.YtkolhpacpbhceaaDoor.PL
open Go Go.RowKit Go.Proofs.YtkolhpacpbhceaaDoorW.PrintWords Go.Proofs.YtkolhpacpbhceaaDoorW.PrintLast Go.Proofs.YtkolhpacpbhceaaDoorW.PrintMore Go.Proofs.YtkolhpacpbhceaaDoor.Pr Go.Proofs.YtkolhpacpbhceaaDoor.Opn Go.Proofs.YtkolhpacpbhceaaDoor.X
theorem halves (lo n : Int) (Q : Int → Prop) (L : Int → Int → Nat → Option Int)
    (hend : ∀ i, lo ≤ i → i ≤ n → Ev (L i i) i) (hyes : ∀ i j, lo ≤ i → i < j → j ≤ n → Q ((i + j) / 2) → ∀ r, Ev (L i ((i + j) / 2)) r → Ev (L i j) r)
    (hno : ∀ i j, lo ≤ i → i < j → j ≤ n → ¬ Q ((i + j) / 2) → ∀ r, Ev (L ((i + j) / 2 + 1) j) r → Ev (L i j) r)
    (mono : ∀ a b, lo ≤ a → a ≤ b → b < n → Q a → Q b) (hn : lo ≤ n) :
    ∃ r, Ev (L lo n) r ∧ lo ≤ r ∧ r ≤ n ∧ (∀ a, lo ≤ a → a < r → ¬ Q a) ∧ (∀ a, r ≤ a → a < n → Q a) := by
  have go : ∀ (d : Nat) (i j : Int), lo ≤ i → i ≤ j → j ≤ n → j - i ≤ d → (∀ a, lo ≤ a → a < i → ¬ Q a) → (∀ a, j ≤ a → a < n → Q a) →
      ∃ r, Ev (L i j) r ∧ lo ≤ r ∧ r ≤ n ∧ (∀ a, lo ≤ a → a < r → ¬ Q a) ∧ (∀ a, r ≤ a → a < n → Q a) := by
    intro d
    induction d with
    | zero =>
      intro i j h0 h1 h2 h3 hl hr
      obtain rfl : i = j := by omega
      exact ⟨i, hend i h0 h2, h0, h2, hl, hr⟩
    | succ d ih =>
      intro i j h0 h1 h2 h3 hl hr
      by_cases e : i = j
      · subst e
        exact ⟨i, hend i h0 h2, h0, h2, hl, hr⟩
      · by_cases q : Q ((i + j) / 2)
        · obtain ⟨r, hr2, h⟩ := ih i ((i + j) / 2) h0 (by omega) (by omega) (by omega) hl (fun a ha hb => mono ((i + j) / 2) a (by omega) ha hb q)
          exact ⟨r, hyes i j h0 (by omega) h2 q r hr2, h⟩
        · obtain ⟨r, hr2, h⟩ := ih ((i + j) / 2 + 1) j (by omega) (by omega) h2 (by omega) (fun a ha hb qa => q (mono a ((i + j) / 2) ha (by omega) (by omega) qa)) hr
          exact ⟨r, hno i j h0 (by omega) h2 q r hr2, h⟩
  exact go (n - lo).toNat lo n (Int.le_refl _) hn (Int.le_refl _) (by omega) (fun a h0 h1 => by omega) (fun a h0 h1 => by omega)
def Least (l : List S39) (v x : Int) : Prop := h0 l ≤ x ∧ x ≤ hN l ∧ v ≤ atL l x ∧ ∀ y, h0 l ≤ y → y < x → atL l y < v
theorem least_unique {l : List S39} {v x y : Int} (a : Least l v x) (b : Least l v y) : x = y := by
  rcases Int.lt_trichotomy x y with h | h | h
  · have := b.2.2.2 x a.1 h; have := a.2.2.1; omega
  · exact h
  · have := a.2.2.2 y b.1 h; have := b.2.2.1; omega
theorem least_both {l : List S39} {t : Int} (h : OKT l t) (v : Int) (hv : v ≤ vN l) : ∃ x, Ev (fun k => rod_least.f k l t v) x ∧ Ev (fun k => spileref14_least.f k l t v) x ∧ Least l v x := by
  have f := facts h
  have n2 := h.1
  have n3 := h.2.1
  have hp := w64_pred (i := (l.length : Int)) (by omega) (Int.le_refl _) (by omega)
  have q0 : 0 ≤ wrap64 ((l.length : Int) - 1) := by rw [hp]; omega
  have q1 : wrap64 ((l.length : Int) - 1) < (l.length : Int) := by rw [hp]; omega
  have b0 := f.h0le
  have bN := f.hNle
  have b1 := f.h01
  have eN : (rd_T39 l (wrap64 ((l.length : Int) - 1))).f0 = hN l := by rw [hp]; rfl
  have e0 : (rd_T39 l 0).f0 = h0 l := rfl
  have one : ∀ a, 0 ≤ a → a < hN l - h0 l → Ev (fun k => rod_least_1.f k a l t (h0 l) v) (decide (atL l (h0 l + a) ≥ v)) := fun a g0 g1 => by
    have q := (Read_both h (wrap64 (h0 l + a))).1
    rw [w64 (by omega) (by omega)] at q
    unfold rdR at q
    rw [if_neg (by omega), if_neg (by omega)] at q
    unfold rod_least_1.f
    rw [w64 (x := h0 l + a) (by omega) (by omega)]
    exact evb q (Ev.now _)
  obtain ⟨r, r1, r2, r3, r4, r5⟩ := halves 0 (hN l - h0 l) (fun a => v ≤ atL l (h0 l + a)) (fun i j k => sort_Search_52_at_53.l0 k i j l t (h0 l) v)
    (fun i g0 g1 => Ev.step (fun k => sort_Search_52_at_53.l0.eq_2 ..) (evn (by omega) (Ev.now _)))
    (fun i j g0 g1 g2 q r hr => by
      have hh := half g0 g1 (by omega)
      refine Ev.step (fun k => sort_Search_52_at_53.l0.eq_2 ..) (evp g1 ?_)
      rw [hh]
      exact evb (one _ (by omega) (by omega)) (evp (decide_eq_true q) hr))
    (fun i j g0 g1 g2 q r hr => by
      have hh := half g0 g1 (by omega)
      refine Ev.step (fun k => sort_Search_52_at_53.l0.eq_2 ..) (evp g1 ?_)
      rw [hh]
      refine evb (one _ (by omega) (by omega)) (evn (by simpa using q) ?_)
      rw [w64 (by omega) (by omega)]
      exact hr)
    (fun a b g0 g1 g2 q => Int.le_trans q (f.mono _ _ (by omega) (by omega) (by omega))) (by omega)
  have L1 : Least l v (h0 l + r) := by
    refine ⟨by omega, by omega, ?_, fun y y0 y1 => ?_⟩
    · rcases Int.lt_or_le r (hN l - h0 l) with c | c
      · exact r5 r (Int.le_refl _) c
      · rw [show h0 l + r = hN l from by omega, f.last]; exact hv
    · have := r4 (y - h0 l) (by omega) (by omega)
      rw [show h0 l + (y - h0 l) = y from by omega] at this
      omega
  have R1 : Ev (fun k => rod_least.f k l t v) (h0 l + r) := by
    refine evp (by omega) (evp q0 (evp q1 ?_))
    rw [eN, e0, w64 (x := hN l - h0 l) (by omega) (by omega)]
    exact evb r1 (evr (w64 (by omega) (by omega)))
  obtain ⟨z, z1, z2, z3, z4, z5⟩ := halves (h0 l) (hN l) (fun a => v ≤ atL l a) (fun i j k => spileref14_least.l0 k v i j l t)
    (fun i g0 g1 => Ev.step (fun k => spileref14_least.l0.eq_2 ..) (evn (by omega) (Ev.now _)))
    (fun i j g0 g1 g2 q r hr => by
      have hh : wrap64 (Int.tdiv (wrap64 (i + j)) 2) = (i + j) / 2 := by
        rw [w64 (x := i + j) (by omega) (by omega), Int.tdiv_eq_ediv_of_nonneg (by omega), w64 (by omega) (by omega)]
      refine Ev.step (fun k => spileref14_least.l0.eq_2 ..) (evp g1 ?_)
      rw [hh]
      exact evb (read_both h _ (by omega) (by omega)).2 (evp q hr))
    (fun i j g0 g1 g2 q r hr => by
      have hh : wrap64 (Int.tdiv (wrap64 (i + j)) 2) = (i + j) / 2 := by
        rw [w64 (x := i + j) (by omega) (by omega), Int.tdiv_eq_ediv_of_nonneg (by omega), w64 (by omega) (by omega)]
      refine Ev.step (fun k => spileref14_least.l0.eq_2 ..) (evp g1 ?_)
      rw [hh]
      refine evb (read_both h _ (by omega) (by omega)).2 (evn q ?_)
      rw [w64 (by omega) (by omega)]
      exact hr)
    (fun a b g0 g1 g2 q => Int.le_trans q (f.mono _ _ g0 g1 (by omega))) b1
  have L2 : Least l v z := by
    refine ⟨z2, z3, ?_, fun y y0 y1 => ?_⟩
    · rcases Int.lt_or_le z (hN l) with c | c
      · exact z5 z (Int.le_refl _) c
      · rw [show z = hN l from by omega, f.last]; exact hv
    · have := z4 y y0 y1; omega
  have R2 : Ev (fun k => spileref14_least.f k l t v) z := by
    refine evp (by omega) (evp q0 (evp q1 ?_))
    rw [eN, e0]
    exact z1
  rw [least_unique L2 L1] at R2
  exact ⟨_, R1, R2, L1⟩
def Chain (l : List S39) (s : Int) : Int → List S39 → Prop
  | _, [] => True
  | p, m :: r => (Least l (p + s) m.f0 ∧ m.f1 = atL l m.f0 / s * s ∧ p + s ≤ vN l) ∧ Chain l s m.f1 r
def endV : Int → List S39 → Int
  | p, [] => p
  | _, m :: r => endV m.f1 r
theorem endV_snoc : ∀ (out : List S39) (p : Int) (m : S39), endV p (out ++ [m]) = m.f1
  | [], _, _ => rfl
  | x :: r, _, m => endV_snoc r x.f1 m
theorem chain_snoc {l : List S39} {s : Int} : ∀ (out : List S39) (p : Int) (m : S39), Chain l s p out → Least l (endV p out + s) m.f0 → m.f1 = atL l m.f0 / s * s → endV p out + s ≤ vN l → Chain l s p (out ++ [m])
  | [], p, m, _, a, b, c => ⟨⟨a, b, c⟩, trivial⟩
  | x :: r, p, m, h, a, b, c => ⟨h.1, chain_snoc r x.f1 m h.2 a b c⟩
theorem floor_le {a s : Int} (hs : 0 < s) : a / s * s ≤ a ∧ a < a / s * s + s := by
  have h1 := Int.emod_nonneg a (b := s) (by omega)
  have h2 := Int.emod_lt_of_pos a hs
  have h3 := Int.emod_def a s
  rw [Int.mul_comm] at h3
  omega
theorem floor_ge {a s q : Int} (hs : 0 < s) (h : q * s ≤ a) : q * s ≤ a / s * s :=
  Int.mul_le_mul_of_nonneg_right ((Int.le_ediv_iff_mul_le hs).2 h) (by omega)
/-- What Make comes to. -/
def Made (l : List S39) (s : Int) (r : List S39 × Int) : Prop := r = ([], 8) ∨ (r.2 = 0 ∧ r.1 ≠ [] ∧ (r.1.length : Int) ≤ 128 ∧ Chain l s 0 r.1 ∧ endV 0 r.1 + s > vN l)
theorem make_loop {l : List S39} {t : Int} (h : OKT l t) {s : Int} (s1 : 1 ≤ s) (s2 : s ≤ 1073741824) : ∀ (d : Nat) (out : List S39) (p : Int), out.length + d = 128 → endV 0 out = p → Chain l s 0 out → 0 ≤ p → p ≤ vN l → (out ≠ [] ∨ p + s ≤ vN l) →
    ∃ r, Ev (fun k => rod_Make.l0 k s out (vN l) (p + s) l t) r ∧ Ev (fun k => spileref14_Make.l0 k s out (p + s) l t (hN l) (vN l)) r ∧ Made l s r := by
  have f := facts h
  have bV := f.vNle
  intro d
  induction d with
  | zero =>
    intro out p hd hp hc p0 p1 hne
    by_cases c : p + s ≤ vN l
    · obtain ⟨x, x1, x2, x3⟩ := least_both h (p + s) c
      have rd := (Read_both h x).1
      unfold rdR at rd
      rw [if_neg (by have := x3.1; omega), if_neg (by have := x3.2.1; omega)] at rd
      have rd2 := (read_both h x x3.1 x3.2.1).2
      have l129 : ∀ m : S39, ((out ++ [m]).length : Int) > 128 := fun m => by rw [List.length_append]; simp; omega
      exact ⟨([], 8), Ev.step (fun k => rod_Make.l0.eq_2 ..) (evp c (evb x1 (evb rd (evn (by omega) (evp (by omega) (evb (Ev.now _) (evp (l129 _) (Ev.now _)))))))),
        Ev.step (fun k => spileref14_Make.l0.eq_2 ..) (evp c (evb x2 (evb rd2 (evn (by omega) (evp (by omega) (evb (Ev.now _) (evp (l129 _) (Ev.now _)))))))), .inl rfl⟩
    · have hn : out ≠ [] := by rcases hne with q | q; exact q; exact absurd q c
      have hl : ¬ (out.length : Int) = 0 := fun q => hn (List.eq_nil_of_length_eq_zero (by omega))
      exact ⟨(out, 0), Ev.step (fun k => rod_Make.l0.eq_2 ..) (evn c (evn hl (Ev.now _))), Ev.step (fun k => spileref14_Make.l0.eq_2 ..) (evn c (Ev.now _)), .inr ⟨rfl, hn, by show (out.length : Int) ≤ 128; omega, hc, by show endV 0 out + s > vN l; omega⟩⟩
  | succ d ih =>
    intro out p hd hp hc p0 p1 hne
    by_cases c : p + s ≤ vN l
    · obtain ⟨x, x1, x2, x3⟩ := least_both h (p + s) c
      have rd := (Read_both h x).1
      unfold rdR at rd
      rw [if_neg (by have := x3.1; omega), if_neg (by have := x3.2.1; omega)] at rd
      have rd2 := (read_both h x x3.1 x3.2.1).2
      have bd := f.bounds x x3.1 x3.2.1
      have fl := floor_le (a := atL l x) (s := s) (by omega)
      have fg : 0 ≤ atL l x / s * s := Int.mul_nonneg (Int.ediv_nonneg bd.1 (by omega)) (by omega)
      have dv := Int.ediv_le_self s bd.1
      have dv0 := Int.ediv_nonneg bd.1 (b := s) (by omega)
      have w1 : wrap64 (Int.tdiv (atL l x) s) = atL l x / s := by rw [Int.tdiv_eq_ediv_of_nonneg bd.1, w64 (by omega) (by omega)]
      have w2 : wrap64 (atL l x / s * s) = atL l x / s * s := w64 (by omega) (by omega)
      have w3 : wrap64 (atL l x / s * s + s) = atL l x / s * s + s := w64 (by omega) (by omega)
      have lm : ¬ ((out ++ [(⟨x, atL l x / s * s⟩ : S39)]).length : Int) > 128 := by rw [List.length_append]; simp; omega
      obtain ⟨r, r1, r2, r3⟩ := ih (out ++ [(⟨x, atL l x / s * s⟩ : S39)]) (atL l x / s * s) (by rw [List.length_append]; simp; omega) (endV_snoc _ _ _) (chain_snoc out 0 _ hc (by rw [hp]; exact x3) rfl (by rw [hp]; exact c)) fg (by omega) (.inl (by simp))
      refine ⟨r, Ev.step (fun k => rod_Make.l0.eq_2 ..) (evp c (evb x1 (evb rd (evn (by omega) (evp (by omega) ?_))))), Ev.step (fun k => spileref14_Make.l0.eq_2 ..) (evp c (evb x2 (evb rd2 (evn (by omega) (evp (by omega) ?_))))), r3⟩
      · simp only []
        rw [w1, w2, w3]
        exact evb (Ev.now _) (evn lm r1)
      · rw [w1, w2, w3]
        exact evb (Ev.now _) (evn lm r2)
    · have hn : out ≠ [] := by rcases hne with q | q; exact q; exact absurd q c
      have hl : ¬ (out.length : Int) = 0 := fun q => hn (List.eq_nil_of_length_eq_zero (by omega))
      exact ⟨(out, 0), Ev.step (fun k => rod_Make.l0.eq_2 ..) (evn c (evn hl (Ev.now _))), Ev.step (fun k => spileref14_Make.l0.eq_2 ..) (evn c (Ev.now _)), .inr ⟨rfl, hn, by show (out.length : Int) ≤ 128; omega, hc, by show endV 0 out + s > vN l; omega⟩⟩
theorem make_both (l : List S39) (t s : Int) (hl : (l.length : Int) ≤ 9223372036854775807) : ∃ r, Ev (fun k => rod_Make.f k l t s) r ∧ Ev (fun k => spileref14_Make.f k l t s) r ∧ (r.2 = 0 → OKT l t ∧ 1 ≤ s ∧ s ≤ 1073741824 ∧ r.1 ≠ [] ∧ (r.1.length : Int) ≤ 128 ∧ Chain l s 0 r.1 ∧ endV 0 r.1 + s > vN l) ∧ (r.2 ≠ 0 → r.1 = []) := by
  obtain ⟨e, e1, e2, e3⟩ := tab_both l t hl
  by_cases ok : OKT l t
  case neg =>
    have he : ¬ e = 0 := fun q => ok (e3.1 q)
    exact ⟨([], 1), evb e1 (evn he (Ev.now _)), evb e2 (evn he (Ev.now _)), (fun q => by cases q), (fun _ => rfl)⟩
  obtain rfl := e3.2 ok
  have n2 := ok.1
  have n3 := ok.2.1
  have hp := w64_pred (i := (l.length : Int)) (by omega) (Int.le_refl _) (by omega)
  have q0 : 0 ≤ wrap64 ((l.length : Int) - 1) := by rw [hp]; omega
  have q1 : wrap64 ((l.length : Int) - 1) < (l.length : Int) := by rw [hp]; omega
  have eN : (rd_T39 l (wrap64 ((l.length : Int) - 1))).f0 = hN l := by rw [hp]; rfl
  have eV : (rd_T39 l (wrap64 ((l.length : Int) - 1))).f1 = vN l := by rw [hp]; rfl
  by_cases c1 : s < 1
  · exact ⟨([], 2), evb e1 (evp rfl (evp c1 (Ev.step (fun k => rod_Make.j0.eq_2 ..) (evp rfl (Ev.now _))))), evb e2 (evp rfl (evp c1 (Ev.step (fun k => spileref14_Make.j0.eq_2 ..) (evp rfl (Ev.now _))))), (fun q => by cases q), (fun _ => rfl)⟩
  by_cases c2 : s > 1073741824
  · have cd := decide_eq_true c2
    exact ⟨([], 2), evb e1 (evp rfl (evn c1 (by rw [cd]; exact Ev.step (fun k => rod_Make.j0.eq_2 ..) (evp rfl (Ev.now _))))), evb e2 (evp rfl (evn c1 (by rw [cd]; exact Ev.step (fun k => spileref14_Make.j0.eq_2 ..) (evp rfl (Ev.now _))))), (fun q => by cases q), (fun _ => rfl)⟩
  have cd := decide_eq_false c2
  have pre1 : ∀ r, Ev (fun k => rod_Make.l0 k s ([] : List S39) (vN l) s l t) r → Ev (fun k => rod_Make.f k l t s) r := fun r hr => by
    refine evb e1 (evp rfl (evn c1 ?_))
    rw [cd]
    refine Ev.step (fun k => rod_Make.j0.eq_2 ..) (evn (by simp) (evp q0 (evp q1 ?_)))
    rw [eV]
    exact hr
  have v0 := (facts ok).bounds (hN l) (facts ok).h01 (Int.le_refl _)
  rw [(facts ok).last] at v0
  by_cases c3 : vN l < s
  · refine ⟨([], 9), pre1 _ (Ev.step (fun k => rod_Make.l0.eq_2 ..) (evn (by omega) (evp (by simp) (Ev.now _)))), evb e2 (evp rfl (evn c1 ?_)), (fun q => by cases q), (fun _ => rfl)⟩
    rw [cd]
    refine Ev.step (fun k => spileref14_Make.j0.eq_2 ..) (evn (by simp) (evp q0 (evp q1 ?_)))
    rw [eV]
    exact evp c3 (Ev.now _)
  · obtain ⟨r, r1, r2, r3⟩ := make_loop ok (s := s) (by omega) (by omega) 128 [] 0 rfl rfl trivial (Int.le_refl _) v0.1 (.inr (by omega))
    rw [Int.zero_add] at r1 r2
    refine ⟨r, pre1 _ r1, evb e2 (evp rfl (evn c1 ?_)), fun q => ?_, fun q => ?_⟩
    · rw [cd]
      refine Ev.step (fun k => spileref14_Make.j0.eq_2 ..) (evn (by simp) (evp q0 (evp q1 ?_)))
      rw [eV, eN]
      exact evn c3 r2
    · rcases r3 with e | ⟨_, a, b, c, d⟩
      · rw [e] at q; cases q
      · exact ⟨ok, by omega, by omega, a, b, c, d⟩
    · rcases r3 with e | ⟨a, _⟩
      · rw [e]
      · exact absurd a q
theorem chain_marks {l : List S39} {t : Int} (h : OKT l t) {s : Int} (s1 : 1 ≤ s) : ∀ (out : List S39) (q : Int), 0 ≤ q → Chain l s (q * s) out → ∀ m, m ∈ out →
    h0 l ≤ m.f0 ∧ m.f0 ≤ hN l ∧ (∃ u, m.f1 = u * s) ∧ q * s + s ≤ m.f1 ∧ m.f1 ≤ atL l m.f0 ∧ atL l m.f0 < m.f1 + s ∧ ∀ y, h0 l ≤ y → y < m.f0 → atL l y < m.f1
  | [], q, q0, hc, m, hm => by simp at hm
  | x :: r, q, q0, hc, m, hm => by
    obtain ⟨⟨L, e, c⟩, hr⟩ := hc
    have bd := (facts h).bounds x.f0 L.1 L.2.1
    have fl := floor_le (a := atL l x.f0) (s := s) (by omega)
    have fg := floor_ge (a := atL l x.f0) (s := s) (q := q + 1) (by omega) (by rw [Int.add_mul, Int.one_mul]; exact L.2.2.1)
    rw [Int.add_mul, Int.one_mul, ← e] at fg
    rw [← e] at fl
    rcases List.mem_cons.1 hm with rfl | hm
    · exact ⟨L.1, L.2.1, ⟨_, e⟩, fg, fl.1, fl.2, fun y y0 y1 => Int.lt_of_lt_of_le (L.2.2.2 y y0 y1) fg⟩
    · rw [e] at hr
      have := chain_marks h s1 r (atL l x.f0 / s) (Int.ediv_nonneg bd.1 (by omega)) hr m hm
      rw [← e] at this
      obtain ⟨a1, a2, a3, a4, a5⟩ := this
      exact ⟨a1, a2, a3, by omega, a5⟩
theorem chain_drop {l : List S39} {s : Int} : ∀ (n : Nat) (out : List S39) (p : Int), Chain l s p out → Chain l s (endV p (out.take n)) (out.drop n)
  | 0, out, p, h => by rw [List.take_zero, List.drop_zero]; exact h
  | n + 1, [], p, h => trivial
  | n + 1, x :: r, p, h => chain_drop n r x.f1 h.2
theorem chain_pair {l : List S39} {s : Int} {out : List S39} {p : Int} (h : Chain l s p out) {j : Int} (j1 : 1 ≤ j) (j2 : j < (out.length : Int)) : Least l ((rd_T39 out (j - 1)).f1 + s) (rd_T39 out j).f0 := by
  have := chain_drop (j - 1).toNat out p h
  rw [drop39 (i := j - 1) (by omega) (by omega), show j - 1 + 1 = j from by omega, drop39 (i := j) (by omega) j2] at this
  exact this.2.1.1
def RngR (x : S39) : Prop := 0 ≤ x.f0 ∧ x.f0 ≤ 200000 ∧ 1 ≤ x.f1 ∧ x.f1 ≤ 4294967296
def StpR (x y : S39) : Prop := x.f0 < y.f0 ∧ x.f1 < y.f1
def OKR (l : List S39) : Prop := 1 ≤ (l.length : Int) ∧ (l.length : Int) ≤ 128 ∧ (∀ j, 0 ≤ j → j < (l.length : Int) → RngR (rd_T39 l j)) ∧ (∀ j, 1 ≤ j → j < (l.length : Int) → StpR (rd_T39 l (j - 1)) (rd_T39 l j))
theorem made_rod {l : List S39} {t : Int} (h : OKT l t) {s : Int} (s1 : 1 ≤ s) {out : List S39} (hn : out ≠ []) (hl : (out.length : Int) ≤ 128) (hc : Chain l s 0 out) : OKR out := by
  have f := facts h
  have b0 := f.h0le
  have bN := f.hNle
  have bV := f.vNle
  have hlen : 1 ≤ (out.length : Int) := by
    rcases Nat.eq_zero_or_pos out.length with z | z
    · exact absurd (List.eq_nil_of_length_eq_zero z) hn
    · omega
  have marks := chain_marks h s1 out 0 (Int.le_refl _) (by rw [Int.zero_mul]; exact hc)
  refine ⟨hlen, hl, fun j j0 j1 => ?_, fun j j0 j1 => ?_⟩
  · have m := marks _ (rd39_mem j0 j1)
    have bd := f.bounds _ m.1 m.2.1
    rw [Int.zero_mul] at m
    exact ⟨by omega, by omega, by omega, by omega⟩
  · have m := marks _ (rd39_mem (l := out) (i := j - 1) (by omega) (by omega))
    have m2 := marks _ (rd39_mem (l := out) (i := j) (by omega) j1)
    have L := chain_pair hc j0 j1
    have lt : (rd_T39 out (j - 1)).f0 < (rd_T39 out j).f0 := by
      rcases Int.lt_or_le (rd_T39 out (j - 1)).f0 (rd_T39 out j).f0 with q | q
      · exact q
      · have := f.mono _ _ L.1 q m.2.1
        have := L.2.2.1
        omega
    refine ⟨lt, ?_⟩
    have := m2.2.2.2.2.2.2 _ m.1 lt
    omega
end Go.Proofs.YtkolhpacpbhceaaDoor.PL
namespace Go.Proofs.YtkolhpacpbhceaaDoor.PL
open Go Go.RowKit Go.Proofs.YtkolhpacpbhceaaDoorW.PrintWords Go.Proofs.YtkolhpacpbhceaaDoorW.PrintLast Go.Proofs.YtkolhpacpbhceaaDoorW.PrintMore Go.Proofs.YtkolhpacpbhceaaDoor.Pr Go.Proofs.YtkolhpacpbhceaaDoor.Opn Go.Proofs.YtkolhpacpbhceaaDoor.X
theorem same_self (l : List S39) (hl : (l.length : Int) ≤ 9223372036854775807) : Ev (fun k => spileref14_Same.f k l l) true := by
  refine evb (evp rfl (Ev.step (fun k => spileref13_Same.j0.eq_2 ..) (evn (by simp) ?_))) (Ev.now _)
  refine count_up 0 (l.length : Int) (fun i => Ev (fun k => spileref13_Same.l0 k i l 0 l 0) true) ?_ ?_ 0 (Int.le_refl _) (by omega)
  · exact Ev.step (fun k => spileref13_Same.l0.eq_2 ..) (evn (by omega) (Ev.now _))
  · intro i h0 h1 ih
    have hs := w64_succ h0 h1 hl
    refine Ev.step (fun k => spileref13_Same.l0.eq_2 ..) ?_
    rw [hs]
    exact evp h1 (evp h0 (evp h1 (evn (by simp) ih)))
theorem copy_eq {l : List S39} (t : Int) (h : (l.length : Int) ≤ 129) : spileref13_Copy.f l t = some (l, t) := by
  show (if ([] : List S39).length + l.length < 8796093022208 then some (([] : List S39) ++ l, t) else none) = _
  rw [if_pos (by simp; omega)]
  rfl
theorem few_cases (r l : List S39) (t : Int) : ∃ b, spilelaw14_few.f r l t = some b ∧ (b = true → (r.length : Int) ≤ 129 ∧ (l.length : Int) ≤ 129) := by
  unfold spilelaw14_few.f spileref13_Few.f
  by_cases c : (r.length : Int) ≤ 129
  · exact ⟨decide ((l.length : Int) ≤ 129), by rw [if_pos c]; rfl, fun q => ⟨c, of_decide_eq_true q⟩⟩
  · exact ⟨false, by rw [if_neg c], fun q => by cases q⟩
theorem made_both {l : List S39} {t s : Int} (hl : (l.length : Int) ≤ 129) : ∃ r, Ev (fun k => rod_Make.f k l t s) r ∧ Ev (fun k => spileref14_Make.f k l t s) r ∧ (r.1.length : Int) ≤ 128 ∧
    (r.2 = 0 → OKT l t ∧ 1 ≤ s ∧ s ≤ 1073741824 ∧ OKR r.1 ∧ Chain l s 0 r.1 ∧ endV 0 r.1 + s > vN l) ∧ (r.2 ≠ 0 → r.1 = []) := by
  obtain ⟨r, r1, r2, r3, r4⟩ := make_both l t s (by omega)
  refine ⟨r, r1, r2, ?_, fun q => ?_, r4⟩
  · by_cases q : r.2 = 0
    · exact (r3 q).2.2.2.2.1
    · rw [r4 q]; simp
  · obtain ⟨a, b, c, d, e, f, g⟩ := r3 q
    exact ⟨a, b, c, made_rod a b d e f, f, g⟩
end Go.Proofs.YtkolhpacpbhceaaDoor.PL
namespace Go.Proofs.YtkolhpacpbhceaaDoor.Pure
open Go Go.RowKit Go.Proofs.YtkolhpacpbhceaaDoorW.PrintWords Go.Proofs.YtkolhpacpbhceaaDoorW.PrintLast Go.Proofs.YtkolhpacpbhceaaDoorW.PrintMore Go.Proofs.YtkolhpacpbhceaaDoor.Pr Go.Proofs.YtkolhpacpbhceaaDoor.Opn Go.Proofs.YtkolhpacpbhceaaDoor.X Go.Proofs.YtkolhpacpbhceaaDoor.PL
theorem RodMakes : rodMakesPure := by
  intro l t s hl ht hs
  refine Ev.rounds ?_
  obtain ⟨b, hb, hb2⟩ := few_cases [] l t
  have haw : Ev (fun _ : Nat => spilelaw14_awake.f) true := Ev.now _
  refine evb haw (evp rfl (evb (evc (fun _ => rfl) hb) ?_))
  cases b with
  | false => exact evn (by simp) (Ev.now _)
  | true =>
    have hn := (hb2 rfl).2
    obtain ⟨r, r1, r2, r3, _⟩ := made_both (l := l) (t := t) (s := s) hn
    exact evp rfl (evb (evc (fun _ => rfl) (copy_eq t hn)) (evb r1 (evb r2 (evb (same_self r.1 (by omega)) (evp rfl (evr (by simp)))))))
end Go.Proofs.YtkolhpacpbhceaaDoor.Pure
namespace Go.Proofs.YtkolhpacpbhceaaDoor.X
open Go
variable {H : Type} {enc : TypeId × Value → H}
theorem wrap_shaped {a : Assume} {C : Checked} {os : Os} {f : FuncId} {fn : Func} {s : ChangeSpec} {conds : List PathCond} {apart fresh handsOn again : Bool} {X : World → Array Value → Prop}
    (hX : ∀ (w w' : World) (args : Array Value), w.heap = w'.heap → X w args → X w' args)
    (own : ownKnob C.prog.godebug = none) (started : os.Started) (noInit : C.prog.inits.idxOf? f = none) (hfn : C.prog.funcs[f]? = some fn)
    (witness : ∃ (w : World) (tape : Tape) (i : Input), w.os = os ∧ (w.forCall tape i).Shaped C.prog ∧ i.vars = [] ∧ Input.okWide C.prog (w.forCall tape i) .any w.heap.size f i ∧
      ((s.pre enc C.prog fn conds apart (w.forCall tape i).memory i.args ∧ X (w.forCall tape i).memory i.args) ∧ sizedMet enc C.prog fn (OpenSpec.ofChange s) apart (w.forCall tape i).memory i.args) ∧ a.holds C.prog (lone (Frame.enter C.prog f i.args .normal) [] (w.forCall tape i)))
    (walk : ∀ (W : World) (base : Nat) (args : Array Value) (ds gs : List (DataW H)) (before : List MemPlace),
      (∀ (j : Nat) t v, fn.params[j]? = some t → args[j]? = some v → Value.okWide C.prog W .any base t v) →
      DataW.Whole enc C.prog fn.params.toList s.vars apart W args.toList ds gs before → X W args → W.ShapedOpen C.prog →
      Calls C.prog f args W fun e W' => ∃ v, e = .returned v ∧ s.post enc C.prog fn apart fresh handsOn again W args v W') :
    ReturnsInHanded a C os f .any (fun w args => (s.pre enc C.prog fn conds apart w args ∧ X w args) ∧ sizedMet enc C.prog fn (OpenSpec.ofChange s) apart w args) (s.post enc C.prog fn apart fresh handsOn again) := by
  refine returnsInHanded_of_calls own started noInit witness ?_
  intro w tape i _ hsh _ hok hpre _
  obtain ⟨_, _, _, fn', hfn', _, _, _, _, hval⟩ := hok
  obtain rfl : fn' = fn := Option.some.inj (hfn'.symm.trans hfn)
  obtain ⟨⟨⟨ds, gs, before, hw, _⟩, hx⟩, _⟩ := hpre
  refine (walk (w.forCall tape i) w.heap.size i.args ds gs before hval (DataW.Whole.of_heap (w' := w.forCall tape i) (by rfl) hw) (hX _ _ _ (by rfl) hx) hsh).mono fun e W' ⟨v, he, hp⟩ => ?_
  subst he
  exact ChangeSpec.post_blind hp
end Go.Proofs.YtkolhpacpbhceaaDoor.X
namespace Go.Proofs.YtkolhpacpbhceaaDoor.rodMakes
open Go Go.ChangeShapes Go.WideShapes Go.ChangeAt Go.RowKit
open Go.ChangeMaps (open_string shut_string)
open Go.Proofs.YtkolhpacpbhceaaDoorW.PrintWords Go.Proofs.YtkolhpacpbhceaaDoor.O Go.Proofs.YtkolhpacpbhceaaDoor.Opn Go.Proofs.YtkolhpacpbhceaaDoor.Pr Go.Proofs.YtkolhpacpbhceaaDoor.X
theorem own : ownKnob Tryd.prog.godebug = none := by kernel_rfl
theorem laidOut : laidOutB Tryd.prog = true := by kernel_rfl
abbrev laidL : List (String × DataW Unit) := [("math/bits.deBruijn32tab", Rows.laid_math_bits_deBruijn32tab), ("math/bits.deBruijn64tab", Rows.laid_math_bits_deBruijn64tab), ("internal/strconv.uint64pow10", Rows.laid_internal_strconv_uint64pow10)]
set_option maxRecDepth 100000 in
theorem lifted (os : Os) (started : os.Started) (H : Type) (enc : TypeId × Value → H) :
    ReturnsInHanded {} Tryd.checked os 3 .any (fun w args => (Rows.rodMakesSpec.pre enc Tryd.prog Tryd.f3 [] false w args ∧ laidMetH Tryd.prog laidL w) ∧ sizedMet enc Tryd.prog Tryd.f3 (OpenSpec.ofChange Rows.rodMakesSpec) false w args)
      (Rows.rodMakesSpec.post enc Tryd.prog Tryd.f3 false true false false) := by
  refine wrap_shaped (C := Tryd.checked) (X := (fun w _ => laidMetH Tryd.prog laidL w)) (fun _ _ _ hh h => h.of_heap hh) own started (by kernel_rfl) Tryd.func3
    (ChangeSpec.witness_shaped (enc := enc) (C := Tryd.checked) (os := os) (X := (fun w _ => laidMetH Tryd.prog laidL w)) false (World.laidAll Tryd.prog os laidL) #[.agg #[.slice none 0 0, .int .i64 0], .int .i64 0] 8 (World.laidAll_os _ _ _) (World.shaped_of_ZipB (by kernel_rfl) (by kernel_rfl)) (by kernel_rfl) (by kernel_rfl) (by kernel_rfl) (by rw [MakeChecks.laidMetH_plain _ _ _ (by kernel_rfl)]; exact laidMet_laidAll _ (by kernel_rfl) (by kernel_rfl))) ?_
  intro W base args ds gs before hval0 hW hL hsh
  have hval : ∀ (j : Nat) t v, Tryd.f3.params[j]? = some t → args[j]? = some v → Value.okWide Tryd.prog W .any base t v := hval0
  have hW' := hW
  obtain ⟨p, q, hA0, hV, rfl, hfz, hnd⟩ := hW
  have hA : DataW.TrodAll enc Tryd.prog W 0 (fun _ => true) true Tryd.f3.params.toList args.toList ds p := hA0
  rw [Tryd.params3] at hA hval
  obtain ⟨v0, vs0, d0, ds0, p0, q0, hargs, rfl, rfl, h0, r0⟩ := trodAll_cons hA
  obtain ⟨v1, vs1, d1, ds1, p1, q1, rfl, rfl, rfl, h1, r1⟩ := trodAll_cons r0
  obtain ⟨rfl, rfl, rfl⟩ := trodAll_nil r1
  obtain rfl : args = #[v0, v1] := by cases args; simp_all
  obtain ⟨rfl, rfl⟩ := trodVars_none hV
  obtain ⟨cs0, rfl, _⟩ := okWide_struct Tryd.underlying24 (hval 0 24 v0 rfl rfl)
  have k0 := h0
  have lt0 : ∀ x ∈ p0, x.block < W.heap.size := by obtain ⟨m, hm⟩ := k0; exact DataW.trod_lt m _ _ _ hm
  obtain ⟨x0, K0, ok0⟩ : ∃ x, k24.K W x cs0.toList ∧ ok24 x := by
    obtain ⟨fuel, hf⟩ := h0
    exact opens24.2 _ _ _ _ _ _ _ _ _ hf
  obtain ⟨A0_0, c0_0, e0, g0_0, hr0_0⟩ := k24_open K0
  obtain rfl : cs0 = #[.slice A0_0 (x0.f0).length c0_0, .int .i64 (x0.f1)] := by cases cs0; simpa using e0
  obtain ⟨a1, rfl, rfl, rfl, w1⟩ := open_int Tryd.underlying3 (hval 1 3 v1 rfl rfl) h1
  clear hA0 hval0
  obtain ⟨k, hp⟩ := Pure.RodMakes (x0.f0) (x0.f1) a1 ok0.1 ok0.2 w1
  have hG : GI W := GI.of_laid laidL (by simp [laidL]) hL hsh
  refine (spilelaw14_RodMakes.calls k _ _ (x0.f0) (x0.f1) a1 true W hr0_0 g0_0 hG rfl hp).mono fun e W' ⟨he, bel⟩ => ?_
  subst he
  exact ⟨_, rfl, _, _, _, [], _, [], hW', trodAll_mk1 (shut_bool Tryd.underlying4 _), (trodAll_cons_mk (Below.trod laidOut (by kernel_rfl) (of_decide_eq_true (by kernel_rfl)) k0 bel lt0) (trodAll_cons_mk (shut_int Tryd.underlying3 w1) trodAll_mk0)), rfl, bel.frame _, fun h => by cases h⟩
theorem holds : Rows.RodMakesSaid :=
  OpenClaim.holds_of_wide 3 Tryd.f3 rfl rfl rfl rfl rfl rfl rfl ⟨rfl, rfl, rfl, rfl, rfl⟩ rfl rfl rfl rfl rfl (by kernel_rfl) Tryd.func3 (by kernel_rfl)
    (of_decide_eq_true (by kernel_rfl)) (by unfold Func.isWrapper; first | (rw [if_pos (by decide +kernel)]; kernel_rfl) | (rw [if_neg (by decide +kernel)]; exact ⟨rfl, rfl⟩))
    (fun os started H enc _ => lifted os started H enc)
theorem card : Rows.RodMakesCardSaid :=
  Claim7.holds_tied_plain_at .later [] [.data, .data, .data] true (true, "ffac5e0cc8868b2e00f9950da871680f8663d7526cb1afae6a9e6c162e8ee000") false
    holds (fun _ h => by cases h) (by kernel_rfl) (fun _ h => by cases h) rodMakes_row_tie rfl ⟨rfl, rfl⟩ (by kernel_rfl) rfl
    (fun f fn hf hfn => by
      obtain rfl : f = 3 := Option.some.inj ((show Tryd.prog.funcNamed "spile/spilelaw14.RodMakes" = some 3 by kernel_rfl).symm.trans hf) |>.symm
      obtain rfl : fn = Tryd.f3 := (Option.some.inj (Tryd.func3.symm.trans hfn)).symm
      exact ⟨by kernel_rfl, fun j t ht => by
        rw [Tryd.params3] at ht
        have hm : t ∈ [24, 3] := by simpa using Array.mem_of_getElem? ht
        have hall : ([24, 3].all fun u => !Tryd.prog.wantsStandIn u) = true := by kernel_rfl
        exact (show Tryd.prog.wantsStandIn t = false by simpa using List.all_eq_true.1 hall t hm)⟩)
    (by kernel_rfl)
end Go.Proofs.YtkolhpacpbhceaaDoor.rodMakes
namespace Go.Proofs.YtkolhpacpbhceaaDoor
/-- The card, under a short name, for the claim. -/
theorem rodMakes_holds : Rows.RodMakesCardSaid := rodMakes.card
#print axioms rodMakes_holds
end Go.Proofs.YtkolhpacpbhceaaDoor
