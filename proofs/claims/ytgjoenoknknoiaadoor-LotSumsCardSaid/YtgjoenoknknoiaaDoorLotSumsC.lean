/-
The law LotSums returns true for every input that can be read as data, and leaves its arguments as they were: the row, and the card that ties the listed variables to the program's text.
No condition of its own beyond those that the given row prints.
-/
import Derived.Maps.OwnSet
import Derived.Maps.RangeWalk
import Derived.Maps.Views
import Derived.StringKeys
import Derived.LoopTactic
import Derived.Test.YtgjoenoknknoiaaDoorCards
import Derived.Test.YtgjoenoknknoiaaDoorTie
import Derived.ProofKit
import Derived.OpenShut
import Derived.ShutString
import Derived.ChangeOld
import Derived.SizedLaws
import Derived.LaidMore
import Derived.Handed
import Derived.SevenTiedAt
import Derived.LaidSub
import Derived.LaidOnce
import Derived.Stop.Joined
import Derived.Stop.LaidErr
import Derived.Test.YtgjoenoknknoiaaDoorLotSumsB
set_option linter.unusedVariables false
set_option linter.unusedSimpArgs false
namespace Go.Proofs.YtgjoenoknknoiaaDoor.Pr
open Go.RowKit Go.Proofs.YtgjoenoknknoiaaDoorW.PrintWords Go.Proofs.YtgjoenoknknoiaaDoorW.PrintLast Go.Proofs.YtgjoenoknknoiaaDoorW.PrintMore Go.Proofs.YtgjoenoknknoiaaDoor.X
attribute [local go_sem] max2_int min2_int max_two min_two max_three min_three max_four min_four   -- for this text's walks alone
set_option linter.unusedVariables false
set_option linter.unusedSimpArgs false
def spileref22_FewShares.f (l0 : List (S35)) : Option (Bool) := if (l0.length : Int) ≤ 12 then (some true) else (if (l0.length : Int) > 32 then (some (decide ((l0.length : Int) ≤ 37))) else (some false))
set_option maxHeartbeats 8000000 in
set_option maxRecDepth 100000 in
theorem spileref22_FewShares.calls (A0 : Option Addr) (c0 : Nat) (l0 : List (S35)) (r : Bool) (w : World) (hr0 : Kd.C k35 w A0 l0.length l0) (hc0 : l0.length ≤ c0) (h : spileref22_FewShares.f l0 = some r) :
  Calls Tryd.prog 21 #[.slice A0 l0.length c0] w fun e w' => e = .returned (.bool r) ∧ Drawn0 w w' := by
 have HR0 := Aside0.mk hr0; have HC0 := Aside0.mk hc0; clear hr0 hc0; have H : (if (l0.length : Int) ≤ 12 then (some true) else (if (l0.length : Int) > 32 then (some (decide ((l0.length : Int) ≤ 37))) else (some false))) = some r := h; clear h; by_cases c2 : (l0.length : Int) ≤ 12
 ·
  rw [if_pos c2] at H; have c2b0 : decide ((l0.length : Int) ≤ 12) = true := decide_eq_true c2; have c2b1 : decide (l0.length ≤ 12) = true := decide_eq_true (by omega); clear c2; obtain rfl := Option.some.inj H; go_enter Tryd.func21, Tryd.ntmps21
  go_wp2; go_ret
  exact ⟨by first | rfl | (simp; done) | (simp [*]; done), by repeat (first | exact Drawn0.refl _ | apply Drawn0.step)⟩
 ·
  rw [if_neg c2] at H; have c2b0 : decide ((l0.length : Int) ≤ 12) = false := decide_eq_false c2; have c2b1 : decide (l0.length ≤ 12) = false := decide_eq_false (by omega); clear c2; by_cases c3 : (l0.length : Int) > 32
  ·
   rw [if_pos c3] at H; have c3b0 : decide (32 < (l0.length : Int)) = true := decide_eq_true c3; have c3b1 : decide (32 < l0.length) = true := decide_eq_true (by omega); clear c3; obtain rfl := Option.some.inj H; go_enter Tryd.func21, Tryd.ntmps21
   go_wp2; go_ret
   exact ⟨by first | rfl | (simp; done) | (simp [*]; done), by repeat (first | exact Drawn0.refl _ | apply Drawn0.step)⟩
  ·
   rw [if_neg c3] at H; have c3b0 : decide (32 < (l0.length : Int)) = false := decide_eq_false c3; have c3b1 : decide (32 < l0.length) = false := decide_eq_false (by omega); clear c3; obtain rfl := Option.some.inj H; go_enter Tryd.func21, Tryd.ntmps21
   go_wp2; go_ret
   exact ⟨by first | rfl | (simp; done) | (simp [*]; done), by repeat (first | exact Drawn0.refl _ | apply Drawn0.step)⟩
mutual
def spileref22_Few.j0 : Nat → List (S33) → Bool → Option (Bool)
 | 0, _, _ => none
 | k + 1, x0, x16 => if x16 = true then (some false) else (spileref22_Few.l0 k x0 0)
def spileref22_Few.l0 : Nat → List (S33) → Int → Option (Bool)
 | 0, _, _ => none
 | k + 1, x0, x3 => if x3 < (x0.length : Int) then (if 0 ≤ x3 then ((spileref22_FewShares.f ((rd_T33 x0 x3).f2)).bind fun t141 => (if t141 = true then (spileref22_Few.l0 k x0 (wrap64 (x3 + 1))) else (some false))) else (none)) else (some true)
end
def spileref22_Few.f (k : Nat) (l0 : List (S33)) : Option (Bool) := if (l0.length : Int) > 8 then (if (l0.length : Int) ≤ 32 then (spileref22_Few.j0 k l0 true) else (spileref22_Few.j0 k l0 (decide ((l0.length : Int) > 37)))) else (spileref22_Few.j0 k l0 (decide ((l0.length : Int) > 37)))
set_option maxHeartbeats 8000000 in
set_option maxRecDepth 100000 in
theorem spileref22_Few.calls (k : Nat) (A0 : Option Addr) (c0 : Nat) (l0 : List (S33)) (r : Bool) (w : World) (hr0 : Kd.C k33 w A0 l0.length l0) (hc0 : l0.length ≤ c0) (h : spileref22_Few.f k l0 = some r) :
  Calls Tryd.prog 11 #[.slice A0 l0.length c0] w fun e w' => e = .returned (.bool r) ∧ Drawn0 w w' := by
 have HR0 := Aside0.mk hr0; have HC0 := Aside0.mk hc0; clear hr0 hc0; have H : (if (l0.length : Int) > 8 then (if (l0.length : Int) ≤ 32 then (spileref22_Few.j0 k l0 true) else (spileref22_Few.j0 k l0 (decide ((l0.length : Int) > 37)))) else (spileref22_Few.j0 k l0 (decide ((l0.length : Int) > 37)))) = some r := h; clear h; have HC2 := Aside0.mk H; clear H; go_enter Tryd.func11, Tryd.ntmps11
 go_upto_region 1 with (fail)
 go_cut [16] (fun v16 wc => ∃ (kq : Nat) (x16_1 : Bool), v16 = .bool x16_1 ∧ Aside0 (spileref22_Few.j0 kq l0 x16_1 = some r) ∧ Aside0 (kq ≤ k) ∧ Drawn0 w wc)
 case first =>
  have H := HC2.out; clear HC2; by_cases c3 : (l0.length : Int) > 8
  ·
   rw [if_pos c3] at H; have c3b0 : decide (8 < (l0.length : Int)) = true := decide_eq_true c3; have c3b1 : decide (8 < l0.length) = true := decide_eq_true (by omega); clear c3; (first | rw [c3b0] | (simp only [i64_w, i32_w]; rw [c3b0]) | skip)
   by_cases c4 : (l0.length : Int) ≤ 32
   ·
    rw [if_pos c4] at H; have c4b0 : decide ((l0.length : Int) ≤ 32) = true := decide_eq_true c4; have c4b1 : decide (l0.length ≤ 32) = true := decide_eq_true (by omega); clear c4; have H' := Aside0.mk H; clear H; go_wp2; go_meet
    case rel => exact ⟨_, (true), (by first | rfl | (simp; done) | (simp [*]; done)), H', ⟨by first | omega | exact Nat.le_refl _⟩, by repeat (first | exact Drawn0.refl _ | apply Drawn0.step)⟩
   ·
    rw [if_neg c4] at H; have c4b0 : decide ((l0.length : Int) ≤ 32) = false := decide_eq_false c4; have c4b1 : decide (l0.length ≤ 32) = false := decide_eq_false (by omega); clear c4; have H' := Aside0.mk H; clear H; go_wp2; go_meet
    case rel => exact ⟨_, (decide ((l0.length : Int) > 37)), (by first | rfl | (simp; done) | (simp [*]; done)), H', ⟨by first | omega | exact Nat.le_refl _⟩, by repeat (first | exact Drawn0.refl _ | apply Drawn0.step)⟩
  ·
   rw [if_neg c3] at H; have c3b0 : decide (8 < (l0.length : Int)) = false := decide_eq_false c3; have c3b1 : decide (8 < l0.length) = false := decide_eq_false (by omega); clear c3; (first | rw [c3b0] | (simp only [i64_w, i32_w]; rw [c3b0]) | skip)
   have H' := Aside0.mk H; clear H; go_wp2; go_meet
   case rel => exact ⟨_, (decide ((l0.length : Int) > 37)), (by first | rfl | (simp; done) | (simp [*]; done)), H', ⟨by first | omega | exact Nat.le_refl _⟩, by repeat (first | exact Drawn0.refl _ | apply Drawn0.step)⟩
 case rest =>
  clear HC2; try clear c1
  try clear p2
  try clear c3
  try clear c3b0
  try clear c3b1
  try clear c4
  try clear c4b0
  try clear c4b1
  obtain ⟨kq, x16_1, rfl, HA, HJ1, ⟨mc1, rfl⟩⟩ := hcut
  cases kq with
  | zero => exact absurd HA.out (by simp [spileref22_Few.j0])
  | succ kj1 =>
   have H := HA.out; clear HA; simp only [spileref22_Few.j0] at H; by_cases c5 : x16_1 = true
   ·
    subst c5; have H1 : (some false) = some r := by rw [if_pos rfl] at H; exact H
    clear H; have H := H1; clear H1; obtain rfl := Option.some.inj H; go_wp2; go_ret
    exact ⟨by first | rfl | (simp; done) | (simp [*]; done), by repeat (first | exact Drawn0.refl _ | apply Drawn0.step)⟩
   ·
    replace c5 := Bool.eq_false_iff.mpr c5; subst c5; have H1 : (spileref22_Few.l0 kj1 l0 0) = some r := by rw [if_neg (show ¬ (false = true) by decide)] at H; exact H
    clear H; have H := H1; clear H1; have H' := Aside0.mk H; clear H; go_wp2; go_loopg [3] kj1 (fun kq v3 w' => ∃ (x3_2 : Int), v3 = .int .i64 x3_2 ∧ Aside0 (spileref22_Few.l0 kq l0 x3_2 = some r) ∧ Aside0 (kq ≤ kj1) ∧ Drawn0 w w')
    case atStart => exact ⟨(0), (by first | rfl | (simp; done) | (simp [*]; done)), H', ⟨Nat.le_refl _⟩, by repeat (first | exact Drawn0.refl _ | apply Drawn0.step)⟩
    case round =>
     clear H'; try clear c1
     try clear p2
     try clear c3
     try clear c3b0
     try clear c3b1
     try clear c4
     try clear c4b0
     try clear c4b1
     try clear c5
     try clear p2
     obtain ⟨x3_2, rfl, HA, HK2, ⟨m2, rfl⟩⟩ := hrel
     cases gk with
     | zero => exact absurd HA.out (by simp [spileref22_Few.l0])
     | succ k2 =>
      have H := HA.out; clear HA; simp only [spileref22_Few.l0] at H; by_cases c6 : x3_2 < (l0.length : Int)
      ·
       rw [if_pos c6] at H; have c6b0 : decide (x3_2 < (l0.length : Int)) = true := decide_eq_true c6; clear c6; by_cases c7 : 0 ≤ x3_2
       ·
        rw [if_pos c7] at H; have c7b0 : decide (0 ≤ x3_2) = true := decide_eq_true c7; clear c7; replace H := Option.bind_eq_some_iff.mp H; obtain ⟨t141, A80, H⟩ := H; replace H : (if t141 = true then (spileref22_Few.l0 k2 l0 (wrap64 (x3_2 + 1))) else (some false)) = some r := H; have A8 := Aside0.mk A80; clear A80; by_cases c9 : t141 = true
        ·
         subst c9; have H1 : (spileref22_Few.l0 k2 l0 (wrap64 (x3_2 + 1))) = some r := by rw [if_pos rfl] at H; exact H
         clear H; have H := H1; clear H1; have H' := Aside0.mk H; clear H; have p140 : 0 ≤ (x3_2 : Int) := of_decide_eq_true (by first | (with_reducible assumption) | assumption); have q140 : x3_2 < (l0.length : Int) := of_decide_eq_true (by first | (with_reducible assumption) | assumption); obtain ⟨ad140, A140_3, c140_3, e140, hx140_0, hx140_1, hx140_2, hx140_3, hl140_3, hi140_3⟩ := at_T33 HR0.out x3_2 p140 q140; cases e140; have HR140_3 := Aside0.mk hi140_3; have HC140_3 := Aside0.mk hl140_3; clear hi140_3 hl140_3; replace p140 := eq_true p140; replace q140 := eq_true q140; go_wp2_with (first | ((with_reducible refine gate_callee (f := 21) rfl ?_); refine goesL_ (some 28) rfl rfl Tryd.func21 (by kernel_rfl) rfl #[.slice A140_3 ((rd_T33 l0 x3_2).f2).length c140_3] rfl (by (try simp only [List.map_toArray, List.map_cons, List.map_nil]); first | done | rfl | (simp only [List.length_drop, List.length_take]; rfl)) ?_; (with_reducible refine (spileref22_FewShares.calls _ _ ((rd_T33 l0 x3_2).f2) true _ ?side1 ?side2 A8.out).mono ?_); (case side1 => repeat (first | exact HR140_3.out | (with_reducible refine Kd.C_alloc ?_ _) | (with_reducible refine Kd.C_drewN ?_ _) | (with_reducible refine Kd.C_drew ?_))); (case side2 => exact HC140_3.out); rintro e w' ⟨rfl, ⟨nd, rfl⟩⟩; refine ⟨_, rfl, ?_⟩))
         go_roundg k2
         case measure => have := HJ1.out; have := HK2.out; omega
         case rel => exact ⟨(wrap64 (x3_2 + 1)), (by first | rfl | (simp; done) | (simp [*]; done)), H', ⟨by have := HJ1.out; have := HK2.out; omega⟩, by repeat (first | exact Drawn0.refl _ | apply Drawn0.step)⟩
        ·
         replace c9 := Bool.eq_false_iff.mpr c9; subst c9; have H1 : (some false) = some r := by rw [if_neg (show ¬ (false = true) by decide)] at H; exact H
         clear H; have H := H1; clear H1; obtain rfl := Option.some.inj H; have p140 : 0 ≤ (x3_2 : Int) := of_decide_eq_true (by first | (with_reducible assumption) | assumption); have q140 : x3_2 < (l0.length : Int) := of_decide_eq_true (by first | (with_reducible assumption) | assumption); obtain ⟨ad140, A140_3, c140_3, e140, hx140_0, hx140_1, hx140_2, hx140_3, hl140_3, hi140_3⟩ := at_T33 HR0.out x3_2 p140 q140; cases e140; have HR140_3 := Aside0.mk hi140_3; have HC140_3 := Aside0.mk hl140_3; clear hi140_3 hl140_3; replace p140 := eq_true p140; replace q140 := eq_true q140; go_wp2_with (first | ((with_reducible refine gate_callee (f := 21) rfl ?_); refine goesL_ (some 28) rfl rfl Tryd.func21 (by kernel_rfl) rfl #[.slice A140_3 ((rd_T33 l0 x3_2).f2).length c140_3] rfl (by (try simp only [List.map_toArray, List.map_cons, List.map_nil]); first | done | rfl | (simp only [List.length_drop, List.length_take]; rfl)) ?_; (with_reducible refine (spileref22_FewShares.calls _ _ ((rd_T33 l0 x3_2).f2) false _ ?side1 ?side2 A8.out).mono ?_); (case side1 => repeat (first | exact HR140_3.out | (with_reducible refine Kd.C_alloc ?_ _) | (with_reducible refine Kd.C_drewN ?_ _) | (with_reducible refine Kd.C_drew ?_))); (case side2 => exact HC140_3.out); rintro e w' ⟨rfl, ⟨nd, rfl⟩⟩; refine ⟨_, rfl, ?_⟩))
         go_ret
         exact ⟨by first | rfl | (simp; done) | (simp [*]; done), by repeat (first | exact Drawn0.refl _ | apply Drawn0.step)⟩
       · rw [if_neg c7] at H; exact absurd H (by simp)
      ·
       rw [if_neg c6] at H; have c6b0 : decide (x3_2 < (l0.length : Int)) = false := decide_eq_false c6; clear c6; obtain rfl := Option.some.inj H; go_wp2; go_ret
       exact ⟨by first | rfl | (simp; done) | (simp [*]; done), by repeat (first | exact Drawn0.refl _ | apply Drawn0.step)⟩
def lot_Total.l0 : Nat → List (S33) → Int → Int → Int → Int → Option (Int × Int × Int)
 | 0, _, _, _, _, _ => none
 | k + 1, x12, x13, x14, x145000, x145001 => if x14 < x13 then (if 0 ≤ x14 then (if x14 < (x12.length : Int) then (lot_Total.l0 k x12 x13 (wrap64 (x14 + 1)) (wrap64 (x145000 + ((rd_T33 x12 x14).f1.f0))) (wrap64 (x145001 + ((rd_T33 x12 x14).f1.f1)))) else (none)) else (none)) else ((lot_plain.f k x145000 x145001).bind fun t147 => (if t147 = true then (some (x145000, x145001, 0)) else (some (0, 0, 15))))
def lot_Total.f (k : Nat) (l0 : List (S33)) : Option (Int × Int × Int) := (lot_right.f k l0).bind fun t143 => (if t143 = true then (lot_Total.l0 k l0 (l0.length : Int) 0 0 0) else (some (0, 0, 1)))
def lot_Total.T7 : Bool × List (List Nat × List Nat) := (true, [([], []), ([0], [0]), ([], []), ([2], [2]), ([3], [3]), ([1, 4], [1, 4]), ([], []), ([6], [6]), ([], []), ([8], [8]), ([9], [9]), ([7, 10], [7, 10]), ([0, 1, 2, 3, 4, 5, 6, 7], []), ([12, 5, 0, 1, 2, 3, 4, 5, 6, 7], [5, 12]), ([0, 1, 2, 3, 4, 5, 6, 7, 8, 9, 10, 11, 12, 13], []), ([14, 11, 13, 0, 1, 2, 3, 4, 5, 6, 7, 8, 9, 10, 11, 12, 13], [11, 14])])
def lot_Total.B7 : List Nat := [0, 1, 0, 4, 12, 31, 0, 64, 0, 256, 768, 1984, 255, 4351, 16383, 32767]
theorem lot_Total.tab7 : rtab .any (opsOf Tryd.f12 7) = lot_Total.T7 := by kernel_rfl
theorem lot_Total.bits7 : waitsOk lot_Total.T7.2 lot_Total.B7 = true := by kernel_rfl
set_option maxHeartbeats 8000000 in
set_option maxRecDepth 100000 in
theorem lot_Total.calls (k : Nat) (A0 : Option Addr) (c0 : Nat) (l0 : List (S33)) (r1 : Int) (r2 : Int) (r3 : Int) (w : World) (hr0 : Kd.C k33 w A0 l0.length l0) (hc0 : l0.length ≤ c0) (h : lot_Total.f k l0 = some (r1, r2, r3)) :
  Calls Tryd.prog 12 #[.slice A0 l0.length c0] w fun e w' => e = .returned (.tuple #[.agg #[.int .i64 r1, .int .i64 r2], .int .i64 r3]) ∧ Below w.heap.size w w' := by
 have hu26 := Tryd.underlying26; have hu33 := Tryd.underlying33; have HR0 := Aside0.mk hr0; have HC0 := Aside0.mk hc0; clear hr0 hc0; have HB := Aside0.mk (Below.refl w.heap.size w); have H : ((lot_right.f k l0).bind fun t143 => (if t143 = true then (lot_Total.l0 k l0 (l0.length : Int) 0 0 0) else (some (0, 0, 1)))) = some (r1, r2, r3) := h; clear h; replace H := Option.bind_eq_some_iff.mp H; obtain ⟨t143, A20, H⟩ := H; replace H : (if t143 = true then (lot_Total.l0 k l0 (l0.length : Int) 0 0 0) else (some (0, 0, 1))) = some (r1, r2, r3) := H; have A2 := Aside0.mk A20; clear A20; by_cases c3 : t143 = true
 ·
  subst c3; replace H : (lot_Total.l0 k l0 (l0.length : Int) 0 0 0) = some (r1, r2, r3) := by rw [if_pos rfl] at H; exact H
  have H' := Aside0.mk H; clear H; go_enter Tryd.func12, Tryd.ntmps12
  go_wp2_with (first | ((with_reducible refine gate_dst (N := 2) rfl ?_); refine box_event ?hg (N := 2) ?hd (cs := #[.int .i64 0, .int .i64 0]) (t := 26) ?hr ?_; (case hd => rfl); (case hg => rfl); (case hr => first | (go_simp; done) | (go_simp; rfl)); intro gb142 hg w4 hbox hb; have n0_ := Aside0.mk (below_step (eG HB.out) hb); have n1_ := Aside0.mk (hbox); have n2_ := Aside0.mk ((by rw [hg]; exact (below_size (eG HB.out)) : w.heap.size ≤ gb142)); have n3_ := Aside0.mk ((by rw [hg]; exact (below_size (eG HB.out)) : w.heap.size ≤ gb142)); clear HB; have HB := n0_; have BK142 := n1_; have GW142 := n2_; have GE142 := n3_; have ig142_ := geI GE142; clear n0_ n1_ n2_ n3_; clear hb hbox hg) | ((with_reducible refine gate_callee (f := 34) rfl ?_); refine goesL_ (some 8) rfl rfl Tryd.func34 (by kernel_rfl) rfl #[.slice A0 l0.length c0] rfl (by (try simp only [List.map_toArray, List.map_cons, List.map_nil]); first | done | rfl | (simp only [List.length_drop, List.length_take]; rfl)) ?_; (with_reducible refine (lot_right.calls k _ _ l0 true _ ?side1 ?side2 A2.out).mono ?_); (case side1 => repeat (first | exact (Kd.C_below HR0.out HB.out) | (with_reducible refine Kd.C_alloc ?_ _) | (with_reducible refine Kd.C_drewN ?_ _) | (with_reducible refine Kd.C_drew ?_))); (case side2 => exact HC0.out); rintro e w5 ⟨rfl, hb⟩; refine ⟨_, rfl, ?_⟩; have n0_ := Aside0.mk (blk_below (bG BK142.out) hb); have n1_ := Aside0.mk (below_step (eG HB.out) hb); clear BK142; clear HB; have BK142 := n0_; have HB := n1_; clear n0_ n1_; (try clear hb); (try clear hb2); (try clear hk); (try clear hi)) | ((with_reducible refine gate_dst (N := 4) rfl ?_); refine box_event ?hg (N := 4) ?hd (cs := #[.int .i64 0, .int .i64 0]) (t := 26) ?hr ?_; (case hd => rfl); (case hg => rfl); (case hr => first | (go_simp; done) | (go_simp; rfl)); intro gb144 hg w6 hbox hb; have n0_ := Aside0.mk (blk_below (bG BK142.out) hb); have n1_ := Aside0.mk (below_step (eG HB.out) hb); have n2_ := Aside0.mk (hbox); have n3_ := Aside0.mk ((by rw [hg]; exact (below_size (eG HB.out)) : w.heap.size ≤ gb144)); have n4_ := Aside0.mk ((by rw [hg]; exact (below_size (eG HB.out)) : w.heap.size ≤ gb144)); have n5_ := Aside0.mk ((by rw [hg]; exact Nat.ne_of_lt (blk_lt (bG BK142.out)) : gb142 ≠ gb144)); have n6_ := Aside0.mk ((by rw [hg]; exact Nat.ne_of_gt (blk_lt (bG BK142.out)) : gb144 ≠ gb142)); clear BK142; clear HB; have BK142 := n0_; have HB := n1_; have BK144 := n2_; have GW144 := n3_; have GE144 := n4_; have ig144_ := geI GE144; have NB142_144 := n5_; have NB144_142 := n6_; clear n0_ n1_ n2_ n3_ n4_ n5_ n6_; clear hb hbox hg; have hnb7 := NB144_142.out; have hnc7 := NB142_144.out; have hcz8_0 : w6.cell? ⟨gb144, 0, none⟩ = some (.int .i64 0) := (blk_cell BK144.out 0).trans rfl; have hcz8_1 : w6.cell? ⟨gb144, 1, none⟩ = some (.int .i64 0) := (blk_cell BK144.out 1).trans rfl; have hfz8_0 := blk_frozen BK144.out 0; have hfz8_1 := blk_frozen BK144.out 1))
  go_loopg [14] k (fun kq v14 w' => ∃ (x14_1 : Int) (x145000_1 : Int) (x145001_1 : Int), v14 = .int .i64 x14_1 ∧ Aside0 (lot_Total.l0 kq l0 (l0.length : Int) x14_1 x145000_1 x145001_1 = some (r1, r2, r3)) ∧ Aside0 (kq ≤ k) ∧ Aside0 (w'.heap[gb142]? = some (.cells #[.int .i64 0, .int .i64 0] 26 (0, 0))) ∧ Aside0 (w'.heap[gb144]? = some (.cells #[.int .i64 x145000_1, .int .i64 x145001_1] 26 (0, 0))) ∧ Aside0 (Below w.heap.size w w'))
  case atStart => exact ⟨(0), (0), (0), (by first | rfl | (simp; done) | (simp [*]; done)), H', ⟨Nat.le_refl _⟩, ⟨by (with_reducible repeat first | apply bN | apply bD | apply bA); refine blk_far ?_ NB142_144.out _; (with_reducible repeat first | apply bN | apply bD | apply bA); refine blk_far ?_ NB142_144.out _; (with_reducible repeat first | apply bN | apply bD | apply bA); exact BK142.out⟩, ⟨by (with_reducible repeat first | apply bN | apply bD | apply bA); refine blk_put (cs := #[.int .i64 0, .int .i64 0]) ?_ 1 _ rfl; (with_reducible repeat first | apply bN | apply bD | apply bA); refine blk_put (cs := #[.int .i64 0, .int .i64 0]) ?_ 0 _ rfl; (with_reducible repeat first | apply bN | apply bD | apply bA); exact BK144.out⟩, ⟨eG HB.out⟩⟩
  case round =>
   clear H'; repeat first | clear c1 | clear p2 | clear c3 | clear c7 | clear hcz8_0 | clear hcz8_1 | clear hfz8_0 | clear hfz8_1
   obtain ⟨x14_1, x145000_1, x145001_1, rfl, HA, HK1, BK142, BK144, HB⟩ := hrel
   cases gk with
   | zero => exact absurd HA.out (by simp [lot_Total.l0])
   | succ k1 =>
    have H := HA.out; clear HA; simp only [lot_Total.l0] at H; by_cases c9 : x14_1 < (l0.length : Int)
    ·
     rw [if_pos c9] at H; have c9b0 : decide (x14_1 < (l0.length : Int)) = true := decide_eq_true c9; clear c9; by_cases c10 : 0 ≤ x14_1
     ·
      rw [if_pos c10] at H; have c10b0 : decide (0 ≤ x14_1) = true := decide_eq_true c10; clear c10; by_cases c11 : x14_1 < (l0.length : Int)
      ·
       rw [if_pos c11] at H; have c11b0 : decide (x14_1 < (l0.length : Int)) = true := decide_eq_true c11; clear c11; have H' := Aside0.mk H; clear H; have p145 : 0 ≤ (x14_1 : Int) := of_decide_eq_true (by first | (with_reducible assumption) | assumption); have q145 : x14_1 < (l0.length : Int) := of_decide_eq_true (by first | (with_reducible assumption) | assumption); obtain ⟨ad145, A145_3, c145_3, e145, hx145_0, hx145_1, hx145_2, hx145_3, hl145_3, hi145_3⟩ := at_T33 HR0.out x14_1 p145 q145; cases e145; replace hx145_0 := (HB.out.cell (World.block_lt_of_cell? w _ hx145_0)).trans hx145_0; replace hx145_1 := (HB.out.cell (World.block_lt_of_cell? w _ hx145_1)).trans hx145_1; replace hx145_2 := (HB.out.cell (World.block_lt_of_cell? w _ hx145_2)).trans hx145_2; replace hx145_3 := (HB.out.cell (World.block_lt_of_cell? w _ hx145_3)).trans hx145_3; have HR145_3 := Aside0.mk hi145_3; have HC145_3 := Aside0.mk hl145_3; clear hi145_3 hl145_3; replace p145 := eq_true p145; replace q145 := eq_true q145; try go_wp2_with (first | ((with_reducible refine gate_dst (N := 6) rfl ?_); refine box_event ?hg (N := 6) ?hd (cs := #[.int .i64 0, .int .i64 0, .int .i64 0, .slice none 0 0]) (t := 33) ?hr ?_; (case hd => rfl); (case hg => rfl); (case hr => first | (go_simp; done) | (go_simp; rfl)); intro gb146 hg w12 hbox hb; have n0_ := Aside0.mk (blk_below (bG BK142.out) hb); have n1_ := Aside0.mk (blk_below (bG BK144.out) hb); have n2_ := Aside0.mk (below_step (eG HB.out) hb); have n3_ := Aside0.mk (hbox); have n4_ := Aside0.mk ((by rw [hg]; exact (below_size (eG HB.out)) : w.heap.size ≤ gb146)); have n5_ := Aside0.mk ((by rw [hg]; exact (below_size (eG HB.out)) : w.heap.size ≤ gb146)); have n6_ := Aside0.mk ((by rw [hg]; exact Nat.ne_of_lt (blk_lt (bG BK142.out)) : gb142 ≠ gb146)); have n7_ := Aside0.mk ((by rw [hg]; exact Nat.ne_of_gt (blk_lt (bG BK142.out)) : gb146 ≠ gb142)); have n8_ := Aside0.mk ((by rw [hg]; exact Nat.ne_of_lt (blk_lt (bG BK144.out)) : gb144 ≠ gb146)); have n9_ := Aside0.mk ((by rw [hg]; exact Nat.ne_of_gt (blk_lt (bG BK144.out)) : gb146 ≠ gb144)); clear BK142; clear BK144; clear HB; have BK142 := n0_; have BK144 := n1_; have HB := n2_; have BK146 := n3_; have GW146 := n4_; have GE146 := n5_; have ig146_ := geI GE146; have NB142_146 := n6_; have NB146_142 := n7_; have NB144_146 := n8_; have NB146_144 := n9_; clear n0_ n1_ n2_ n3_ n4_ n5_ n6_ n7_ n8_ n9_; clear hb hbox hg; have hnb13 := NB146_142.out; have hnc13 := NB142_146.out; have hnb14 := NB146_144.out; have hnc14 := NB144_146.out; have hcz15_0 : w12.cell? ⟨gb146, 0, none⟩ = some (.int .i64 0) := (blk_cell BK146.out 0).trans rfl; have hcz15_1 : w12.cell? ⟨gb146, 1, none⟩ = some (.int .i64 0) := (blk_cell BK146.out 1).trans rfl; have hcz15_2 : w12.cell? ⟨gb146, 2, none⟩ = some (.int .i64 0) := (blk_cell BK146.out 2).trans rfl; have hcz15_3 : w12.cell? ⟨gb146, 3, none⟩ = some (.slice none 0 0) := (blk_cell BK146.out 3).trans rfl; have hfz15_0 := blk_frozen BK146.out 0; have hfz15_1 := blk_frozen BK146.out 1; have hfz15_2 := blk_frozen BK146.out 2; have hfz15_3 := blk_frozen BK146.out 3))
       have n0_ : Aside0 (((((w12.setCell ⟨gb146, 0, none⟩ (.int .i64 ((rd_T33 l0 x14_1).f0))).setCell ⟨gb146, 1, none⟩ (.int .i64 ((rd_T33 l0 x14_1).f1.f0))).setCell ⟨gb146, 2, none⟩ (.int .i64 ((rd_T33 l0 x14_1).f1.f1))).setCell ⟨gb146, 3, none⟩ (.slice A145_3 ((rd_T33 l0 x14_1).f2).length c145_3)).heap[gb142]? = some (.cells #[.int .i64 0, .int .i64 0] 26 (0, 0))) := ⟨by (with_reducible repeat first | apply bN | apply bD | apply bA); refine blk_far ?_ NB142_146.out _; (with_reducible repeat first | apply bN | apply bD | apply bA); refine blk_far ?_ NB142_146.out _; (with_reducible repeat first | apply bN | apply bD | apply bA); refine blk_far ?_ NB142_146.out _; (with_reducible repeat first | apply bN | apply bD | apply bA); refine blk_far ?_ NB142_146.out _; (with_reducible repeat first | apply bN | apply bD | apply bA); exact BK142.out⟩; have n1_ : Aside0 (((((w12.setCell ⟨gb146, 0, none⟩ (.int .i64 ((rd_T33 l0 x14_1).f0))).setCell ⟨gb146, 1, none⟩ (.int .i64 ((rd_T33 l0 x14_1).f1.f0))).setCell ⟨gb146, 2, none⟩ (.int .i64 ((rd_T33 l0 x14_1).f1.f1))).setCell ⟨gb146, 3, none⟩ (.slice A145_3 ((rd_T33 l0 x14_1).f2).length c145_3)).heap[gb144]? = some (.cells #[.int .i64 x145000_1, .int .i64 x145001_1] 26 (0, 0))) := ⟨by (with_reducible repeat first | apply bN | apply bD | apply bA); refine blk_far ?_ NB144_146.out _; (with_reducible repeat first | apply bN | apply bD | apply bA); refine blk_far ?_ NB144_146.out _; (with_reducible repeat first | apply bN | apply bD | apply bA); refine blk_far ?_ NB144_146.out _; (with_reducible repeat first | apply bN | apply bD | apply bA); refine blk_far ?_ NB144_146.out _; (with_reducible repeat first | apply bN | apply bD | apply bA); exact BK144.out⟩; have n2_ : Aside0 (((((w12.setCell ⟨gb146, 0, none⟩ (.int .i64 ((rd_T33 l0 x14_1).f0))).setCell ⟨gb146, 1, none⟩ (.int .i64 ((rd_T33 l0 x14_1).f1.f0))).setCell ⟨gb146, 2, none⟩ (.int .i64 ((rd_T33 l0 x14_1).f1.f1))).setCell ⟨gb146, 3, none⟩ (.slice A145_3 ((rd_T33 l0 x14_1).f2).length c145_3)).heap[gb146]? = some (.cells #[.int .i64 ((rd_T33 l0 x14_1).f0), .int .i64 ((rd_T33 l0 x14_1).f1.f0), .int .i64 ((rd_T33 l0 x14_1).f1.f1), .slice A145_3 ((rd_T33 l0 x14_1).f2).length c145_3] 33 (0, 0))) := ⟨by (with_reducible repeat first | apply bN | apply bD | apply bA); refine blk_put (cs := #[.int .i64 ((rd_T33 l0 x14_1).f0), .int .i64 ((rd_T33 l0 x14_1).f1.f0), .int .i64 ((rd_T33 l0 x14_1).f1.f1), .slice none 0 0]) ?_ 3 _ rfl; (with_reducible repeat first | apply bN | apply bD | apply bA); refine blk_put (cs := #[.int .i64 ((rd_T33 l0 x14_1).f0), .int .i64 ((rd_T33 l0 x14_1).f1.f0), .int .i64 0, .slice none 0 0]) ?_ 2 _ rfl; (with_reducible repeat first | apply bN | apply bD | apply bA); refine blk_put (cs := #[.int .i64 ((rd_T33 l0 x14_1).f0), .int .i64 0, .int .i64 0, .slice none 0 0]) ?_ 1 _ rfl; (with_reducible repeat first | apply bN | apply bD | apply bA); refine blk_put (cs := #[.int .i64 0, .int .i64 0, .int .i64 0, .slice none 0 0]) ?_ 0 _ rfl; (with_reducible repeat first | apply bN | apply bD | apply bA); exact BK146.out⟩; have n3_ : Aside0 (Below w.heap.size w ((((w12.setCell ⟨gb146, 0, none⟩ (.int .i64 ((rd_T33 l0 x14_1).f0))).setCell ⟨gb146, 1, none⟩ (.int .i64 ((rd_T33 l0 x14_1).f1.f0))).setCell ⟨gb146, 2, none⟩ (.int .i64 ((rd_T33 l0 x14_1).f1.f1))).setCell ⟨gb146, 3, none⟩ (.slice A145_3 ((rd_T33 l0 x14_1).f2).length c145_3))) := ⟨eG HB.out⟩; (try clear BK142)
       (try clear BK144)
       (try clear BK146)
       (try clear HB)
       generalize ((((w12.setCell ⟨gb146, 0, none⟩ (.int .i64 ((rd_T33 l0 x14_1).f0))).setCell ⟨gb146, 1, none⟩ (.int .i64 ((rd_T33 l0 x14_1).f1.f0))).setCell ⟨gb146, 2, none⟩ (.int .i64 ((rd_T33 l0 x14_1).f1.f1))).setCell ⟨gb146, 3, none⟩ (.slice A145_3 ((rd_T33 l0 x14_1).f2).length c145_3)) = w16 at n0_ n1_ n2_ n3_ ⊢; have BK142 := n0_; have BK144 := n1_; have BK146 := n2_; have HB := n3_; clear n0_ n1_ n2_ n3_; have n0_ := Aside0.mk (blk_drew BK142.out); have n1_ := Aside0.mk (blk_drew BK144.out); have n2_ := Aside0.mk (blk_drew BK146.out); have n3_ := Aside0.mk (below_drew1 HB.out); clear BK142; clear BK144; clear BK146; clear HB; have BK142 := n0_; have BK144 := n1_; have BK146 := n2_; have HB := n3_; clear n0_ n1_ n2_ n3_; refine start_ (n := 16) (S := fun w' => w'.cell? ⟨gb144, 1, none⟩ = some (.int .i64 x145001_1) ∧ w'.cell? ⟨gb146, 0, none⟩ = some (.int .i64 ((rd_T33 l0 x14_1).f0)) ∧ w'.cell? ⟨gb146, 1, none⟩ = some (.int .i64 ((rd_T33 l0 x14_1).f1.f0)) ∧ w'.cell? ⟨gb146, 2, none⟩ = some (.int .i64 ((rd_T33 l0 x14_1).f1.f1)) ∧ w'.cell? ⟨gb146, 3, none⟩ = some (.slice A145_3 ((rd_T33 l0 x14_1).f2).length c145_3)) (ds := [15]) #[false, false, false, false, false, false, false, false, false, false, false, false, false, false, false, false] (by kernel_rfl) rfl rfl ⟨(blk_cell BK144.out 1).trans rfl, (blk_cell BK146.out 0).trans rfl, (blk_cell BK146.out 1).trans rfl, (blk_cell BK146.out 2).trans rfl, (blk_cell BK146.out 3).trans rfl⟩ (fun hHeld => ?_); refine with_tabW lot_Total.tab7 lot_Total.bits7 (fun HT_ HW_ => ?_)
       generalize w16.drew = w17 at BK142 BK144 BK146 HB hHeld ⊢; refine pure_ (i := 0) (N := some 18) (v := ?_) (a' := ?_) #[true, false, false, false, false, false, false, false, false, false, false, false, false, false, false, false] rfl rfl (any_of HT_.out (by kernel_rfl)) (fun _ _ _ h => h) (Or.inl ⟨by rfl, ?_⟩) ?_ ?_; rotate_left
       · intro w'; go_simp; with_reducible rfl
       rotate_left
       · simp only [Act.put, sIA, sC0, sCS, i64_w, i32_w]; rfl
       refine pure_ (i := 2) (N := some 20) (v := ?_) (a' := ?_) #[true, false, true, false, false, false, false, false, false, false, false, false, false, false, false, false] rfl rfl (any_of HT_.out (by kernel_rfl)) (fun _ _ _ h => h) (Or.inl ⟨by rfl, ?_⟩) ?_ ?_; rotate_left
       · intro w'; go_simp; with_reducible rfl
       rotate_left
       · simp only [Act.put, sIA, sC0, sCS, i64_w, i32_w]; rfl
       refine pure_ (i := 3) (N := some 21) (v := ?_) (a' := ?_) #[true, false, true, true, false, false, false, false, false, false, false, false, false, false, false, false] rfl rfl (any_of HT_.out (by kernel_rfl)) (fun _ _ _ h => h) (Or.inl ⟨by rfl, ?_⟩) ?_ ?_; rotate_left
       · intro w'; go_simp; with_reducible rfl
       rotate_left
       · simp only [Act.put, sIA, sC0, sCS, i64_w, i32_w]; rfl
       refine pure_ (i := 6) (N := some 24) (v := ?_) (a' := ?_) #[true, false, true, true, false, false, true, false, false, false, false, false, false, false, false, false] rfl rfl (any_of HT_.out (by kernel_rfl)) (fun _ _ _ h => h) (Or.inl ⟨by rfl, ?_⟩) ?_ ?_; rotate_left
       · intro w'; go_simp; with_reducible rfl
       rotate_left
       · simp only [Act.put, sIA, sC0, sCS, i64_w, i32_w]; rfl
       refine pure_ (i := 8) (N := some 26) (v := ?_) (a' := ?_) #[true, false, true, true, false, false, true, false, true, false, false, false, false, false, false, false] rfl rfl (any_of HT_.out (by kernel_rfl)) (fun _ _ _ h => h) (Or.inl ⟨by rfl, ?_⟩) ?_ ?_; rotate_left
       · intro w'; go_simp; with_reducible rfl
       rotate_left
       · simp only [Act.put, sIA, sC0, sCS, i64_w, i32_w]; rfl
       refine pure_ (i := 9) (N := some 27) (v := ?_) (a' := ?_) #[true, false, true, true, false, false, true, false, true, true, false, false, false, false, false, false] rfl rfl (any_of HT_.out (by kernel_rfl)) (fun _ _ _ h => h) (Or.inl ⟨by rfl, ?_⟩) ?_ ?_; rotate_left
       · intro w'; go_simp; with_reducible rfl
       rotate_left
       · simp only [Act.put, sIA, sC0, sCS, i64_w, i32_w]; rfl
       refine take_ (i := 4) (N := some 22) (v := ?_) (a' := ?_) #[true, false, true, true, true, false, true, false, true, true, false, false, false, false, false, false] rfl rfl (take_ofW HT_.out HW_.out (by kernel_rfl)) (fun _ _ _ h => h) (Or.inl ⟨by rfl, ?_⟩) hHeld ?_ ?_; rotate_left
       · rintro w' ⟨s0, s1, s2, s3, s4⟩; go_simp; with_reducible rfl
       rotate_left
       · simp only [Act.put, sIA, sC0, sCS, i64_w, i32_w]; rfl
       refine take_ (i := 7) (N := some 25) (v := ?_) (a' := ?_) #[true, false, true, true, true, false, true, true, true, true, false, false, false, false, false, false] rfl rfl (take_ofW HT_.out HW_.out (by kernel_rfl)) (fun _ _ _ h => h) (Or.inl ⟨by rfl, ?_⟩) hHeld ?_ ?_; rotate_left
       · rintro w' ⟨s0, s1, s2, s3, s4⟩; go_simp; with_reducible rfl
       rotate_left
       · simp only [Act.put, sIA, sC0, sCS, i64_w, i32_w]; rfl
       refine take_ (i := 10) (N := some 28) (v := ?_) (a' := ?_) #[true, false, true, true, true, false, true, true, true, true, true, false, false, false, false, false] rfl rfl (take_ofW HT_.out HW_.out (by kernel_rfl)) (fun _ _ _ h => h) (Or.inl ⟨by rfl, ?_⟩) hHeld ?_ ?_; rotate_left
       · rintro w' ⟨s0, s1, s2, s3, s4⟩; go_simp; with_reducible rfl
       rotate_left
       · simp only [Act.put, sIA, sC0, sCS, i64_w, i32_w]; rfl
       refine pure_ (i := 11) (N := some 29) (v := ?_) (a' := ?_) #[true, false, true, true, true, false, true, true, true, true, true, true, false, false, false, false] rfl rfl (any_of HT_.out (by kernel_rfl)) (fun _ _ _ h => h) (Or.inl ⟨by rfl, ?_⟩) ?_ ?_; rotate_left
       · intro w'; go_simp; with_reducible rfl
       rotate_left
       · simp only [Act.put, sIA, sC0, sCS, i64_w, i32_w]; rfl
       refine one_ (i := 1) (N := some 19) #[true, true, true, true, true, false, true, true, true, true, true, true, false, false, false, false] rfl rfl (one_of HT_.out (by kernel_rfl)) (by decide) (fun K hK => ?_); have hs1_ := (blk_cell BK144.out 0).trans rfl; refine value_ (w1 := ?_) (v := ?_) (by rfl) rfl ?_ ?_; rotate_left 2
       ·
        go_simp; constructor
        · rfl
        · rfl
       refine hK.out _ _ ⟨hHeld.1, hHeld.2.1, hHeld.2.2.1, hHeld.2.2.2.1, hHeld.2.2.2.2⟩ (fun hHeld => ?_); clear hK K; refine norm_ (a' := ?_) ?_ ?_; rotate_left
       ·
        show Act.put _ (some 19) _ = _
        simp only [Act.put, sIA, sC0, sCS, i64_w, i32_w]; rfl
       refine pure_ (i := 5) (N := some 23) (v := ?_) (a' := ?_) #[true, true, true, true, true, true, true, true, true, true, true, true, false, false, false, false] rfl rfl (any_of HT_.out (by kernel_rfl)) (fun _ _ _ h => h) (Or.inl ⟨by rfl, ?_⟩) ?_ ?_; rotate_left
       · intro w'; go_simp; with_reducible rfl
       rotate_left
       · simp only [Act.put, sIA, sC0, sCS, i64_w, i32_w]; rfl
       refine pure_ (i := 12) (N := some 30) (v := ?_) (a' := ?_) #[true, true, true, true, true, true, true, true, true, true, true, true, true, false, false, false] rfl rfl (any_of HT_.out (by kernel_rfl)) (fun _ _ _ h => h) (Or.inl ⟨by rfl, ?_⟩) ?_ ?_; rotate_left
       · intro w'; go_simp; with_reducible rfl
       rotate_left
       · simp only [Act.put, sIA, sC0, sCS, i64_w, i32_w]; rfl
       refine one_ (i := 13) (N := none) #[true, true, true, true, true, true, true, true, true, true, true, true, true, true, false, false] rfl rfl (one_of HT_.out (by kernel_rfl)) (by decide) (fun K hK => ?_); have hs18 : w17.cell? ⟨gb144, 0, none⟩ = some (.int .i64 x145000_1) := (blk_cell BK144.out 0).trans rfl; have hfs18 := blk_frozen BK144.out 0; have hns18_0 := NB142_144.out; have hns18_2 := NB146_144.out; have hms18_0 := NB144_142.out; have hms18_2 := NB144_146.out; refine skip_ (w1 := ?_) (by rfl) rfl ?_ ?_; rotate_left
       · go_simp; rfl
       refine hK.out _ _ ⟨((cell_off (by decide)).trans (hHeld.1)), ((cell_far (p := ⟨gb144, _, none⟩) NB146_144.out _).trans (hHeld.2.1)), ((cell_far (p := ⟨gb144, _, none⟩) NB146_144.out _).trans (hHeld.2.2.1)), ((cell_far (p := ⟨gb144, _, none⟩) NB146_144.out _).trans (hHeld.2.2.2.1)), ((cell_far (p := ⟨gb144, _, none⟩) NB146_144.out _).trans (hHeld.2.2.2.2))⟩ (fun hHeld => ?_); clear hK K; refine pure_ (i := 14) (N := some 31) (v := ?_) (a' := ?_) #[true, true, true, true, true, true, true, true, true, true, true, true, true, true, true, false] rfl rfl (any_of HT_.out (by kernel_rfl)) (fun _ _ _ h => h) (Or.inl ⟨by rfl, ?_⟩) ?_ ?_; rotate_left
       · intro w'; go_simp; with_reducible rfl
       rotate_left
       · simp only [Act.put, sIA, sC0, sCS, i64_w, i32_w]; rfl
       refine last_ (i := 15) (N := none) #[true, true, true, true, true, true, true, true, true, true, true, true, true, true, true, true] rfl rfl (one_of HT_.out (by kernel_rfl)) (by decide) (fun K hK => ?_); have hs19 : w17.cell? ⟨gb144, 1, none⟩ = some (.int .i64 x145001_1) := (blk_cell BK144.out 1).trans rfl; have hfs19 := blk_frozen BK144.out 1; have hns19_0 := NB142_144.out; have hns19_2 := NB146_144.out; have hms19_0 := NB144_142.out; have hms19_2 := NB144_146.out; refine skip_ (w1 := ?_) (by rfl) rfl ?_ ?_; rotate_left
       · go_simp; rfl
       refine hK.out _ _ ?_; clear hK K; refine done_ (done_of HT_.out (by kernel_rfl)) ?_; try go_wp2
       go_roundg k1
       case measure => have := HK1.out; omega
       case rel => exact ⟨(wrap64 (x14_1 + 1)), (wrap64 (x145000_1 + ((rd_T33 l0 x14_1).f1.f0))), (wrap64 (x145001_1 + ((rd_T33 l0 x14_1).f1.f1))), (by first | rfl | (simp; done) | (simp [*]; done)), H', ⟨by have := HK1.out; omega⟩, ⟨by (with_reducible repeat first | apply bN | apply bD | apply bA); refine blk_far ?_ NB142_144.out _; (with_reducible repeat first | apply bN | apply bD | apply bA); refine blk_far ?_ NB142_144.out _; (with_reducible repeat first | apply bN | apply bD | apply bA); exact BK142.out⟩, ⟨by (with_reducible repeat first | apply bN | apply bD | apply bA); refine blk_put (cs := #[.int .i64 (wrap64 (x145000_1 + ((rd_T33 l0 x14_1).f1.f0))), .int .i64 x145001_1]) ?_ 1 _ rfl; (with_reducible repeat first | apply bN | apply bD | apply bA); refine blk_put (cs := #[.int .i64 x145000_1, .int .i64 x145001_1]) ?_ 0 _ rfl; (with_reducible repeat first | apply bN | apply bD | apply bA); exact BK144.out⟩, ⟨eG HB.out⟩⟩
      · rw [if_neg c11] at H; exact absurd H (by simp)
     · rw [if_neg c10] at H; exact absurd H (by simp)
    ·
     rw [if_neg c9] at H; have c9b0 : decide (x14_1 < (l0.length : Int)) = false := decide_eq_false c9; clear c9; replace H := Option.bind_eq_some_iff.mp H; obtain ⟨t147, A200, H⟩ := H; replace H : (if t147 = true then (some (x145000_1, x145001_1, 0)) else (some (0, 0, 15))) = some (r1, r2, r3) := H; have A20 := Aside0.mk A200; clear A200; by_cases c21 : t147 = true
     ·
      subst c21; replace H : (some (x145000_1, x145001_1, 0)) = some (r1, r2, r3) := by rw [if_pos rfl] at H; exact H
      simp only [Option.some.injEq, Prod.mk.injEq] at H; obtain ⟨rfl, rfl, rfl⟩ := H; have hnb22 := NB144_142.out; have hnc22 := NB142_144.out; have hcz23_0 : wr.cell? ⟨gb144, 0, none⟩ = some (.int .i64 x145000_1) := (blk_cell BK144.out 0).trans rfl; have hcz23_1 : wr.cell? ⟨gb144, 1, none⟩ = some (.int .i64 x145001_1) := (blk_cell BK144.out 1).trans rfl; have hfz23_0 := blk_frozen BK144.out 0; have hfz23_1 := blk_frozen BK144.out 1; go_wp2_with (first | ((with_reducible refine gate_callee (f := 35) rfl ?_); refine goesL_ (some 34) rfl rfl Tryd.func35 (by kernel_rfl) rfl #[.agg #[.int .i64 x145000_1, .int .i64 x145001_1]] rfl (by (try simp only [List.map_toArray, List.map_cons, List.map_nil]); first | done | rfl | (simp only [List.length_drop, List.length_take]; rfl)) ?_; (with_reducible refine (lot_plain.calls k1 x145000_1 x145001_1 true _ A20.out).mono ?_); rintro e w24 ⟨rfl, hb⟩; refine ⟨_, rfl, ?_⟩; have n0_ := Aside0.mk (blk_below (bG BK142.out) hb); have n1_ := Aside0.mk (blk_below (bG BK144.out) hb); have n2_ := Aside0.mk (below_step (eG HB.out) hb); clear BK142; clear BK144; clear HB; have BK142 := n0_; have BK144 := n1_; have HB := n2_; clear n0_ n1_ n2_; (try clear hb); (try clear hb2); (try clear hk); (try clear hi); have hcz25_0 : w24.cell? ⟨gb144, 0, none⟩ = some (.int .i64 x145000_1) := (blk_cell BK144.out 0).trans rfl; have hcz25_1 : w24.cell? ⟨gb144, 1, none⟩ = some (.int .i64 x145001_1) := (blk_cell BK144.out 1).trans rfl; have hfz25_0 := blk_frozen BK144.out 0; have hfz25_1 := blk_frozen BK144.out 1; have hcz26_0 : w24.cell? ⟨gb142, 0, none⟩ = some (.int .i64 0) := (blk_cell BK142.out 0).trans rfl; have hcz26_1 : w24.cell? ⟨gb142, 1, none⟩ = some (.int .i64 0) := (blk_cell BK142.out 1).trans rfl; have hfz26_0 := blk_frozen BK142.out 0; have hfz26_1 := blk_frozen BK142.out 1))
      refine bodyPost_ret (results_ct rfl _ _ gb142 26 #[.int .i64 x145000_1, .int .i64 x145001_1] (0, 0) _ rfl (by (with_reducible repeat first | apply bN | apply bD | apply bA); refine blk_put (cs := #[.int .i64 x145000_1, .int .i64 0]) ?_ 1 _ rfl; (with_reducible repeat first | apply bN | apply bD | apply bA); refine blk_put (cs := #[.int .i64 0, .int .i64 0]) ?_ 0 _ rfl; (with_reducible repeat first | apply bN | apply bD | apply bA); exact BK142.out) Tryd.underlying26 rfl (by kernel_rfl)) rfl ?_; exact ⟨by first | rfl | (simp [errW_none, errW_some] <;> rfl) | (simp [*, errW_none, errW_some] <;> rfl), eG HB.out⟩
     ·
      replace c21 := Bool.eq_false_iff.mpr c21; subst c21; replace H : (some (0, 0, 15)) = some (r1, r2, r3) := by rw [if_neg (show ¬ (false = true) by decide)] at H; exact H
      simp only [Option.some.injEq, Prod.mk.injEq] at H; obtain ⟨rfl, rfl, rfl⟩ := H; have hnb27 := NB144_142.out; have hnc27 := NB142_144.out; have hcz28_0 : wr.cell? ⟨gb144, 0, none⟩ = some (.int .i64 x145000_1) := (blk_cell BK144.out 0).trans rfl; have hcz28_1 : wr.cell? ⟨gb144, 1, none⟩ = some (.int .i64 x145001_1) := (blk_cell BK144.out 1).trans rfl; have hfz28_0 := blk_frozen BK144.out 0; have hfz28_1 := blk_frozen BK144.out 1; go_wp2_with (first | ((with_reducible refine gate_callee (f := 35) rfl ?_); refine goesL_ (some 34) rfl rfl Tryd.func35 (by kernel_rfl) rfl #[.agg #[.int .i64 x145000_1, .int .i64 x145001_1]] rfl (by (try simp only [List.map_toArray, List.map_cons, List.map_nil]); first | done | rfl | (simp only [List.length_drop, List.length_take]; rfl)) ?_; (with_reducible refine (lot_plain.calls k1 x145000_1 x145001_1 false _ A20.out).mono ?_); rintro e w29 ⟨rfl, hb⟩; refine ⟨_, rfl, ?_⟩; have n0_ := Aside0.mk (blk_below (bG BK142.out) hb); have n1_ := Aside0.mk (blk_below (bG BK144.out) hb); have n2_ := Aside0.mk (below_step (eG HB.out) hb); clear BK142; clear BK144; clear HB; have BK142 := n0_; have BK144 := n1_; have HB := n2_; clear n0_ n1_ n2_; (try clear hb); (try clear hb2); (try clear hk); (try clear hi); have hcz30_0 : w29.cell? ⟨gb142, 0, none⟩ = some (.int .i64 0) := (blk_cell BK142.out 0).trans rfl; have hcz30_1 : w29.cell? ⟨gb142, 1, none⟩ = some (.int .i64 0) := (blk_cell BK142.out 1).trans rfl; have hfz30_0 := blk_frozen BK142.out 0; have hfz30_1 := blk_frozen BK142.out 1))
      refine bodyPost_ret (results_ct rfl _ _ gb142 26 #[.int .i64 0, .int .i64 0] (0, 0) _ rfl (by (with_reducible repeat first | apply bN | apply bD | apply bA); refine blk_put (cs := #[.int .i64 0, .int .i64 0]) ?_ 1 _ rfl; (with_reducible repeat first | apply bN | apply bD | apply bA); refine blk_put (cs := #[.int .i64 0, .int .i64 0]) ?_ 0 _ rfl; (with_reducible repeat first | apply bN | apply bD | apply bA); exact BK142.out) Tryd.underlying26 rfl (by kernel_rfl)) rfl ?_; exact ⟨by first | rfl | (simp [errW_none, errW_some] <;> rfl) | (simp [*, errW_none, errW_some] <;> rfl), eG HB.out⟩
 ·
  replace c3 := Bool.eq_false_iff.mpr c3; subst c3; replace H : (some (0, 0, 1)) = some (r1, r2, r3) := by rw [if_neg (show ¬ (false = true) by decide)] at H; exact H
  simp only [Option.some.injEq, Prod.mk.injEq] at H; obtain ⟨rfl, rfl, rfl⟩ := H; go_enter Tryd.func12, Tryd.ntmps12
  go_wp2_with (first | ((with_reducible refine gate_dst (N := 2) rfl ?_); refine box_event ?hg (N := 2) ?hd (cs := #[.int .i64 0, .int .i64 0]) (t := 26) ?hr ?_; (case hd => rfl); (case hg => rfl); (case hr => first | (go_simp; done) | (go_simp; rfl)); intro gb142 hg w31 hbox hb; have n0_ := Aside0.mk (below_step (eG HB.out) hb); have n1_ := Aside0.mk (hbox); have n2_ := Aside0.mk ((by rw [hg]; exact (below_size (eG HB.out)) : w.heap.size ≤ gb142)); have n3_ := Aside0.mk ((by rw [hg]; exact (below_size (eG HB.out)) : w.heap.size ≤ gb142)); clear HB; have HB := n0_; have BK142 := n1_; have GW142 := n2_; have GE142 := n3_; have ig142_ := geI GE142; clear n0_ n1_ n2_ n3_; clear hb hbox hg) | ((with_reducible refine gate_callee (f := 34) rfl ?_); refine goesL_ (some 8) rfl rfl Tryd.func34 (by kernel_rfl) rfl #[.slice A0 l0.length c0] rfl (by (try simp only [List.map_toArray, List.map_cons, List.map_nil]); first | done | rfl | (simp only [List.length_drop, List.length_take]; rfl)) ?_; (with_reducible refine (lot_right.calls k _ _ l0 false _ ?side1 ?side2 A2.out).mono ?_); (case side1 => repeat (first | exact (Kd.C_below HR0.out HB.out) | (with_reducible refine Kd.C_alloc ?_ _) | (with_reducible refine Kd.C_drewN ?_ _) | (with_reducible refine Kd.C_drew ?_))); (case side2 => exact HC0.out); rintro e w32 ⟨rfl, hb⟩; refine ⟨_, rfl, ?_⟩; have n0_ := Aside0.mk (blk_below (bG BK142.out) hb); have n1_ := Aside0.mk (below_step (eG HB.out) hb); clear BK142; clear HB; have BK142 := n0_; have HB := n1_; clear n0_ n1_; (try clear hb); (try clear hb2); (try clear hk); (try clear hi); have hcz33_0 : w32.cell? ⟨gb142, 0, none⟩ = some (.int .i64 0) := (blk_cell BK142.out 0).trans rfl; have hcz33_1 : w32.cell? ⟨gb142, 1, none⟩ = some (.int .i64 0) := (blk_cell BK142.out 1).trans rfl; have hfz33_0 := blk_frozen BK142.out 0; have hfz33_1 := blk_frozen BK142.out 1))
  refine bodyPost_ret (results_ct rfl _ _ gb142 26 #[.int .i64 0, .int .i64 0] (0, 0) _ rfl (by (with_reducible repeat first | apply bN | apply bD | apply bA); refine blk_put (cs := #[.int .i64 0, .int .i64 0]) ?_ 1 _ rfl; (with_reducible repeat first | apply bN | apply bD | apply bA); refine blk_put (cs := #[.int .i64 0, .int .i64 0]) ?_ 0 _ rfl; (with_reducible repeat first | apply bN | apply bD | apply bA); exact BK142.out) Tryd.underlying26 rfl (by kernel_rfl)) rfl ?_; exact ⟨by first | rfl | (simp [errW_none, errW_some] <;> rfl) | (simp [*, errW_none, errW_some] <;> rfl), eG HB.out⟩
end Go.Proofs.YtgjoenoknknoiaaDoor.Pr
namespace Go.Proofs.YtgjoenoknknoiaaDoor.X
open Go Go.Maps Go.WideMaps
/-- A bool element. -/
def boolE (v : Value) : Option (DataW Unit × List MemPlace) := match v with
  | .bool b => some (.lit (.bool b), [])
  | _ => none
theorem boolE_inv {v : Value} {y : DataW Unit × List MemPlace} (h : boolE v = some y) : ∃ b : Bool, v = .bool b := by
  unfold boolE at h
  split at h
  · exact ⟨_, rfl⟩
  · cases h
end Go.Proofs.YtgjoenoknknoiaaDoor.X
namespace Go.Proofs.YtgjoenoknknoiaaDoor.X
open Go Go.Maps Go.WideMaps
/-- What a map holds: the keys of a list. -/
def IsSet (D : DataW Unit) (s : List Int) : Prop := IsMap D ∧ ∀ f : Int, Maps.has D (.int .i64 f) = decide (f ∈ s)
theorem isSet_nil : IsSet (.map [] : DataW Unit) [] := ⟨isMap_empty, fun f => rfl⟩
theorem IsSet.put {D : DataW Unit} {s : List Int} (h : IsSet D s) (f : Int) (d : DataW Unit) : IsSet (D.put (.int .i64 f) d) (f :: s) := by
  refine ⟨h.1.put _ _, fun g => ?_⟩
  by_cases c : g = f
  · subst c
    rw [has_put_same h.1 (show WideAt.IsKeyLit (.int .i64 g) from trivial)]
    exact (decide_eq_true (by simp)).symm
  · rw [has_put_other (fun e => c (by injection e)), h.2 g]
    exact decide_eq_decide.2 ⟨fun q => by simp [q], fun q => by
      rcases List.mem_cons.1 q with q | q
      · exact absurd q c
      · exact q⟩
section
variable {P : Program} (w : World) {ops : Array Oper} {rest : List Oper} {o : Oper} {a : Act} {Q : Exit → Act → World → Prop}
/-- 'm[f] = true'. -/
theorem wpList_store_set (hg : o.guard = none) (m x v : Operand) (t : TypeId) (hop : o.op = Op.mapUpdate t m x v) (k e : TypeId) (hk : P.underlying k = some (.int .i64)) (ht : P.underlying t = some (.map k e)) (b n : Nat) (D : DataW Unit) (s : List Int)
    (hm : a.eval m = .map (some b)) (hown : w.ownsMap P k boolE b n D) (hs : IsSet D s) (hn : n < maxLen) (f : Int) (hf : (Lit.int .i64 f).wf = true) (c : Bool) (hx : a.eval x = .int .i64 f) (hv : a.eval v = .bool c)
    (hK : ∀ w' D', w'.ownsMap P k boolE b (n + 1) D' → IsSet D' (f :: s) → w.grownBy w' (some b) → wpList P ops Q rest (a.put o.dst undef) w') :
    wpList P ops Q (o :: rest) a w :=
  wpList_mapUpdate_own w hg m x v t hop k e (int_keyed hk) ht boolE b n D hm hown hn (.int .i64 f) (.bool c) (.int .i64 f) hx hv (keyOf_int_mk hk hf) (.lit (.bool c)) [] rfl
    (fun w' h1 h2 => hK w' _ h1 (hs.put f _) h2)
/-- The step of a range: nothing is left, or a key that was left. -/
theorem wpList_next_set (hg : o.guard = none) (it : Operand) (hop : o.op = Op.next it false) (k : TypeId) (hk : P.underlying k = some (.int .i64)) (b r n : Nat) (D : DataW Unit) (left : Lit → Bool) (cnt : Nat)
    (hit : a.eval it = .pointer (some ⟨r, 0, none⟩)) (h : w.ranges P k boolE b r n D left cnt)
    (hDone : cnt = 0 → (∀ kl, left kl = false) → wpList P ops Q rest (a.put o.dst (.tuple #[.bool false])) w)
    (hMore : ∀ (x : Int) (c : Bool) (w' : World) (cnt' : Nat), (Lit.int .i64 x).wf = true → left (.int .i64 x) = true → w'.ranges P k boolE b r n D (fun z => left z && !z.sameKey (.int .i64 x)) cnt' → cnt' < cnt →
      w.grownBy w' (some r) → w'.heap.size = w.heap.size → (Instr.entry (.pointer (some ⟨r, 0, none⟩))).run P w' = .ok (.tuple #[.int .i64 x, .bool c]) w' → wpList P ops Q rest (a.put o.dst (.tuple #[.bool true, .int .i64 x, .bool c])) w') :
    wpList P ops Q (o :: rest) a w :=
  wpList_next_ranges w hg it hop k (int_keyed hk) boolE (fun x : Int => .int .i64 x) (fun c : Bool => .bool c) (fun key kl h => by
      obtain ⟨x, rfl, _, _⟩ := Maps.keyOf_int_inv hk h
      exact ⟨x, rfl⟩) (fun v y h => boolE_inv h) b r n D left cnt hit h hDone
    (fun x c kl y w' cnt' hkey hl _ _ hr hlt hg2 hsz hen => by
      obtain ⟨x', e, rfl, hw⟩ := Maps.keyOf_int_inv hk hkey
      injection e with _ e
      subst e
      exact hMore x c w' cnt' hw hl hr hlt hg2 hsz hen)
end
end Go.Proofs.YtgjoenoknknoiaaDoor.X
namespace Go.Proofs.YtgjoenoknknoiaaDoor.PL
open Go Go.RowKit Go.Proofs.YtgjoenoknknoiaaDoorW.PrintWords Go.Proofs.YtgjoenoknknoiaaDoorW.PrintLast Go.Proofs.YtgjoenoknknoiaaDoorW.PrintMore
theorem evp {α : Type} {c : Prop} [Decidable c] {g h : Nat → Option α} {r : α} (hc : c) (k : Ev g r) : Ev (fun n => if c then g n else h n) r :=
  Ev.congr (fun n => if_pos hc) k
theorem evn {α : Type} {c : Prop} [Decidable c] {g h : Nat → Option α} {r : α} (hc : ¬ c) (k : Ev h r) : Ev (fun n => if c then g n else h n) r :=
  Ev.congr (fun n => if_neg hc) k
theorem evb {α β : Type} {g : Nat → Option α} {f : Nat → α → Option β} {a : α} {r : β} (h : Ev g a) (k : Ev (fun n => f n a) r) : Ev (fun n => (g n).bind (f n)) r := Ev.bind h k
theorem evr {α : Type} {a r : α} (h : a = r) : Ev (fun _ => some a) r := by subst h; exact Ev.now _
theorem evc {α : Type} {g : Nat → Option α} {r : α} {o : Option α} (hg : ∀ n, g n = o) (h : o = some r) : Ev g r := by
  subst h
  exact Ev.congr hg (Ev.now _)
theorem ev_unique {α : Type} {g : Nat → Option α} {a b : α} (h : Ev g a) (h2 : Ev g b) : a = b := by
  obtain ⟨K, h⟩ := h
  obtain ⟨K2, h2⟩ := h2
  have e1 := h (K + K2) (by omega)
  have e2 := h2 (K + K2) (by omega)
  rw [e1] at e2
  exact Option.some.inj e2
/-- A loop that counts upwards to n. -/
theorem count_up (a n : Int) (P : Int → Prop) (hend : P n) (hround : ∀ i, a ≤ i → i < n → P (i + 1) → P i) : ∀ i, a ≤ i → i ≤ n → P i := by
  intro i h0 h1
  obtain ⟨d, hd⟩ : ∃ d : Nat, n - i = d := ⟨(n - i).toNat, by omega⟩
  induction d generalizing i with
  | zero =>
    obtain rfl : i = n := by omega
    exact hend
  | succ d ih => exact hround i h0 (by omega) (ih (i + 1) (by omega) (by omega) (by omega))
theorem w64 {x : Int} (h0 : -9223372036854775808 ≤ x) (h1 : x ≤ 9223372036854775807) : wrap64 x = x := by
  unfold wrap64
  omega
theorem w64_succ {i n : Int} (h0 : 0 ≤ i) (h : i < n) (hn : n ≤ 9223372036854775807) : wrap64 (i + 1) = i + 1 := w64 (by omega) (by omega)
theorem w64_pred {i n : Int} (h0 : 0 ≤ i) (h : i ≤ n) (hn : n ≤ 9223372036854775807) : wrap64 (i - 1) = i - 1 := w64 (by omega) (by omega)
theorem len_le {α : Type} {l : List α} (h : l.length ≤ maxLen) : (l.length : Int) ≤ 9223372036854775807 := by
  have : l.length ≤ 9223372036854775807 := by simpa [maxLen] using h
  omega
/-- A test that comes to true where P holds, and else to false. -/
def EvB (g : Nat → Option Bool) (P : Prop) : Prop := (P → Ev g true) ∧ (¬ P → Ev g false)
theorem EvB.map {g : Nat → Option Bool} {f : Nat → Bool → Option Bool} {P Q : Prop} (h : EvB g P) (ht : P → EvB (fun n => f n true) Q) (hf : ¬ P → EvB (fun n => f n false) Q) : EvB (fun n => (g n).bind (f n)) Q := by
  by_cases hp : P
  · exact ⟨fun q => Ev.bind (h.1 hp) ((ht hp).1 q), fun q => Ev.bind (h.1 hp) ((ht hp).2 q)⟩
  · exact ⟨fun q => Ev.bind (h.2 hp) ((hf hp).1 q), fun q => Ev.bind (h.2 hp) ((hf hp).2 q)⟩
end Go.Proofs.YtgjoenoknknoiaaDoor.PL
namespace Go.Proofs.YtgjoenoknknoiaaDoor.PL
def ofS : List (Int × Int) → Int → Int
  | [], _ => 0
  | x :: r, f => (if x.1 = f then x.2 else 0) + ofS r f
def totS : List (Int × Int) → Int
  | [] => 0
  | x :: r => x.2 + totS r
def sumOn (g : Int → Int) : List Int → Int
  | [] => 0
  | f :: r => g f + sumOn g r
theorem sumOn_add (g h : Int → Int) : ∀ l, sumOn (fun f => g f + h f) l = sumOn g l + sumOn h l
  | [] => rfl
  | f :: r => by simp only [sumOn, sumOn_add g h r]; omega
theorem sumOn_zero : ∀ l, sumOn (fun _ => 0) l = 0
  | [] => rfl
  | f :: r => by simp only [sumOn, sumOn_zero r]; omega
theorem sumOn_miss (k v : Int) : ∀ l, k ∉ l → sumOn (fun f => if k = f then v else 0) l = 0
  | [], _ => rfl
  | f :: r, h => by
    have h1 : ¬ k = f := fun e => h (by simp [e])
    simp only [sumOn, sumOn_miss k v r (fun e => h (by simp [e]))]
    rw [if_neg h1]; rfl
theorem sumOn_one (k v : Int) : ∀ l, l.Nodup → k ∈ l → sumOn (fun f => if k = f then v else 0) l = v
  | [], _, h => absurd h (by simp)
  | f :: r, hn, h => by
    obtain ⟨h1, h2⟩ := List.nodup_cons.1 hn
    simp only [sumOn]
    by_cases c : k = f
    · subst c
      rw [if_pos rfl, sumOn_miss k v r h1]; omega
    · rw [if_neg c, sumOn_one k v r h2 (by simpa [c] using h)]; omega
theorem sumOn_ofS : ∀ (S : List (Int × Int)) (l : List Int), l.Nodup → (∀ x, x ∈ S → x.1 ∈ l) → sumOn (ofS S) l = totS S
  | [], l, _, _ => by
    have : ofS [] = fun _ => 0 := rfl
    rw [this, sumOn_zero]; rfl
  | x :: r, l, hn, h => by
    have e : ofS (x :: r) = fun f => (if x.1 = f then x.2 else 0) + ofS r f := rfl
    rw [e, sumOn_add, sumOn_one x.1 x.2 l hn (h x (by simp)), sumOn_ofS r l hn (fun y hy => h y (by simp [hy]))]
    rfl
theorem ofS_nonneg : ∀ (S : List (Int × Int)) (f : Int), (∀ x, x ∈ S → 0 ≤ x.2) → 0 ≤ ofS S f
  | [], _, _ => Int.le_refl _
  | x :: r, f, h => by
    have ih := ofS_nonneg r f (fun y hy => h y (by simp [hy]))
    have := h x (by simp)
    simp only [ofS]
    split <;> omega
theorem ofS_pos : ∀ (S : List (Int × Int)) (f : Int), (∀ x, x ∈ S → 1 ≤ x.2) → (∃ x, x ∈ S ∧ x.1 = f) → 1 ≤ ofS S f
  | [], _, _, h => by obtain ⟨x, h, _⟩ := h; simp at h
  | x :: r, f, h, ⟨y, hy, e⟩ => by
    have h0 := ofS_nonneg r f (fun z hz => by have := h z (by simp [hz]); omega)
    have h1 := h x (by simp)
    simp only [ofS]
    by_cases c : x.1 = f
    · rw [if_pos c]; omega
    · have hy2 : y ∈ r := by
        rcases List.mem_cons.1 hy with rfl | hy
        · exact absurd e c
        · exact hy
      have := ofS_pos r f (fun z hz => h z (by simp [hz])) ⟨y, hy2, e⟩
      rw [if_neg c]; omega
theorem ofS_append (f : Int) : ∀ (S T : List (Int × Int)), ofS (S ++ T) f = ofS S f + ofS T f
  | [], T => by simp [ofS]
  | x :: r, T => by simp only [List.cons_append, ofS, ofS_append f r T]; omega
theorem totS_append : ∀ (S T : List (Int × Int)), totS (S ++ T) = totS S + totS T
  | [], T => by simp [totS]
  | x :: r, T => by simp only [List.cons_append, totS, totS_append r T]; omega
end Go.Proofs.YtgjoenoknknoiaaDoor.PL
namespace Go.Proofs.YtgjoenoknknoiaaDoor.X
theorem sums_big : (100000 : Nat) ≤ Go.maxLen := by decide
end Go.Proofs.YtgjoenoknknoiaaDoor.X
namespace Go.Proofs.YtgjoenoknknoiaaDoor.Pr
open Go.RowKit Go.Proofs.YtgjoenoknknoiaaDoorW.PrintWords Go.Proofs.YtgjoenoknknoiaaDoorW.PrintLast Go.Proofs.YtgjoenoknknoiaaDoorW.PrintMore Go.Proofs.YtgjoenoknknoiaaDoor.X
attribute [local go_sem] max2_int min2_int max_two min_two max_three min_three max_four min_four   -- for this text's walks alone
set_option linter.unusedVariables false
set_option linter.unusedSimpArgs false
section
open Go Go.Maps Go.WideMaps
def pairsS (x : S33) : List (Int × Int) := x.f2.map fun s => (s.f0, s.f1)
def pairsL (l : List S33) : List (Int × Int) := l.flatMap pairsS
def mTo (l : List S33) : Nat → Int
 | 0 => 0
 | i + 1 => wrap64 (mTo l i + (rd_T33 l (i : Int)).f1.f1)
def sumsOk (k : Nat) (l : List S33) (a m : Int) : Prop := l.length ≤ 37 ∧ (∀ x, x ∈ l → x.f2.length ≤ 37) ∧ (∀ p, p ∈ pairsL l → (Lit.int .i64 p.1).wf = true ∧ lot_Of.f k l p.1 = some (PL.ofS (pairsL l) p.1, 0) ∧ 1 ≤ PL.ofS (pairsL l) p.1) ∧ PL.totS (pairsL l) = a ∧ mTo l l.length = m ∧ wrap64 a = a
instance (k : Nat) (l : List S33) (a m : Int) : Decidable (sumsOk k l a m) := by unfold sumsOk; infer_instance
def spilelaw22_LotSums.f (k : Nat) (l0 : List (S33)) : Option Bool := (spilelaw22_awake.f).bind fun b => if b = true then ((spileref22_Few.f k l0).bind fun c => if c = true then ((lot_Total.f k l0).bind fun t => if t.2.2 = 0 then (if sumsOk k l0 t.1 t.2.1 then some true else none) else (if t.1 = 0 ∧ t.2.1 = 0 then some true else none)) else some true) else none
theorem wrap_add (a b : Int) : wrap64 (wrap64 a + b) = wrap64 (a + b) := by unfold wrap64; omega
theorem key_eq (f x : Int) : (Lit.int .i64 f).sameKey (.int .i64 x) = decide (f = x) := by
 show decide (IntKind.i64 = IntKind.i64 ∧ f = x) = decide (f = x)
 exact decide_eq_decide.2 ⟨fun h => h.2, fun h => ⟨rfl, h⟩⟩
theorem pairs_next (l : List S33) (i : Nat) (h : i < l.length) : ∀ p : Int × Int, p ∈ pairsL (l.take (i + 1)) ↔ p ∈ pairsL (l.take i) ∨ p ∈ pairsS (rd_T33 l (i : Int)) := by
 intro p
 have e : rd_T33 l (i : Int) = l[i] := by
  unfold rd_T33
  rw [List.getD_eq_getElem?_getD, Int.toNat_natCast, List.getElem?_eq_getElem h]
  rfl
 rw [e, List.take_succ_eq_append_getElem h]
 unfold pairsL
 rw [List.flatMap_append, List.mem_append]
 simp
theorem share_next (x : S33) (j : Nat) (h : j < x.f2.length) : ∀ f : Int, (∃ p, p ∈ (pairsS x).take (j + 1) ∧ p.1 = f) ↔ (∃ p, p ∈ (pairsS x).take j ∧ p.1 = f) ∨ f = (rd_T35 x.f2 (j : Int)).f0 := by
 intro f
 have hl : j < (pairsS x).length := by unfold pairsS; rw [List.length_map]; exact h
 have e : (rd_T35 x.f2 (j : Int)).f0 = (pairsS x)[j].1 := by
  unfold rd_T35
  rw [List.getD_eq_getElem?_getD, Int.toNat_natCast, List.getElem?_eq_getElem h]
  simp [pairsS]
 rw [e, List.take_succ_eq_append_getElem hl]
 constructor
 ·
  rintro ⟨p, hp, rfl⟩
  rcases List.mem_append.1 hp with hp | hp
  ·
   exact Or.inl ⟨p, hp, rfl⟩
  ·
   rw [List.mem_singleton.1 hp]; exact Or.inr rfl
 ·
  rintro (⟨p, hp, rfl⟩ | rfl)
  ·
   exact ⟨p, List.mem_append_left _ hp, rfl⟩
  ·
   exact ⟨_, List.mem_append_right _ (List.mem_singleton.2 rfl), rfl⟩
theorem nat_next {j : Nat} (h : j < 4000000) : wrap64 ((j : Int) + 1) = ((j + 1 : Nat) : Int) := by unfold wrap64; omega
theorem meas_next {j n : Nat} (h : j < n) : n - (((j + 1 : Nat) : Int)).toNat < n - ((j : Nat) : Int).toNat := by omega
theorem sums_box {w w' : World} {g : Nat} {o : Obj} (h : w.heap[g]? = some o) (hb : Below w.heap.size w w') : w'.heap[g]? = some o :=
 (hb.block g (Array.getElem?_eq_some_iff.1 h).1).trans h
theorem sums_map {P : Program} {k : TypeId} {R : Value → Option (DataW Unit × List MemPlace)} {w w' : World} {b n : Nat} {D : DataW Unit} (h : w.ownsMap P k R b n D) (hb : Below w.heap.size w w') : w'.ownsMap P k R b n D :=
 h.kept (row := none) ⟨hb.os, hb.tape, hb.output, hb.size, fun k hk _ => hb.block k hk⟩ (by simp)
theorem sums_ranges {P : Program} {k : TypeId} {R : Value → Option (DataW Unit × List MemPlace)} {w w' : World} {b r n : Nat} {D : DataW Unit} {left : Lit → Bool} {cnt : Nat} (h : w.ranges P k R b r n D left cnt) (hb : Below w.heap.size w w') : w'.ranges P k R b r n D left cnt :=
 h.kept (row := none) ⟨hb.os, hb.tape, hb.output, hb.size, fun k hk _ => hb.block k hk⟩ (by simp) (by simp)
theorem wpList_next_setv {P : Program} (w : World) {ops : Array Oper} {rest : List Oper} {o : Oper} {a : Act} {Q : Exit → Act → World → Prop} (hg : o.guard = none) (it : Operand) (hop : o.op = Op.next it false) (k : TypeId) (hk : P.underlying k = some (.int .i64)) (b r n : Nat) (D : DataW Unit) (left : Lit → Bool) (cnt : Nat)
  (hit : a.eval it = .pointer (some ⟨r, 0, none⟩)) (h : w.ranges P k boolE b r n D left cnt)
  (hDone : cnt = 0 → (∀ kl, left kl = false) → wpList P ops Q rest (a.put o.dst (.tuple #[.bool false])) w)
  (hMore : ∀ (x : Int) (cv : Value) (w' : World) (cnt' : Nat), (Lit.int .i64 x).wf = true → left (.int .i64 x) = true → w'.ranges P k boolE b r n D (fun z => left z && !z.sameKey (.int .i64 x)) cnt' → cnt' < cnt →
   w.grownBy w' (some r) → w'.heap.size = w.heap.size → (Instr.entry (.pointer (some ⟨r, 0, none⟩))).run P w' = .ok (.tuple #[.int .i64 x, cv]) w' → wpList P ops Q rest (a.put o.dst (.tuple #[.bool true, .int .i64 x, cv])) w') :
  wpList P ops Q (o :: rest) a w :=
 wpList_next_set w hg it hop k hk b r n D left cnt hit h hDone (fun x c w' cnt' => hMore x (.bool c) w' cnt')
theorem sumOn_cons (g : Int → Int) (y : Int) (l : List Int) : PL.sumOn g (y :: l) = g y + PL.sumOn g l := rfl
set_option maxHeartbeats 8000000 in
set_option maxRecDepth 100000 in
theorem spilelaw22_LotSums.calls (k : Nat) (A0 : Option Addr) (c0 : Nat) (l0 : List (S33)) (r : Bool) (w : World) (hr0 : Kd.C k33 w A0 l0.length l0) (hc0 : l0.length ≤ c0) (hG : GI w) (h : spilelaw22_LotSums.f k l0 = some r) :
  Calls Tryd.prog 3 #[.slice A0 l0.length c0] w fun e w' => e = .returned (.bool r) ∧ Below w.heap.size w w' := by
 have hu26 := Tryd.underlying26; have hu33 := Tryd.underlying33; have hu35 := Tryd.underlying35; have HR0 := Aside0.mk hr0; have HC0 := Aside0.mk hc0; have HG := Aside0.mk hG; clear hr0 hc0 hG; unfold spilelaw22_LotSums.f at h; rw [show spilelaw22_awake.f = some true from rfl] at h; simp only [Option.bind_some, if_true] at h; obtain ⟨fw, hFew, h⟩ := Option.bind_eq_some_iff.mp h; by_cases cf : fw = true
 case neg =>
  rw [if_neg cf] at h; obtain rfl := Option.some.inj h; obtain rfl : fw = false := Bool.eq_false_iff.mpr cf; go_enter Tryd.func3, Tryd.ntmps3
  go_wp2_with (first
   | (go_at_call 10; refine (spilelaw22_awake.calls true _ HG.out rfl).mono ?_; rintro e w1 ⟨rfl, hb1⟩)
   | (go_at_call 11; refine (spileref22_Few.calls k _ _ l0 false _ (Kd.C_below HR0.out hb1) HC0.out hFew).mono ?_; rintro e w2 ⟨rfl, hd2⟩; have hb2 := hd2.below))
  go_ret
  exact ⟨rfl, below_step hb1 hb2⟩
 case pos =>
 subst cf; rw [if_pos rfl] at h; obtain ⟨⟨ta, tm, te⟩, hTot, h⟩ := Option.bind_eq_some_iff.mp h; dsimp only at h
 by_cases c0e : te = 0
 case neg =>
  rw [if_neg c0e] at h; by_cases cz : ta = 0 ∧ tm = 0
  case neg => rw [if_neg cz] at h; cases h
  rw [if_pos cz] at h; obtain rfl := Option.some.inj h; obtain ⟨rfl, rfl⟩ := cz; have ceb : (te != 0) = true := bne_iff_ne.mpr c0e; go_enter Tryd.func3, Tryd.ntmps3
  go_wp2_with (first
   | (go_at_call 10; refine (spilelaw22_awake.calls true _ HG.out rfl).mono ?_; rintro e w1 ⟨rfl, hb1⟩)
   | (go_at_call 11; refine (spileref22_Few.calls k _ _ l0 true _ (Kd.C_below HR0.out hb1) HC0.out hFew).mono ?_; rintro e w2 ⟨rfl, hd2⟩; have hb2 := below_step hb1 hd2.below)
   | (go_at_call 12; refine (lot_Total.calls k _ _ l0 0 0 te _ (Kd.C_below HR0.out hb2) HC0.out hTot).mono ?_; rintro e w3 ⟨rfl, hb3⟩)
   | ((with_reducible refine gate_dst (N := 3) rfl ?_); refine box_event ?hg (N := 3) ?hd (cs := #[.int .i64 0, .int .i64 0]) (t := 26) ?hr ?_; (case hd => rfl); (case hg => rfl); (case hr => first | (go_simp; done) | (go_simp; rfl)); intro gt hgt w4 hbox4 hb4; have HGT := Aside0.mk hgt; clear hgt; have hcz0 : w4.cell? ⟨gt, 0, none⟩ = some (.int .i64 0) := (blk_cell hbox4 0).trans rfl; have hcz1 : w4.cell? ⟨gt, 1, none⟩ = some (.int .i64 0) := (blk_cell hbox4 1).trans rfl; have hfz0 := blk_frozen hbox4 0; have hfz1 := blk_frozen hbox4 1))
  go_ret
  exact ⟨rfl, below_step (below_step hb2 hb3) ((hb4.setCell (p := ⟨gt, 0, none⟩) (Nat.le_of_eq HGT.out.symm) _).setCell (p := ⟨gt, 1, none⟩) (Nat.le_of_eq HGT.out.symm) _)⟩
 case pos =>
 subst c0e; rw [if_pos rfl] at h; by_cases hok : sumsOk k l0 ta tm
 case neg => rw [if_neg hok] at h; cases h
 rw [if_pos hok] at h; obtain rfl := Option.some.inj h; clear h; obtain ⟨h37, hs37, hOf, hTA, hTM, hWA⟩ := hok; have HOF := Aside0.mk hOf; have HTA := Aside0.mk hTA; have HTM := Aside0.mk hTM; have HWA := Aside0.mk hWA; have H37 := Aside0.mk h37; have HS37 := Aside0.mk hs37; clear hOf hTA hTM hWA h37 hs37; have hmm := @run_makeMap Tryd.prog; go_enter Tryd.func3, Tryd.ntmps3
 go_wp2_with (first
  | (go_at_call 10; refine (spilelaw22_awake.calls true _ HG.out rfl).mono ?_; rintro e w1 ⟨rfl, hb1⟩)
  | (go_at_call 11; refine (spileref22_Few.calls k _ _ l0 true _ (Kd.C_below HR0.out hb1) HC0.out hFew).mono ?_; rintro e w2 ⟨rfl, hd2⟩; have hb2 := below_step hb1 hd2.below)
  | (go_at_call 12; refine (lot_Total.calls k _ _ l0 ta tm 0 _ (Kd.C_below HR0.out hb2) HC0.out hTot).mono ?_; rintro e w3 ⟨rfl, hb3⟩)
  | ((with_reducible refine gate_dst (N := 3) rfl ?_); refine box_event ?hg (N := 3) ?hd (cs := #[.int .i64 0, .int .i64 0]) (t := 26) ?hr ?_; (case hd => rfl); (case hg => rfl); (case hr => first | (go_simp; done) | (go_simp; rfl)); intro gt hgt w4 hbox4 hb4; have HGT := Aside0.mk hgt; clear hgt; have hcz0 : w4.cell? ⟨gt, 0, none⟩ = some (.int .i64 0) := (blk_cell hbox4 0).trans rfl; have hcz1 : w4.cell? ⟨gt, 1, none⟩ = some (.int .i64 0) := (blk_cell hbox4 1).trans rfl; have hfz0 := blk_frozen hbox4 0; have hfz1 := blk_frozen hbox4 1))
 obtain ⟨w5, hw5⟩ : ∃ w5, w5 = (w4.setCell ⟨gt, 0, none⟩ (.int .i64 ta)).setCell ⟨gt, 1, none⟩ (.int .i64 tm) := ⟨_, rfl⟩; have HB5 : Aside0 (Below w.heap.size w w5) := ⟨by rw [hw5]; exact below_step (below_step hb2 hb3) ((hb4.setCell (p := ⟨gt, 0, none⟩) (Nat.le_of_eq HGT.out.symm) _).setCell (p := ⟨gt, 1, none⟩) (Nat.le_of_eq HGT.out.symm) _)⟩; have HX5 : Aside0 (w5.heap[gt]? = some (.cells #[.int .i64 ta, .int .i64 tm] 26 (0, 0))) := ⟨by rw [hw5]; exact blk_put (cs := #[.int .i64 ta, .int .i64 0]) (blk_put (cs := #[.int .i64 0, .int .i64 0]) hbox4 0 _ rfl) 1 _ rfl⟩; rw [← hw5]; obtain ⟨mb, hmb⟩ : ∃ mb, mb = w4.heap.size := ⟨_, rfl⟩; have hsz : w5.heap.size = mb := by rw [hw5, hmb]; simp
 try rw [← hmb]
 clear hw5 hcz0 hcz1 hfz0 hfz1 hbox4 hb4 hb1 hd2 hb2 hb3 HGT; have hgt5 : gt < w5.heap.size := (Array.getElem?_eq_some_iff.1 HX5.out).1; have h0 : (w5.alloc (.map #[] 0)).ownsMap Tryd.prog 3 boolE w5.heap.size 0 (.map []) := World.ownsMap_made _ _ _ _; have hB6 : Below w.heap.size w (w5.alloc (.map #[] 0)) := below_alloc HB5.out _; have hX6 : (w5.alloc (.map #[] 0)).heap[gt]? = some (.cells #[.int .i64 ta, .int .i64 tm] 26 (0, 0)) := blk_alloc HX5.out _; have HBB : Aside0 (w.heap.size ≤ w5.heap.size) := ⟨HB5.out.size⟩; have HGB : Aside0 (gt ≠ w5.heap.size) := ⟨Nat.ne_of_lt hgt5⟩; clear hgt5; rw [hsz] at h0 HBB HGB; try rw [hsz]
 generalize w5.alloc (.map #[] 0) = w6 at h0 hB6 hX6 ⊢; clear hmb hsz HX5 HB5; have H0 := Aside0.mk h0; have HB6 := Aside0.mk hB6; have HX6 := Aside0.mk hX6; clear h0 hB6 hX6; go_loopw [6, 33] (fun v6 v33 wr => ∃ (i n : Nat) (D : DataW Unit) (s : List Int), v6 = .int .i64 (mTo l0 i) ∧ v33 = .int .i64 (i : Int) ∧ i ≤ l0.length ∧ wr.ownsMap Tryd.prog 3 boolE mb n D ∧ IsSet D s ∧ n ≤ 37 * i ∧ (∀ f, f ∈ s ↔ ∃ p, p ∈ pairsL (l0.take i) ∧ p.1 = f) ∧ wr.heap[gt]? = some (.cells #[.int .i64 ta, .int .i64 tm] 26 (0, 0)) ∧ Below w.heap.size w wr) (fun _ v33 _ => l0.length - (intOf v33).toNat)
 case atStart => exact ⟨0, 0, _, [], rfl, rfl, Nat.zero_le _, H0.out, isSet_nil, Nat.le_refl _, fun f => by simp [pairsL], HX6.out, HB6.out⟩
 case round =>
  clear H0 HB6 HX6; obtain ⟨i, n, D, s, rfl, rfl, hi, hmp, hset, hn, hmem, hbx, hB⟩ := hrel; have HMP := Aside0.mk hmp; have HSET := Aside0.mk hset; have HN := Aside0.mk hn; have HMEM := Aside0.mk hmem; have HBX := Aside0.mk hbx; have HB := Aside0.mk hB; clear hmp hset hn hmem hbx hB; by_cases ci : i < l0.length
  ·
   have HCI := Aside0.mk ci; have cib : decide ((i : Int) < (l0.length : Int)) = true := decide_eq_true (by omega); have cib2 : decide (i < l0.length) = true := decide_eq_true ci; have cib3 : (i < l0.length) = True := eq_true ci; have p136 : 0 ≤ (i : Int) := by omega
   have q136 : (i : Int) < (l0.length : Int) := by omega
   obtain ⟨ad136, A136_3, c136_3, e136, hx136_0, hx136_1, hx136_2, hx136_3, hl136_3, hi136_3⟩ := at_T33 HR0.out (i : Int) p136 q136; cases e136; replace hx136_0 := (HB.out.cell (World.block_lt_of_cell? w _ hx136_0)).trans hx136_0; replace hx136_1 := (HB.out.cell (World.block_lt_of_cell? w _ hx136_1)).trans hx136_1; replace hx136_2 := (HB.out.cell (World.block_lt_of_cell? w _ hx136_2)).trans hx136_2; replace hx136_3 := (HB.out.cell (World.block_lt_of_cell? w _ hx136_3)).trans hx136_3; (try simp only [Int.toNat_natCast] at hx136_0 hx136_1 hx136_2 hx136_3)
   have HR136_3 := Aside0.mk hi136_3; have HC136_3 := Aside0.mk hl136_3; clear hi136_3 hl136_3 ci hi; replace p136 := eq_true p136; replace q136 := eq_true q136
   go_wp2_with (first
    | ((with_reducible refine gate_dst (N := 8) rfl ?_); refine box_event ?hg (N := 8) ?hd (cs := #[.int .i64 0, .int .i64 0, .int .i64 0, .slice none 0 0]) (t := 33) ?hr ?_; (case hd => rfl); (case hg => rfl); (case hr => first | (go_simp; done) | (go_simp; rfl)); intro gx hgx w7 hbox7 hb7; have HGX := Aside0.mk hgx; clear hgx; have hcz0 : w7.cell? ⟨gx, 0, none⟩ = some (.int .i64 0) := (blk_cell hbox7 0).trans rfl; have hcz1 : w7.cell? ⟨gx, 1, none⟩ = some (.int .i64 0) := (blk_cell hbox7 1).trans rfl; have hcz2 : w7.cell? ⟨gx, 2, none⟩ = some (.int .i64 0) := (blk_cell hbox7 2).trans rfl; have hcz3 : w7.cell? ⟨gx, 3, none⟩ = some (.slice none 0 0) := (blk_cell hbox7 3).trans rfl; have hfz0 := blk_frozen hbox7 0; have hfz1 := blk_frozen hbox7 1; have hfz2 := blk_frozen hbox7 2; have hfz3 := blk_frozen hbox7 3))
   have hgt7 : gt ≠ gx := fun e => by rw [HGX.out] at e; exact Nat.ne_of_lt (Array.getElem?_eq_some_iff.1 HBX.out).1 e
   obtain ⟨x, hx⟩ : ∃ x, x = rd_T33 l0 (i : Int) := ⟨_, rfl⟩; have HXI := Aside0.mk hx; rw [← hx] at HR136_3 HC136_3 ⊢; clear hx hx136_0 hx136_1 hx136_2 hx136_3; have e6 : wrap64 (mTo l0 i + x.f1.f1) = mTo l0 (i + 1) := by rw [HXI.out]; rfl
   rw [e6]; clear e6; obtain ⟨w8, hw8⟩ : ∃ w8, w8 = (((w7.setCell ⟨gx, 0, none⟩ (.int .i64 x.f0)).setCell ⟨gx, 1, none⟩ (.int .i64 x.f1.f0)).setCell ⟨gx, 2, none⟩ (.int .i64 x.f1.f1)).setCell ⟨gx, 3, none⟩ (.slice A136_3 x.f2.length c136_3) := ⟨_, rfl⟩; have hb8 : Below wr.heap.size wr w8 := by rw [hw8]; exact (((hb7.setCell (p := ⟨gx, 0, none⟩) (Nat.le_of_eq HGX.out.symm) _).setCell (p := ⟨gx, 1, none⟩) (Nat.le_of_eq HGX.out.symm) _).setCell (p := ⟨gx, 2, none⟩) (Nat.le_of_eq HGX.out.symm) _).setCell (p := ⟨gx, 3, none⟩) (Nat.le_of_eq HGX.out.symm) _
   have HX8 : Aside0 (w8.heap[gx]? = some (.cells #[.int .i64 x.f0, .int .i64 x.f1.f0, .int .i64 x.f1.f1, .slice A136_3 x.f2.length c136_3] 33 (0, 0))) := ⟨by rw [hw8]; exact blk_put (cs := #[.int .i64 x.f0, .int .i64 x.f1.f0, .int .i64 x.f1.f1, .slice none 0 0]) (blk_put (cs := #[.int .i64 x.f0, .int .i64 x.f1.f0, .int .i64 0, .slice none 0 0]) (blk_put (cs := #[.int .i64 x.f0, .int .i64 0, .int .i64 0, .slice none 0 0]) (blk_put (cs := #[.int .i64 0, .int .i64 0, .int .i64 0, .slice none 0 0]) hbox7 0 _ rfl) 1 _ rfl) 2 _ rfl) 3 _ rfl⟩; rw [← hw8]; have HM8 := Aside0.mk (sums_map HMP.out hb8); have HT8 := Aside0.mk (sums_box HBX.out hb8); have HB8 := Aside0.mk (below_step HB.out hb8); have HXB : Aside0 (gx ≠ mb) := ⟨fun e => by have h1 := HGX.out; have h2 := (HMP.out).lt; omega⟩; clear hw8 hcz0 hcz1 hcz2 hcz3 hfz0 hfz1 hfz2 hfz3 hbox7 hb7 hb8 hgt7 HGX cib cib2 cib3 p136 q136
   have HS12 : Aside0 (x.f2.length ≤ 37) := ⟨HS37.out x (by
    rw [HXI.out]; unfold rd_T33; rw [List.getD_eq_getElem?_getD, Int.toNat_natCast, List.getElem?_eq_getElem HCI.out]; exact List.getElem_mem _)⟩
   go_loopw [45] (fun v45 wq => ∃ (j n2 : Nat) (D2 : DataW Unit) (s2 : List Int), v45 = .int .i64 (j : Int) ∧ j ≤ x.f2.length ∧ wq.ownsMap Tryd.prog 3 boolE mb n2 D2 ∧ IsSet D2 s2 ∧ n2 ≤ 37 * i + j ∧ (∀ f, f ∈ s2 ↔ (f ∈ s ∨ ∃ p, p ∈ (pairsS x).take j ∧ p.1 = f)) ∧ wq.heap[gt]? = some (.cells #[.int .i64 ta, .int .i64 tm] 26 (0, 0)) ∧ wq.heap[gx]? = some (.cells #[.int .i64 x.f0, .int .i64 x.f1.f0, .int .i64 x.f1.f1, .slice A136_3 x.f2.length c136_3] 33 (0, 0)) ∧ Below w.heap.size w wq) (fun v45 _ => x.f2.length - (intOf v45).toNat)
   case atStart => exact ⟨0, n, D, s, rfl, Nat.zero_le _, HM8.out, HSET.out, HN.out, fun f => by simp, HT8.out, HX8.out, HB8.out⟩
   case round =>
    clear HM8 HT8 HX8 HB8; obtain ⟨j, n2, D2, s2, rfl, hj, hmp, hset, hn2, hmem, hbt, hbx, hB⟩ := hrel; have HMP2 := Aside0.mk hmp; have HSET2 := Aside0.mk hset; have HN2 := Aside0.mk hn2; have HMEM2 := Aside0.mk hmem; have HBT2 := Aside0.mk hbt; have HBX2 := Aside0.mk hbx; have HB2 := Aside0.mk hB; have HJ := Aside0.mk hj; clear hmp hset hn2 hmem hbt hbx hB hj; by_cases cj : j < x.f2.length
    ·
     have HCJ := Aside0.mk cj; have cjb : decide ((j : Int) < (x.f2.length : Int)) = true := decide_eq_true (by omega); have cjb2 : decide (j < x.f2.length) = true := decide_eq_true cj; have cjb3 : (j < x.f2.length) = True := eq_true cj; have p138 : 0 ≤ (j : Int) := by omega
     have q138 : (j : Int) < (x.f2.length : Int) := by omega
     obtain ⟨ad138, e138, hx138_0, hx138_1⟩ := at_T35 HR136_3.out (j : Int) p138 q138; cases e138; (try simp only [Int.toNat_natCast] at hx138_0 hx138_1)
     clear cj; replace p138 := eq_true p138; replace q138 := eq_true q138; replace hx138_0 := (HB2.out.cell (World.block_lt_of_cell? w _ hx138_0)).trans hx138_0; replace hx138_1 := (HB2.out.cell (World.block_lt_of_cell? w _ hx138_1)).trans hx138_1; obtain ⟨fl, hfl⟩ : ∃ fl, fl = (rd_T35 x.f2 (j : Int)).f0 := ⟨_, rfl⟩; obtain ⟨al, hal⟩ : ∃ al, al = (rd_T35 x.f2 (j : Int)).f1 := ⟨_, rfl⟩; rw [← hfl] at hx138_0; rw [← hal] at hx138_1; have HFL := Aside0.mk hfl; clear hfl hal
     have hin : (fl, (rd_T35 x.f2 (j : Int)).f1) ∈ pairsL l0 := by
      have e5 : (fl, (rd_T35 x.f2 (j : Int)).f1) ∈ pairsS x := by
       rw [HFL.out]; unfold rd_T35; rw [List.getD_eq_getElem?_getD, Int.toNat_natCast, List.getElem?_eq_getElem HCJ.out]; exact List.mem_map.2 ⟨_, List.getElem_mem _, rfl⟩
      have e7 : x ∈ l0 := by
       rw [HXI.out]; unfold rd_T33; rw [List.getD_eq_getElem?_getD, Int.toNat_natCast, List.getElem?_eq_getElem HCI.out]; exact List.getElem_mem _
      exact List.mem_flatMap.2 ⟨x, e7, e5⟩
     have HWF : Aside0 ((Lit.int .i64 fl).wf = true) := ⟨(HOF.out _ hin).1⟩; clear hin; have HLT : Aside0 (n2 < maxLen) := ⟨by have h1 := HN2.out; have h2 := HS12.out; have h3 := HCJ.out; have h4 := HCI.out; have h5 := H37.out; exact Nat.lt_of_lt_of_le (show n2 < 100000 by omega) sums_big⟩
     go_wp2_with (first
      | ((with_reducible refine gate_dst (N := 10) rfl ?_); refine box_event ?hg (N := 10) ?hd (cs := #[.int .i64 0, .int .i64 0]) (t := 35) ?hr ?_; (case hd => rfl); (case hg => rfl); (case hr => first | (go_simp; done) | (go_simp; rfl)); intro gs hgs w9 hbox9 hb9; have HGS := Aside0.mk hgs; clear hgs; have hcz0 : w9.cell? ⟨gs, 0, none⟩ = some (.int .i64 0) := (blk_cell hbox9 0).trans rfl; have hcz1 : w9.cell? ⟨gs, 1, none⟩ = some (.int .i64 0) := (blk_cell hbox9 1).trans rfl; have hfz0 := blk_frozen hbox9 0; have hfz1 := blk_frozen hbox9 1; have HB9 : Aside0 (Below wr.heap.size wr ((w9.setCell ⟨gs, 0, none⟩ (.int .i64 fl)).setCell ⟨gs, 1, none⟩ (.int .i64 al))) := ⟨(hb9.setCell (p := ⟨gs, 0, none⟩) (Nat.le_of_eq HGS.out.symm) _).setCell (p := ⟨gs, 1, none⟩) (Nat.le_of_eq HGS.out.symm) _⟩)
      | (refine wpList_store_set _ rfl _ _ _ 30 rfl 3 4 Tryd.underlying3 Tryd.underlying30 mb n2 D2 s2 rfl (sums_map HMP2.out HB9.out) HSET2.out HLT.out fl HWF.out true rfl rfl ?_; intro w10 D3 ho3 hs3 hg3; have HO3 := Aside0.mk ho3; have HS3 := Aside0.mk hs3; have HG3 := Aside0.mk hg3; clear ho3 hs3 hg3))
     have hb10 := below_step HB2.out HB9.out; rw [nat_next (show j < 4000000 by have := HCJ.out; have := HS12.out; omega)]; refine ⟨⟨j + 1, n2 + 1, D3, fl :: s2, rfl, HCJ.out, HO3.out, HS3.out, by have := HN2.out; omega, fun f => ?_, ?_, ?_, Below.grown hb10 HG3.out hb10.size (fun k e => by cases e; exact HBB.out)⟩, ?_⟩
     ·
      rw [share_next x j HCJ.out f, List.mem_cons, HMEM2.out f, HFL.out]; constructor
      ·
       rintro (h | h | h)
       · exact .inr (.inr h)
       · exact .inl h
       · exact .inr (.inl h)
      ·
       rintro (h | h | h)
       · exact .inr (.inl h)
       · exact .inr (.inr h)
       · exact .inl h
     · have h1 := sums_box HBT2.out HB9.out; exact (HG3.out.block gt (Array.getElem?_eq_some_iff.1 h1).1 (fun e => HGB.out (Option.some.inj e))).trans h1
     · have h1 := sums_box HBX2.out HB9.out; exact (HG3.out.block gx (Array.getElem?_eq_some_iff.1 h1).1 (fun e => HXB.out (Option.some.inj e))).trans h1
     · have h1 := HCJ.out; have h2 := HS12.out; exact meas_next h1
    ·
     have cjb : decide ((j : Int) < (x.f2.length : Int)) = false := decide_eq_false (by omega); have cjb2 : decide (j < x.f2.length) = false := decide_eq_false cj; have cjb3 : (j < x.f2.length) = False := eq_false cj; have HNJ := Aside0.mk cj; clear cj; go_wp2; have hjj : j = x.f2.length := by have := HNJ.out; have := HJ.out; omega
     rw [nat_next (show i < 4000000 by have := HCI.out; have := H37.out; omega)]; refine ⟨⟨i + 1, n2, D2, s2, rfl, rfl, HCI.out, HMP2.out, HSET2.out, by have := HN2.out; have := HS12.out; omega, fun f => ?_, HBT2.out, HB2.out⟩, ?_⟩
     ·
      have etk : (pairsS x).take x.f2.length = pairsS x := List.take_of_length_le (by unfold pairsS; rw [List.length_map]; exact Nat.le_refl _); rw [HMEM2.out f, HMEM.out f, hjj, etk]; constructor
      ·
       rintro (⟨p, hp, rfl⟩ | ⟨p, hp, rfl⟩)
       · exact ⟨p, (pairs_next l0 i HCI.out p).2 (.inl hp), rfl⟩
       · exact ⟨p, (pairs_next l0 i HCI.out p).2 (.inr (HXI.out ▸ hp)), rfl⟩
      ·
       rintro ⟨p, hp, rfl⟩; rcases (pairs_next l0 i HCI.out p).1 hp with hp | hp
       · exact .inl ⟨p, hp, rfl⟩
       · exact .inr ⟨p, HXI.out.symm ▸ hp, rfl⟩
     · have h1 := HCI.out; have h2 := H37.out; exact meas_next h1
  ·
   have HNI := Aside0.mk ci; have cib : decide ((i : Int) < (l0.length : Int)) = false := decide_eq_false (by omega); have cib2 : decide (i < l0.length) = false := decide_eq_false ci; have cib3 : (i < l0.length) = False := eq_false ci; have hii : i = l0.length := by omega
   subst hii; clear ci hi HNI
   go_wp2_with (first
    | (at_range; refine wpList_range_own _ rfl _ 30 rfl 3 4 (int_keyed Tryd.underlying3) Tryd.underlying30 boolE mb n D rfl (HMP.out) ?_; intro w11 hrg11 hg11 hs11; have HRG := Aside0.mk hrg11; have HG11 := Aside0.mk hg11; have HS11 := Aside0.mk hs11; clear hrg11 hg11 hs11))
   have hx11 : w11.heap[gt]? = some (.cells #[.int .i64 ta, .int .i64 tm] 26 (0, 0)) := (HG11.out.block gt (Array.getElem?_eq_some_iff.1 HBX.out).1 (by simp)).trans HBX.out; have hB11 : Below w.heap.size w w11 := Below.grown HB.out HG11.out HB.out.size (fun k e => by cases e); obtain ⟨rr, hrr⟩ : ∃ rr, rr = wr.heap.size := ⟨_, rfl⟩; have HRB : Aside0 (w.heap.size ≤ rr) := ⟨by rw [hrr]; exact HB.out.size⟩; have HGR : Aside0 (gt ≠ rr) := ⟨by rw [hrr]; exact Nat.ne_of_lt (Array.getElem?_eq_some_iff.1 HBX.out).1⟩; have hrg0 := HRG.out; rw [← hrr] at hrg0 ⊢; have HRG0 := Aside0.mk hrg0; have HX11 := Aside0.mk hx11; have HB11 := Aside0.mk hB11; clear HRG HG11 HS11 hx11 hB11 hrg0 hrr cib cib2 cib3; rw [HTM.out]; have e0 : wrap64 (PL.sumOn (PL.ofS (pairsL l0)) []) = 0 := by simp only [PL.sumOn]; unfold wrap64; omega
   have E0 := Aside0.mk e0; clear e0; go_frame
   go_loopw [11] (fun v11 wq => ∃ (seen : List Int) (left : Lit → Bool) (cnt : Nat), v11 = .int .i64 (wrap64 (PL.sumOn (PL.ofS (pairsL l0)) seen)) ∧ wq.ranges Tryd.prog 3 boolE mb rr n D left cnt ∧ seen.Nodup ∧ (∀ f, left (.int .i64 f) = true → f ∈ s) ∧ (∀ f, f ∈ seen ↔ f ∈ s ∧ left (.int .i64 f) = false) ∧ wq.heap[gt]? = some (.cells #[.int .i64 ta, .int .i64 tm] 26 (0, 0)) ∧ Below w.heap.size w wq) (fun _ wq => wq.rangeLeft mb rr)
   case atStart => exact ⟨[], _, _, by rw [E0.out], HRG0.out, List.nodup_nil, fun f hf => of_decide_eq_true ((HSET.out.2 f).symm.trans hf), fun f => ⟨fun hf => by simp at hf, fun hf => by
    have h1 := (HSET.out.2 f).symm.trans hf.2; exact absurd hf.1 (of_decide_eq_false h1)⟩, HX11.out, HB11.out⟩
   case round =>
    clear HRG0 HX11 HB11 E0 HBX HB HMP; obtain ⟨seen, left, cnt, rfl, hrg, hnd, hlf, hsn, hbt, hBq⟩ := hrel; have HND := Aside0.mk hnd; have HLF := Aside0.mk hlf; have HSN := Aside0.mk hsn; have HBT := Aside0.mk hbt; have HBQ := Aside0.mk hBq; have HRGQ := Aside0.mk hrg; clear hnd hlf hsn hbt hBq hrg
    go_wp2_with (first
     | (at_next; refine wpList_next_setv _ rfl _ rfl 3 Tryd.underlying3 mb rr n D left cnt rfl HRGQ.out ?_ ?_))
    ·
     intro hc0 hl0
     have hsum : wrap64 (PL.sumOn (PL.ofS (pairsL l0)) seen) = ta := by
      have h1 := PL.sumOn_ofS (pairsL l0) seen HND.out (fun p hp => (HSN.out p.1).2 ⟨(HMEM.out p.1).2 ⟨p, by rw [List.take_length]; exact hp, rfl⟩, hl0 _⟩); rw [h1, HTA.out, HWA.out]
     rw [hsum]; clear hsum hc0 hl0; have bz0 : wr.cell? ⟨gt, 0, none⟩ = some (.int .i64 ta) := (blk_cell HBT.out 0).trans rfl; have bz1 : wr.cell? ⟨gt, 1, none⟩ = some (.int .i64 tm) := (blk_cell HBT.out 1).trans rfl; have bf0 := blk_frozen HBT.out 0; have bf1 := blk_frozen HBT.out 1; go_wp2; go_ret
     exact ⟨rfl, HBQ.out⟩
    ·
     intro y cc w12 cnt2 hwf hly hrg2 hlt hg12 hsz12 hen12; have hys : y ∈ s := HLF.out y hly
     have hyn : y ∉ seen := fun hy => by
      have := ((HSN.out y).1 hy).2; rw [hly] at this; cases this
     obtain ⟨pp, hpp, hpy⟩ := (HMEM.out y).1 hys; rw [List.take_length] at hpp; have hof := (HOF.out pp hpp).2; rw [hpy] at hof; obtain ⟨gy, hgy⟩ : ∃ gy, gy = PL.ofS (pairsL l0) y := ⟨_, rfl⟩; rw [← hgy] at hof; have HOY := Aside0.mk hof.1; have cgy : decide (gy < 1) = false := decide_eq_false (by have := hof.2; omega); have HGY := Aside0.mk hgy; have HYN := Aside0.mk hyn; have HYS := Aside0.mk hys; have HLY := Aside0.mk hly; have HRG2 := Aside0.mk hrg2; have HLT2 := Aside0.mk hlt; have hB12 : Below w.heap.size w w12 := Below.grown HBQ.out hg12 HBQ.out.size (fun j hj => by cases hj; exact HRB.out); have hbt12 : w12.heap[gt]? = some (.cells #[.int .i64 ta, .int .i64 tm] 26 (0, 0)) := (hg12.block gt (Array.getElem?_eq_some_iff.1 HBT.out).1 (fun e => HGR.out (Option.some.inj e))).trans HBT.out; have HB12 := Aside0.mk hB12; have HBT12 := Aside0.mk hbt12; clear hof hgy hyn hys hly hrg2 hlt hB12 hbt12 hpp hpy hwf hg12 hsz12
     go_wp2_with (first
      | (go_at_call 13; refine (lot_Of.calls k _ _ l0 y gy 0 _ (Kd.C_below HR0.out HB12.out) HC0.out HOY.out).mono ?_; rintro e w13 ⟨rfl, hb13⟩; have HB13 := Aside0.mk hb13; clear hb13))
     have er := sums_ranges HRG2.out HB13.out; refine ⟨⟨y :: seen, _, cnt2, ?_, er, List.nodup_cons.2 ⟨HYN.out, HND.out⟩, fun f hf => ?_, fun f => ?_, sums_box HBT12.out HB13.out, below_step HB12.out HB13.out⟩, ?_⟩
     · rw [sumOn_cons, ← HGY.out, wrap_add, Int.add_comm]
     · exact HLF.out f (Bool.and_eq_true_iff.1 hf).1
     ·
      rw [List.mem_cons, HSN.out f, key_eq]; by_cases cfy : f = y
      · subst cfy; simp [HYS.out]
      · simp [cfy]
     · rw [er.left_eq, HRGQ.out.left_eq]; exact HLT2.out
end
def spileref22_ID.f (a0 : Int) : Option (Bool) := if a0 ≥ 1 then (some (decide (a0 ≤ 1073741824))) else (some false)
def spileref21_Plain.f (a0_0 : Int) (a0_1 : Int) : Option (Bool) := if a0_0 ≥ 0 then (if a0_0 ≤ 10737418240000 then (if a0_1 ≥ 0 then (if a0_1 ≤ 128849018880000 then (if a0_1 > 0 then (some true) else (some (a0_0 == 0))) else (some false)) else (some false)) else (some false)) else (some false)
def spileref22_Shares.l0 : Nat → List (S35) → Int → Option (Int)
 | 0, _, _ => none
 | k + 1, x0, x3 => if x3 < (x0.length : Int) then (if 0 ≤ x3 then (if ((rd_T35 x0 x3).f0) < 1 then (some 10) else (if ((rd_T35 x0 x3).f0) > 1073741824 then (some 10) else (if ((rd_T35 x0 x3).f1) < 1 then (some 10) else (if ((rd_T35 x0 x3).f1) > 10737418240000 then (some 10) else (if x3 > 0 then (if 0 ≤ (wrap64 (x3 - 1)) then (if (wrap64 (x3 - 1)) < (x0.length : Int) then (if ((rd_T35 x0 x3).f0) ≤ ((rd_T35 x0 (wrap64 (x3 - 1))).f0) then (some 10) else (spileref22_Shares.l0 k x0 (wrap64 (x3 + 1)))) else (none)) else (none)) else (spileref22_Shares.l0 k x0 (wrap64 (x3 + 1)))))))) else (none)) else (some 0)
def spileref22_Shares.f (k : Nat) (l0 : List (S35)) : Option (Int) := if (l0.length : Int) > 32 then (some 12) else (spileref22_Shares.l0 k l0 0)
end Go.Proofs.YtgjoenoknknoiaaDoor.Pr
namespace Go.Proofs.YtgjoenoknknoiaaDoor.Pr
open Go.RowKit Go.Proofs.YtgjoenoknknoiaaDoorW.PrintWords Go.Proofs.YtgjoenoknknoiaaDoorW.PrintLast Go.Proofs.YtgjoenoknknoiaaDoorW.PrintMore Go.Proofs.YtgjoenoknknoiaaDoor.X
attribute [local go_sem] max2_int min2_int max_two min_two max_three min_three max_four min_four   -- for this text's walks alone
set_option linter.unusedVariables false
set_option linter.unusedSimpArgs false
theorem eqA26 (d : Nat) (w : World) (x0 y0 : Int) (x1 y1 : Int) :
  (Op.equalIn (d + 2) 26 (.agg #[.int .i64 x0, .int .i64 x1]) (.agg #[.int .i64 y0, .int .i64 y1])).run Tryd.prog w = .ok (x0 == y0 && (x1 == y1)) w := by
 refine eqA_of Tryd.underlying26 (by kernel_rfl) ?_
 refine eqf_cons (by rfl) (by go_simp; rfl) (by go_simp; rfl) (by go_simp) ?_
 exact eqf_last (by rfl) (by go_simp; rfl) (by go_simp; rfl) (by go_simp)
end Go.Proofs.YtgjoenoknknoiaaDoor.Pr
namespace Go.Proofs.YtgjoenoknknoiaaDoor.Pr
open Go.RowKit Go.Proofs.YtgjoenoknknoiaaDoorW.PrintWords Go.Proofs.YtgjoenoknknoiaaDoorW.PrintLast Go.Proofs.YtgjoenoknknoiaaDoorW.PrintMore Go.Proofs.YtgjoenoknknoiaaDoor.X
attribute [local go_sem] max2_int min2_int max_two min_two max_three min_three max_four min_four   -- for this text's walks alone
set_option linter.unusedVariables false
set_option linter.unusedSimpArgs false
theorem eqA35 (d : Nat) (w : World) (x0 y0 : Int) (x1 y1 : Int) :
  (Op.equalIn (d + 2) 35 (.agg #[.int .i64 x0, .int .i64 x1]) (.agg #[.int .i64 y0, .int .i64 y1])).run Tryd.prog w = .ok (x0 == y0 && (x1 == y1)) w := by
 refine eqA_of Tryd.underlying35 (by kernel_rfl) ?_
 refine eqf_cons (by rfl) (by go_simp; rfl) (by go_simp; rfl) (by go_simp) ?_
 exact eqf_last (by rfl) (by go_simp; rfl) (by go_simp; rfl) (by go_simp)
end Go.Proofs.YtgjoenoknknoiaaDoor.Pr
namespace Go.Proofs.YtgjoenoknknoiaaDoor.Pr
open Go.RowKit Go.Proofs.YtgjoenoknknoiaaDoorW.PrintWords Go.Proofs.YtgjoenoknknoiaaDoorW.PrintLast Go.Proofs.YtgjoenoknknoiaaDoorW.PrintMore Go.Proofs.YtgjoenoknknoiaaDoor.X
attribute [local go_sem] max2_int min2_int max_two min_two max_three min_three max_four min_four   -- for this text's walks alone
set_option linter.unusedVariables false
set_option linter.unusedSimpArgs false
def spileref22_Alcohol.l0 : Nat → List (S35) → Int → Int → Option (Int)
 | 0, _, _, _ => none
 | k + 1, x0, x3, x4 => if x4 < (x0.length : Int) then (if 0 ≤ x4 then (spileref22_Alcohol.l0 k x0 (wrap64 (x3 + ((rd_T35 x0 x4).f1))) (wrap64 (x4 + 1))) else (none)) else (some x3)
def spileref22_Alcohol.f (k : Nat) (l0 : List (S35)) : Option (Int) := spileref22_Alcohol.l0 k l0 0 0
def spileref22_One.j0 : Nat → Bool → Int → Int → Int → List (S35) → Option (Int)
 | 0, _, _, _, _, _ => none
 | k + 1, x13, x157000, x157001, x157002, x157003 => if x13 = true then (some 1) else ((spileref22_Shares.f k x157003).bind fun t158 => (if t158 = 0 then ((spileref22_Alcohol.f k x157003).bind fun t159 => (if t159 = x157001 then (some 0) else (some 14))) else (some t158)))
def spileref22_One.f (k : Nat) (a0_0 : Int) (a0_1 : Int) (a0_2 : Int) (l0_3 : List (S35)) : Option (Int) := (spileref21_Plain.f a0_1 a0_2).bind fun t157 => (if t157 = true then (spileref22_One.j0 k (a0_2 == 0) a0_0 a0_1 a0_2 l0_3) else (spileref22_One.j0 k true a0_0 a0_1 a0_2 l0_3))
mutual
def spileref22_Check.l0 : Nat → List (S33) → Int → Option (Int × Int)
 | 0, _, _ => none
 | k + 1, x0, x4 => if x4 < (x0.length : Int) then (if 0 ≤ x4 then ((spileref22_ID.f ((rd_T33 x0 x4).f0)).bind fun t161 => (if t161 = true then (if x4 > 0 then (if 0 ≤ (wrap64 (x4 - 1)) then (if (wrap64 (x4 - 1)) < (x0.length : Int) then (spileref22_Check.j1 k x0 x4 (decide (((rd_T33 x0 x4).f0) ≤ ((rd_T33 x0 (wrap64 (x4 - 1))).f0)))) else (none)) else (none)) else (spileref22_Check.j1 k x0 x4 false)) else (some (x4, 2)))) else (none)) else (some ((-1), 0))
def spileref22_Check.j1 : Nat → List (S33) → Int → Bool → Option (Int × Int)
 | 0, _, _, _ => none
 | k + 1, x0, x4, x38 => if x38 = true then (some (x4, 5)) else (if 0 ≤ x4 then (if x4 < (x0.length : Int) then ((spileref22_One.f k ((rd_T33 x0 x4).f0) ((rd_T33 x0 x4).f1.f0) ((rd_T33 x0 x4).f1.f1) ((rd_T33 x0 x4).f2)).bind fun t165 => (if t165 = 0 then (spileref22_Check.l0 k x0 (wrap64 (x4 + 1))) else (some (x4, t165)))) else (none)) else (none))
end
def spileref22_Check.f (k : Nat) (l0 : List (S33)) : Option (Int × Int) := if (l0.length : Int) > 32 then (some ((-1), 8)) else (spileref22_Check.l0 k l0 0)
end Go.Proofs.YtgjoenoknknoiaaDoor.Pr
namespace Go.Proofs.YtgjoenoknknoiaaDoor.Pr
open Go.RowKit Go.Proofs.YtgjoenoknknoiaaDoorW.PrintWords Go.Proofs.YtgjoenoknknoiaaDoorW.PrintLast Go.Proofs.YtgjoenoknknoiaaDoorW.PrintMore Go.Proofs.YtgjoenoknknoiaaDoor.X
attribute [local go_sem] max2_int min2_int max_two min_two max_three min_three max_four min_four   -- for this text's walks alone
set_option linter.unusedVariables false
set_option linter.unusedSimpArgs false
def spileref22_Right.f (k : Nat) (l0 : List (S33)) : Option (Bool) := (spileref22_Check.f k l0).bind fun bt200 => (some (bt200.2 == 0))
end Go.Proofs.YtgjoenoknknoiaaDoor.Pr
namespace Go.Proofs.YtgjoenoknknoiaaDoor.Opn
open Go Go.RowKit Go.Proofs.YtgjoenoknknoiaaDoorW.PrintWords Go.Proofs.YtgjoenoknknoiaaDoor.O Go.Proofs.YtgjoenoknknoiaaDoor.Pr
theorem opens3 : Opens Tryd.prog 3 (Kd.int .i64) (fun x => (Lit.int .i64 x).wf = true) := opens_int Tryd.underlying3 (by kernel_rfl)
def ok26 (x : S26) : Prop := (Lit.int .i64 x.f0).wf = true ∧ (Lit.int .i64 x.f1).wf = true
theorem opens26 : Opens Tryd.prog 26 k26 ok26 :=
  ⟨by kernel_rfl, fun H enc w base sp held fuel cs x h => by
    obtain ⟨xs, n, _, _, hl, hx, hf⟩ := DataW.trod_struct Tryd.underlying26 h
    have hc_ : Tryd.prog.cellsOf 26 = 2 := by kernel_rfl
    rw [hc_] at hl
    obtain ⟨c0, c1, rfl⟩ : ∃ c0 c1, cs = [c0, c1] := by
      clear h hf hx
      rcases cs with _ | ⟨c0, _ | ⟨c1, _ | ⟨_, _⟩⟩⟩
      all_goals first | exact ⟨_, _, rfl⟩ | (simp at hl)
    obtain ⟨y0, hy0⟩ : ∃ y, xs[0]? = some y := ⟨xs[0]'(by rw [hx]; decide), List.getElem?_eq_getElem _⟩
    have e0 : DataW.trod enc Tryd.prog w base sp held n 3 ((List.drop 0 [c0, c1]).take (Tryd.prog.cellsOf 3)) = xs[0]? := hf 0 _ rfl
    rw [hy0, show Tryd.prog.cellsOf 3 = 1 from by kernel_rfl] at e0
    obtain ⟨v0, K0, o0⟩ := opens3.2 H enc w base sp held n _ _ e0
    replace K0 : (Kd.int .i64).K w v0 [c0] := K0
    obtain ⟨y1, hy1⟩ : ∃ y, xs[1]? = some y := ⟨xs[1]'(by rw [hx]; decide), List.getElem?_eq_getElem _⟩
    have e1 : DataW.trod enc Tryd.prog w base sp held n 3 ((List.drop 1 [c0, c1]).take (Tryd.prog.cellsOf 3)) = xs[1]? := hf 1 _ rfl
    rw [hy1, show Tryd.prog.cellsOf 3 = 1 from by kernel_rfl] at e1
    obtain ⟨v1, K1, o1⟩ := opens3.2 H enc w base sp held n _ _ e1
    replace K1 : (Kd.int .i64).K w v1 [c1] := K1
    obtain rfl : c0 = _ := List.singleton_inj.1 K0
    obtain rfl : c1 = _ := List.singleton_inj.1 K1
    refine ⟨⟨v0, v1⟩, ?_, o0, o1⟩
    exact k26_mk w ⟨v0, v1⟩ ⟩
def ok35 (x : S35) : Prop := (Lit.int .i64 x.f0).wf = true ∧ (Lit.int .i64 x.f1).wf = true
theorem opens35 : Opens Tryd.prog 35 k35 ok35 :=
  ⟨by kernel_rfl, fun H enc w base sp held fuel cs x h => by
    obtain ⟨xs, n, _, _, hl, hx, hf⟩ := DataW.trod_struct Tryd.underlying35 h
    have hc_ : Tryd.prog.cellsOf 35 = 2 := by kernel_rfl
    rw [hc_] at hl
    obtain ⟨c0, c1, rfl⟩ : ∃ c0 c1, cs = [c0, c1] := by
      clear h hf hx
      rcases cs with _ | ⟨c0, _ | ⟨c1, _ | ⟨_, _⟩⟩⟩
      all_goals first | exact ⟨_, _, rfl⟩ | (simp at hl)
    obtain ⟨y0, hy0⟩ : ∃ y, xs[0]? = some y := ⟨xs[0]'(by rw [hx]; decide), List.getElem?_eq_getElem _⟩
    have e0 : DataW.trod enc Tryd.prog w base sp held n 3 ((List.drop 0 [c0, c1]).take (Tryd.prog.cellsOf 3)) = xs[0]? := hf 0 _ rfl
    rw [hy0, show Tryd.prog.cellsOf 3 = 1 from by kernel_rfl] at e0
    obtain ⟨v0, K0, o0⟩ := opens3.2 H enc w base sp held n _ _ e0
    replace K0 : (Kd.int .i64).K w v0 [c0] := K0
    obtain ⟨y1, hy1⟩ : ∃ y, xs[1]? = some y := ⟨xs[1]'(by rw [hx]; decide), List.getElem?_eq_getElem _⟩
    have e1 : DataW.trod enc Tryd.prog w base sp held n 3 ((List.drop 1 [c0, c1]).take (Tryd.prog.cellsOf 3)) = xs[1]? := hf 1 _ rfl
    rw [hy1, show Tryd.prog.cellsOf 3 = 1 from by kernel_rfl] at e1
    obtain ⟨v1, K1, o1⟩ := opens3.2 H enc w base sp held n _ _ e1
    replace K1 : (Kd.int .i64).K w v1 [c1] := K1
    obtain rfl : c0 = _ := List.singleton_inj.1 K0
    obtain rfl : c1 = _ := List.singleton_inj.1 K1
    refine ⟨⟨v0, v1⟩, ?_, o0, o1⟩
    exact k35_mk w ⟨v0, v1⟩ ⟩
theorem opens31 : Opens Tryd.prog 31 (Kd.slice 35 k35) (fun x => (x.length ≤ maxLen ∧ ∀ x0_, x0_ ∈ x → ok35 x0_)) := opens_slice (P := Tryd.prog) (t := 31) (e := 35) Tryd.underlying31 (by kernel_rfl) opens35
def ok33 (x : S33) : Prop := (Lit.int .i64 x.f0).wf = true ∧ ok26 x.f1 ∧ (x.f2.length ≤ maxLen ∧ ∀ x0_, x0_ ∈ x.f2 → ok35 x0_)
theorem opens33 : Opens Tryd.prog 33 k33 ok33 :=
  ⟨by kernel_rfl, fun H enc w base sp held fuel cs x h => by
    obtain ⟨xs, n, _, _, hl, hx, hf⟩ := DataW.trod_struct Tryd.underlying33 h
    have hc_ : Tryd.prog.cellsOf 33 = 4 := by kernel_rfl
    rw [hc_] at hl
    obtain ⟨c0, c1, c2, c3, rfl⟩ : ∃ c0 c1 c2 c3, cs = [c0, c1, c2, c3] := by
      clear h hf hx
      rcases cs with _ | ⟨c0, _ | ⟨c1, _ | ⟨c2, _ | ⟨c3, _ | ⟨_, _⟩⟩⟩⟩⟩
      all_goals first | exact ⟨_, _, _, _, rfl⟩ | (simp at hl)
    obtain ⟨y0, hy0⟩ : ∃ y, xs[0]? = some y := ⟨xs[0]'(by rw [hx]; decide), List.getElem?_eq_getElem _⟩
    have e0 : DataW.trod enc Tryd.prog w base sp held n 3 ((List.drop 0 [c0, c1, c2, c3]).take (Tryd.prog.cellsOf 3)) = xs[0]? := hf 0 _ rfl
    rw [hy0, show Tryd.prog.cellsOf 3 = 1 from by kernel_rfl] at e0
    obtain ⟨v0, K0, o0⟩ := opens3.2 H enc w base sp held n _ _ e0
    replace K0 : (Kd.int .i64).K w v0 [c0] := K0
    obtain ⟨y1, hy1⟩ : ∃ y, xs[1]? = some y := ⟨xs[1]'(by rw [hx]; decide), List.getElem?_eq_getElem _⟩
    have e1 : DataW.trod enc Tryd.prog w base sp held n 26 ((List.drop 1 [c0, c1, c2, c3]).take (Tryd.prog.cellsOf 26)) = xs[1]? := hf 1 _ rfl
    rw [hy1, show Tryd.prog.cellsOf 26 = 2 from by kernel_rfl] at e1
    obtain ⟨v1, K1, o1⟩ := opens26.2 H enc w base sp held n _ _ e1
    replace K1 : k26.K w v1 [c1, c2] := K1
    obtain ⟨y2, hy2⟩ : ∃ y, xs[2]? = some y := ⟨xs[2]'(by rw [hx]; decide), List.getElem?_eq_getElem _⟩
    have e2 : DataW.trod enc Tryd.prog w base sp held n 31 ((List.drop 3 [c0, c1, c2, c3]).take (Tryd.prog.cellsOf 31)) = xs[2]? := hf 2 _ rfl
    rw [hy2, show Tryd.prog.cellsOf 31 = 1 from by kernel_rfl] at e2
    obtain ⟨v2, K2, o2⟩ := opens31.2 H enc w base sp held n _ _ e2
    replace K2 : (Kd.slice 35 k35).K w v2 [c3] := K2
    obtain rfl : c0 = _ := List.singleton_inj.1 K0
    have Z1 := k26_open K1
    have w1 := Z1
    simp only [List.cons.injEq, and_true] at w1
    obtain ⟨rfl, rfl⟩ := w1
    obtain ⟨A2, q2, w2, m2, g2⟩ := K2
    obtain rfl : c3 = _ := List.singleton_inj.1 w2
    refine ⟨⟨v0, v1, v2⟩, ?_, o0, o1, o2⟩
    exact k33_mk w ⟨v0, v1, v2⟩ m2 g2⟩
theorem opens22 : Opens Tryd.prog 22 (Kd.slice 33 k33) (fun x => (x.length ≤ maxLen ∧ ∀ x0_, x0_ ∈ x → ok33 x0_)) := opens_slice (P := Tryd.prog) (t := 22) (e := 33) Tryd.underlying22 (by kernel_rfl) opens33
end Go.Proofs.YtgjoenoknknoiaaDoor.Opn
namespace Go.Proofs.YtgjoenoknknoiaaDoor.Pure
open Go Go.RowKit Go.Proofs.YtgjoenoknknoiaaDoor.Pr Go.Proofs.YtgjoenoknknoiaaDoor.Opn
def lotSumsPure : Prop := ∀ (l0 : (List S33)), (l0.length ≤ maxLen ∧ ∀ x0_, x0_ ∈ l0 → ok33 x0_) → ∃ k, spilelaw22_LotSums.f k l0 = some true
end Go.Proofs.YtgjoenoknknoiaaDoor.Pure
namespace Go.Proofs.YtgjoenoknknoiaaDoor.PL
open Go Go.RowKit Go.Proofs.YtgjoenoknknoiaaDoorW.PrintWords Go.Proofs.YtgjoenoknknoiaaDoorW.PrintLast Go.Proofs.YtgjoenoknknoiaaDoorW.PrintMore Go.Proofs.YtgjoenoknknoiaaDoor.Pr Go.Proofs.YtgjoenoknknoiaaDoor.Opn
def PlainP (a b : Int) : Prop := 0 ≤ a ∧ a ≤ 10737418240000 ∧ 0 ≤ b ∧ b ≤ 128849018880000 ∧ (0 < b ∨ a = 0)
instance (a b : Int) : Decidable (PlainP a b) := by unfold PlainP; infer_instance
theorem mix_plain_eq (a b : Int) : mix_plain.f a b = some (decide (PlainP a b)) := by
  unfold mix_plain.f PlainP
  repeat' split
  all_goals first
    | (refine congrArg some (Eq.symm (decide_eq_true ?_)); omega)
    | (refine congrArg some (Eq.symm (decide_eq_false ?_)); omega)
    | (refine congrArg some ?_
       by_cases h : a = 0
       · rw [show (a == 0) = true from by simpa using h]; exact (decide_eq_true (by omega)).symm
       · rw [show (a == 0) = false from by simpa using h]; exact (decide_eq_false (by omega)).symm)
theorem ref_plain_eq (a b : Int) : spileref21_Plain.f a b = some (decide (PlainP a b)) := mix_plain_eq a b
theorem wf64 {x : Int} (h : (Lit.int .i64 x).wf = true) : -9223372036854775808 ≤ x ∧ x ≤ 9223372036854775807 := by
  have h2 := h
  simp [Lit.wf, IntKind.min, IntKind.max, IntKind.signed, IntKind.bits] at h2
  exact ⟨by omega, by omega⟩
/-- A liquid alone: plain by the mixture of one. -/
theorem lot_plain_ev (a b : Int) (ha : -9223372036854775808 ≤ a ∧ a ≤ 9223372036854775807) (hb : -9223372036854775808 ≤ b ∧ b ≤ 9223372036854775807) : Ev (fun k => lot_plain.f k a b) (decide (PlainP a b)) := by
  have r0 : rd_T26 [(⟨a, b⟩ : S26)] 0 = ⟨a, b⟩ := rfl
  have hc : Ev (fun k => api_Liquid_69_at_70.f k [(⟨a, b⟩ : S26)]) (decide (¬ PlainP a b)) := by
    by_cases hp : PlainP a b
    · have : Ev (fun k => api_Liquid_78_at_70.f k [(⟨a, b⟩ : S26)]) (-1) := by
        refine Ev.step (fun k => api_Liquid_78_at_70.l0.eq_2 ..) (evp (by simp) (evp (by decide) (evp (by simp) (evb (a := false) ?_ (evn (by simp) ?_)))))
        · refine evc (fun _ => rfl) ?_
          rw [r0]
          unfold mix_Sum_1.f
          rw [mix_plain_eq, decide_eq_true hp]
          rfl
        · exact Ev.step (fun k => api_Liquid_78_at_70.l0.eq_2 ..) (evn (by simp [wrap64]) (Ev.now _))
      rw [decide_eq_false (fun h => h hp)]
      exact evb this (evr (by decide))
    · have : Ev (fun k => api_Liquid_78_at_70.f k [(⟨a, b⟩ : S26)]) 0 := by
        refine Ev.step (fun k => api_Liquid_78_at_70.l0.eq_2 ..) (evp (by simp) (evp (by decide) (evp (by simp) (evb (a := true) ?_ (evp rfl (Ev.now _))))))
        refine evc (fun _ => rfl) ?_
        rw [r0]
        unfold mix_Sum_1.f
        rw [mix_plain_eq, decide_eq_false hp]
        rfl
      rw [decide_eq_true hp]
      exact evb this (evr (by decide))
  have ht : Ev (fun k => mix_total.f k [(⟨a, b⟩ : S26)]) (a, b) := by
    refine Ev.step (fun k => mix_total.l0.eq_2 ..) (evp (by simp) (evp (by decide) (evp (by simp) ?_)))
    rw [r0]
    refine Ev.step (fun k => mix_total.l0.eq_2 ..) (evn (by simp [wrap64]) (evr ?_))
    show (wrap64 (0 + a), wrap64 (0 + b)) = (a, b)
    rw [w64 (by omega) (by omega), w64 (by omega) (by omega)]
    simp
  by_cases hp : PlainP a b
  · rw [decide_eq_false (fun h => h hp)] at hc
    rw [decide_eq_true hp]
    refine evb (a := (a, b, 0)) ?_ (evr (by simp))
    refine evn (by simp) (evb hc (evn (by simp) (evb ht (evb (a := true) (evc (fun _ => rfl) ?_) (evp rfl (Ev.now _))))))
    rw [mix_plain_eq, decide_eq_true hp]
  · rw [decide_eq_true hp] at hc
    rw [decide_eq_false hp]
    refine evb (a := (0, 0, 1)) ?_ (evr (by simp))
    exact evn (by simp) (evb hc (evp rfl (Ev.now _)))
/-- The shares of a lot. -/
theorem shares_both (l : List S35) (hl : (l.length : Int) ≤ 9223372036854775807) (a0 a1 a2 : Int) : ∀ i, 0 ≤ i → i ≤ (l.length : Int) → ∀ s,
    ∃ e, Ev (fun k => spileref22_Shares.l0 k l i) e ∧ (e ≠ 0 → Ev (fun k => lot_shares.l0 k s l (l.length : Int) i a0 a1 a2 l) e) ∧
      (e = 0 → ∃ t, Ev (fun k => spileref22_Alcohol.l0 k l s i) t ∧ Ev (fun k => lot_shares.l0 k s l (l.length : Int) i a0 a1 a2 l) (if t = a1 then 0 else 14)) := by
  refine count_up 0 (l.length : Int) _ ?_ ?_
  · intro s
    refine ⟨0, Ev.step (fun k => spileref22_Shares.l0.eq_2 ..) (evn (by omega) (Ev.now _)), fun h => absurd rfl h, fun _ => ⟨s, Ev.step (fun k => spileref22_Alcohol.l0.eq_2 ..) (evn (by omega) (Ev.now _)), ?_⟩⟩
    refine Ev.step (fun k => lot_shares.l0.eq_2 ..) (evn (by omega) ?_)
    by_cases h : s = a1
    · rw [show (if s = a1 then (0 : Int) else 14) = 0 from if_pos h]; exact evp h (Ev.now _)
    · rw [show (if s = a1 then (0 : Int) else 14) = 14 from if_neg h]; exact evn h (Ev.now _)
  · intro i h0 h1 ih s
    have hw := w64_succ h0 h1 hl
    by_cases c1 : (rd_T35 l i).f0 < 1
    · exact ⟨10, Ev.step (fun k => spileref22_Shares.l0.eq_2 ..) (evp h1 (evp h0 (evp c1 (Ev.now _)))), fun _ => Ev.step (fun k => lot_shares.l0.eq_2 ..) (evp h1 (evp h0 (evp h1 (evp c1 (Ev.now _))))), fun h => absurd h (by decide)⟩
    by_cases c2 : (rd_T35 l i).f0 > 1073741824
    · exact ⟨10, Ev.step (fun k => spileref22_Shares.l0.eq_2 ..) (evp h1 (evp h0 (evn c1 (evp c2 (Ev.now _))))), fun _ => Ev.step (fun k => lot_shares.l0.eq_2 ..) (evp h1 (evp h0 (evp h1 (evn c1 (evp c2 (Ev.now _)))))), fun h => absurd h (by decide)⟩
    by_cases c3 : (rd_T35 l i).f1 < 1
    · exact ⟨10, Ev.step (fun k => spileref22_Shares.l0.eq_2 ..) (evp h1 (evp h0 (evn c1 (evn c2 (evp c3 (Ev.now _)))))), fun _ => Ev.step (fun k => lot_shares.l0.eq_2 ..) (evp h1 (evp h0 (evp h1 (evn c1 (evn c2 (evp c3 (Ev.now _))))))), fun h => absurd h (by decide)⟩
    by_cases c4 : (rd_T35 l i).f1 > 10737418240000
    · exact ⟨10, Ev.step (fun k => spileref22_Shares.l0.eq_2 ..) (evp h1 (evp h0 (evn c1 (evn c2 (evn c3 (evp c4 (Ev.now _))))))), fun _ => Ev.step (fun k => lot_shares.l0.eq_2 ..) (evp h1 (evp h0 (evp h1 (evn c1 (evn c2 (evn c3 (evp c4 (Ev.now _)))))))), fun h => absurd h (by decide)⟩
    obtain ⟨e, q1, q2, q3⟩ := ih (wrap64 (s + (rd_T35 l i).f1))
    rw [← hw] at q1 q2 q3
    by_cases c5 : i > 0
    · have hp := w64_pred h0 (Int.le_of_lt h1) hl
      have p0 : 0 ≤ wrap64 (i - 1) := by rw [hp]; omega
      have p1 : wrap64 (i - 1) < (l.length : Int) := by rw [hp]; omega
      by_cases c6 : (rd_T35 l i).f0 ≤ (rd_T35 l (wrap64 (i - 1))).f0
      · exact ⟨10, Ev.step (fun k => spileref22_Shares.l0.eq_2 ..) (evp h1 (evp h0 (evn c1 (evn c2 (evn c3 (evn c4 (evp c5 (evp p0 (evp p1 (evp c6 (Ev.now _)))))))))) ), fun _ => Ev.step (fun k => lot_shares.l0.eq_2 ..) (evp h1 (evp h0 (evp h1 (evn c1 (evn c2 (evn c3 (evn c4 (evp c5 (evp p0 (evp p1 (evp c6 (Ev.now _))))))))))) ), fun h => absurd h (by decide)⟩
      · refine ⟨e, Ev.step (fun k => spileref22_Shares.l0.eq_2 ..) (evp h1 (evp h0 (evn c1 (evn c2 (evn c3 (evn c4 (evp c5 (evp p0 (evp p1 (evn c6 q1)))))))))), fun h => Ev.step (fun k => lot_shares.l0.eq_2 ..) (evp h1 (evp h0 (evp h1 (evn c1 (evn c2 (evn c3 (evn c4 (evp c5 (evp p0 (evp p1 (evn c6 (q2 h)))))))))))), fun h => ?_⟩
        obtain ⟨t, q4, q5⟩ := q3 h
        exact ⟨t, Ev.step (fun k => spileref22_Alcohol.l0.eq_2 ..) (evp h1 (evp h0 q4)), Ev.step (fun k => lot_shares.l0.eq_2 ..) (evp h1 (evp h0 (evp h1 (evn c1 (evn c2 (evn c3 (evn c4 (evp c5 (evp p0 (evp p1 (evn c6 q5)))))))))))⟩
    · refine ⟨e, Ev.step (fun k => spileref22_Shares.l0.eq_2 ..) (evp h1 (evp h0 (evn c1 (evn c2 (evn c3 (evn c4 (evn c5 q1))))))), fun h => Ev.step (fun k => lot_shares.l0.eq_2 ..) (evp h1 (evp h0 (evp h1 (evn c1 (evn c2 (evn c3 (evn c4 (evn c5 (q2 h))))))))), fun h => ?_⟩
      obtain ⟨t, q4, q5⟩ := q3 h
      exact ⟨t, Ev.step (fun k => spileref22_Alcohol.l0.eq_2 ..) (evp h1 (evp h0 q4)), Ev.step (fun k => lot_shares.l0.eq_2 ..) (evp h1 (evp h0 (evp h1 (evn c1 (evn c2 (evn c3 (evn c4 (evn c5 q5))))))))⟩
/-- What is right in a lot's numbers. -/
def Wf33 (x : S33) : Prop := (-9223372036854775808 ≤ x.f1.f0 ∧ x.f1.f0 ≤ 9223372036854775807) ∧ (-9223372036854775808 ≤ x.f1.f1 ∧ x.f1.f1 ≤ 9223372036854775807) ∧ (x.f2.length : Int) ≤ 9223372036854775807
theorem shares_f_both (x : S33) (h : Wf33 x) : ∃ e, Ev (fun k => spileref22_Shares.f k x.f2) e ∧ (e ≠ 0 → Ev (fun k => lot_shares.f k x.f0 x.f1.f0 x.f1.f1 x.f2) e) ∧
    (e = 0 → ∃ t, Ev (fun k => spileref22_Alcohol.f k x.f2) t ∧ Ev (fun k => lot_shares.f k x.f0 x.f1.f0 x.f1.f1 x.f2) (if t = x.f1.f0 then 0 else 14)) := by
  by_cases c : (x.f2.length : Int) > 32
  · exact ⟨12, evp c (Ev.now _), fun _ => evp c (Ev.now _), fun h => absurd h (by decide)⟩
  · obtain ⟨e, q1, q2, q3⟩ := shares_both x.f2 h.2.2 x.f0 x.f1.f0 x.f1.f1 0 (by omega) (by omega) 0
    refine ⟨e, evn c q1, fun h => evn c (q2 h), fun h => ?_⟩
    obtain ⟨t, q4, q5⟩ := q3 h
    exact ⟨t, q4, evn c q5⟩
/-- A lot's fault, but for its number and place: both sides alike. -/
theorem one_both (x : S33) (h : Wf33 x) : ∃ e, Ev (fun k => spileref22_One.f k x.f0 x.f1.f0 x.f1.f1 x.f2) e ∧ Ev (fun k => lot_fault.j1 k false x.f0 x.f1.f0 x.f1.f1 x.f2) e := by
  have hp := lot_plain_ev x.f1.f0 x.f1.f1 h.1 h.2.1
  by_cases c : PlainP x.f1.f0 x.f1.f1
  · rw [decide_eq_true c] at hp
    have hr : Ev (fun _ : Nat => spileref21_Plain.f x.f1.f0 x.f1.f1) true := evc (fun _ => rfl) (by rw [ref_plain_eq, decide_eq_true c])
    by_cases c2 : x.f1.f1 = 0
    · refine ⟨1, evb hr (evp rfl (Ev.step (fun k => spileref22_One.j0.eq_2 ..) (evp (by simpa using c2) (Ev.now _)))), Ev.step (fun k => lot_fault.j1.eq_2 ..) (evn (by simp) (evb hp (evp rfl (evp c2 (Ev.now _)))))⟩
    · have c3 : ¬ (x.f1.f1 == 0) = true := by simpa using c2
      obtain ⟨e, q1, q2, q3⟩ := shares_f_both x h
      by_cases he : e = 0
      · obtain ⟨t, q4, q5⟩ := q3 he
        refine ⟨if t = x.f1.f0 then 0 else 14, evb hr (evp rfl (Ev.step (fun k => spileref22_One.j0.eq_2 ..) (evn c3 (evb q1 (evp he (evb q4 ?_)))))), Ev.step (fun k => lot_fault.j1.eq_2 ..) (evn (by simp) (evb hp (evp rfl (evn c2 (evb q5 (Ev.now _))))))⟩
        by_cases ht : t = x.f1.f0
        · rw [show (if t = x.f1.f0 then (0 : Int) else 14) = 0 from if_pos ht]; exact evp ht (Ev.now _)
        · rw [show (if t = x.f1.f0 then (0 : Int) else 14) = 14 from if_neg ht]; exact evn ht (Ev.now _)
      · exact ⟨e, evb hr (evp rfl (Ev.step (fun k => spileref22_One.j0.eq_2 ..) (evn c3 (evb q1 (evn he (Ev.now _)))))), Ev.step (fun k => lot_fault.j1.eq_2 ..) (evn (by simp) (evb hp (evp rfl (evn c2 (evb (q2 he) (Ev.now _))))))⟩
  · rw [decide_eq_false c] at hp
    have hr : Ev (fun _ : Nat => spileref21_Plain.f x.f1.f0 x.f1.f1) false := evc (fun _ => rfl) (by rw [ref_plain_eq, decide_eq_false c])
    exact ⟨1, evb hr (evn (by simp) (Ev.step (fun k => spileref22_One.j0.eq_2 ..) (evp rfl (Ev.now _)))), Ev.step (fun k => lot_fault.j1.eq_2 ..) (evn (by simp) (evb hp (evn (by simp) (Ev.now _))))⟩
theorem id_eq (x : Int) : spileref22_ID.f x = some (decide (1 ≤ x ∧ x ≤ 1073741824)) := by
  unfold spileref22_ID.f
  by_cases h : x ≥ 1
  · rw [if_pos h]
    by_cases h2 : x ≤ 1073741824
    · rw [decide_eq_true h2, decide_eq_true (⟨h, h2⟩ : 1 ≤ x ∧ x ≤ 1073741824)]
    · rw [decide_eq_false h2, decide_eq_false (fun q => h2 q.2)]
  · rw [if_neg h, decide_eq_false (fun q => h q.1)]
theorem check_loop (l : List S33) (hl : (l.length : Int) ≤ 9223372036854775807) (hw : ∀ i, 0 ≤ i → i < (l.length : Int) → Wf33 (rd_T33 l i)) : ∀ i, 0 ≤ i → i ≤ (l.length : Int) →
    ∃ r, Ev (fun k => lot_Check.l0 k l (l.length : Int) i) r ∧ Ev (fun k => spileref22_Check.l0 k l i) r := by
  refine count_up 0 (l.length : Int) _ ?_ ?_
  · exact ⟨(-1, 0), Ev.step (fun k => lot_Check.l0.eq_2 ..) (evn (by omega) (Ev.now _)), Ev.step (fun k => spileref22_Check.l0.eq_2 ..) (evn (by omega) (Ev.now _))⟩
  · intro i h0 h1 ih
    obtain ⟨r, q1, q2⟩ := ih
    rw [← w64_succ h0 h1 hl] at q1 q2
    by_cases c1 : (rd_T33 l i).f0 < 1
    · refine ⟨(i, 2), Ev.step (fun k => lot_Check.l0.eq_2 ..) (evp h1 (evb (a := 2) (evp h0 (evp h1 (evp c1 (Ev.step (fun k => lot_fault.j0.eq_2 ..) (evp rfl (Ev.now _)))))) (evn (by decide) (Ev.now _)))), Ev.step (fun k => spileref22_Check.l0.eq_2 ..) (evp h1 (evp h0 (evb (a := false) (evc (fun _ => rfl) ?_) (evn (by simp) (Ev.now _)))))⟩
      rw [id_eq, decide_eq_false (by omega)]
    by_cases c2 : (rd_T33 l i).f0 > 1073741824
    · refine ⟨(i, 2), Ev.step (fun k => lot_Check.l0.eq_2 ..) (evp h1 (evb (a := 2) (evp h0 (evp h1 (evn c1 (Ev.step (fun k => lot_fault.j0.eq_2 ..) (evp (decide_eq_true c2) (Ev.now _)))))) (evn (by decide) (Ev.now _)))), Ev.step (fun k => spileref22_Check.l0.eq_2 ..) (evp h1 (evp h0 (evb (a := false) (evc (fun _ => rfl) ?_) (evn (by simp) (Ev.now _)))))⟩
      rw [id_eq, decide_eq_false (by omega)]
    have hid : Ev (fun _ : Nat => spileref22_ID.f (rd_T33 l i).f0) true := evc (fun _ => rfl) (by rw [id_eq, decide_eq_true (by omega)])
    have c2' : ¬ decide ((rd_T33 l i).f0 > 1073741824) = true := by simpa using c2
    obtain ⟨e, o1, o2⟩ := one_both (rd_T33 l i) (hw i h0 h1)
    have fin : ∀ (g : Nat → Option Int), Ev g e → ∀ (g2 : Nat → Option Int), Ev g2 e → ∃ r2, Ev (fun k => (g k).bind fun t => if t = 0 then lot_Check.l0 k l (l.length : Int) (wrap64 (i + 1)) else some (i, t)) r2 ∧ Ev (fun k => (g2 k).bind fun t => if t = 0 then spileref22_Check.l0 k l (wrap64 (i + 1)) else some (i, t)) r2 := by
      intro g hg g2 hg2
      by_cases he : e = 0
      · exact ⟨r, evb hg (evp he q1), evb hg2 (evp he q2)⟩
      · exact ⟨(i, e), evb hg (evn he (Ev.now _)), evb hg2 (evn he (Ev.now _))⟩
    by_cases c3 : i > 0
    · have hp := w64_pred h0 (Int.le_of_lt h1) hl
      have p0 : 0 ≤ wrap64 (i - 1) := by rw [hp]; omega
      have p1 : wrap64 (i - 1) < (l.length : Int) := by rw [hp]; omega
      by_cases c4 : (rd_T33 l i).f0 ≤ (rd_T33 l (wrap64 (i - 1))).f0
      · have F : Ev (fun k => lot_fault.f k l i) 5 := by
          refine evp h0 (evp h1 (evn c1 (Ev.step (fun k => lot_fault.j0.eq_2 ..) ?_)))
          refine evn c2' (evp c3 (evp p0 (evp p1 (Ev.step (fun k => lot_fault.j1.eq_2 ..) ?_))))
          exact evp (decide_eq_true c4) (Ev.now _)
        refine ⟨(i, 5), Ev.step (fun k => lot_Check.l0.eq_2 ..) (evp h1 (evb F (evn (by decide) (Ev.now _)))), Ev.step (fun k => spileref22_Check.l0.eq_2 ..) (evp h1 (evp h0 (evb hid (evp rfl ?_))))⟩
        exact evp c3 (evp p0 (evp p1 (Ev.step (fun k => spileref22_Check.j1.eq_2 ..) (evp (decide_eq_true c4) (Ev.now _)))))
      · have hd : decide ((rd_T33 l (wrap64 (i - 1))).f0 ≥ (rd_T33 l i).f0) = false := decide_eq_false c4
        have hd2 : ¬ decide ((rd_T33 l i).f0 ≤ (rd_T33 l (wrap64 (i - 1))).f0) = true := by simpa using c4
        have F : Ev (fun k => lot_fault.f k l i) e := by
          refine evp h0 (evp h1 (evn c1 (Ev.step (fun k => lot_fault.j0.eq_2 ..) ?_)))
          refine evn c2' (evp c3 (evp p0 (evp p1 ?_)))
          rw [hd]
          exact o2
        obtain ⟨r2, f1, f2⟩ := fin _ F _ o1
        refine ⟨r2, Ev.step (fun k => lot_Check.l0.eq_2 ..) (evp h1 f1), Ev.step (fun k => spileref22_Check.l0.eq_2 ..) (evp h1 (evp h0 (evb hid (evp rfl ?_))))⟩
        exact evp c3 (evp p0 (evp p1 (Ev.step (fun k => spileref22_Check.j1.eq_2 ..) (evn hd2 (evp h0 (evp h1 f2))))))
    · have F : Ev (fun k => lot_fault.f k l i) e := by
        refine evp h0 (evp h1 (evn c1 (Ev.step (fun k => lot_fault.j0.eq_2 ..) ?_)))
        exact evn c2' (evn c3 o2)
      obtain ⟨r2, f1, f2⟩ := fin _ F _ o1
      refine ⟨r2, Ev.step (fun k => lot_Check.l0.eq_2 ..) (evp h1 f1), Ev.step (fun k => spileref22_Check.l0.eq_2 ..) (evp h1 (evp h0 (evb hid (evp rfl ?_))))⟩
      exact evn c3 (Ev.step (fun k => spileref22_Check.j1.eq_2 ..) (evn (by simp) (evp h0 (evp h1 f2))))
theorem check_both (l : List S33) (hl : (l.length : Int) ≤ 9223372036854775807) (hw : ∀ i, 0 ≤ i → i < (l.length : Int) → Wf33 (rd_T33 l i)) :
    ∃ r, Ev (fun k => lot_Check.f k l) r ∧ Ev (fun k => spileref22_Check.f k l) r := by
  by_cases c : (l.length : Int) > 32
  · exact ⟨(-1, 8), evp c (Ev.now _), evp c (Ev.now _)⟩
  · obtain ⟨r, q1, q2⟩ := check_loop l hl hw 0 (by omega) (by omega)
    exact ⟨r, evn c q1, evn c q2⟩
def Few12 (l : List S35) : Prop := (l.length : Int) ≤ 12 ∨ (32 < (l.length : Int) ∧ (l.length : Int) ≤ 37)
instance (l : List S35) : Decidable (Few12 l) := by unfold Few12; infer_instance
theorem fewShares_eq (l : List S35) : spileref22_FewShares.f l = some (decide (Few12 l)) := by
  unfold spileref22_FewShares.f
  by_cases c : (l.length : Int) ≤ 12
  · rw [if_pos c, decide_eq_true (show Few12 l from Or.inl c)]
  · rw [if_neg c]
    by_cases c2 : (l.length : Int) > 32
    · rw [if_pos c2]
      by_cases c3 : (l.length : Int) ≤ 37
      · rw [decide_eq_true c3, decide_eq_true (show Few12 l from Or.inr ⟨c2, c3⟩)]
      · rw [decide_eq_false c3, decide_eq_false (show ¬ Few12 l from by unfold Few12; omega)]
    · rw [if_neg c2, decide_eq_false (show ¬ Few12 l from by unfold Few12; omega)]
theorem few_ev (l : List S33) (hl : (l.length : Int) ≤ 9223372036854775807) : ∃ b, Ev (fun k => spileref22_Few.f k l) b ∧ (b = true → (l.length : Int) ≤ 37 ∧ ∀ i, 0 ≤ i → i < (l.length : Int) → Few12 (rd_T33 l i).f2) := by
  have loop : ∀ i, 0 ≤ i → i ≤ (l.length : Int) → ∃ b, Ev (fun k => spileref22_Few.l0 k l i) b ∧ (b = true → ∀ j, i ≤ j → j < (l.length : Int) → Few12 (rd_T33 l j).f2) := by
    refine count_up 0 (l.length : Int) _ ?_ ?_
    · exact ⟨true, Ev.step (fun k => spileref22_Few.l0.eq_2 ..) (evn (by omega) (Ev.now _)), fun _ j g0 g1 => by omega⟩
    · intro i h0 h1 ih
      obtain ⟨b, q1, q2⟩ := ih
      rw [← w64_succ h0 h1 hl] at q1
      by_cases c : Few12 (rd_T33 l i).f2
      · refine ⟨b, Ev.step (fun k => spileref22_Few.l0.eq_2 ..) (evp h1 (evp h0 (evb (a := true) (evc (fun _ => rfl) (by rw [fewShares_eq, decide_eq_true c])) (evp rfl q1)))), fun hb j g0 g1 => ?_⟩
        by_cases e : j = i
        · rw [e]; exact c
        · exact q2 hb j (by omega) g1
      · exact ⟨false, Ev.step (fun k => spileref22_Few.l0.eq_2 ..) (evp h1 (evp h0 (evb (a := false) (evc (fun _ => rfl) (by rw [fewShares_eq, decide_eq_false c])) (evn (by simp) (Ev.now _))))), fun h => by cases h⟩
  obtain ⟨b, q1, q2⟩ := loop 0 (by omega) (by omega)
  have tail : ∃ b, Ev (fun k => spileref22_Few.j0 k l (decide ((l.length : Int) > 37))) b ∧ (b = true → (l.length : Int) ≤ 37 ∧ ∀ i, 0 ≤ i → i < (l.length : Int) → Few12 (rd_T33 l i).f2) := by
    by_cases c : (l.length : Int) > 37
    · exact ⟨false, Ev.step (fun k => spileref22_Few.j0.eq_2 ..) (evp (decide_eq_true c) (Ev.now _)), fun h => by cases h⟩
    · exact ⟨b, Ev.step (fun k => spileref22_Few.j0.eq_2 ..) (evn (by simpa using c) q1), fun hb => ⟨by omega, q2 hb⟩⟩
  obtain ⟨b2, t1, t2⟩ := tail
  by_cases c : (l.length : Int) > 8
  · by_cases c2 : (l.length : Int) ≤ 32
    · exact ⟨false, evp c (evp c2 (Ev.step (fun k => spileref22_Few.j0.eq_2 ..) (evp rfl (Ev.now _)))), fun h => by cases h⟩
    · exact ⟨b2, evp c (evn c2 t1), t2⟩
  · exact ⟨b2, evn c t1, t2⟩
end Go.Proofs.YtgjoenoknknoiaaDoor.PL
namespace Go.Proofs.YtgjoenoknknoiaaDoor.PL
open Go Go.RowKit Go.Proofs.YtgjoenoknknoiaaDoorW.PrintWords Go.Proofs.YtgjoenoknknoiaaDoorW.PrintLast Go.Proofs.YtgjoenoknknoiaaDoorW.PrintMore Go.Proofs.YtgjoenoknknoiaaDoor.Pr Go.Proofs.YtgjoenoknknoiaaDoor.Opn
theorem rd33 (l : List S33) (i : Nat) (h : i < l.length) : rd_T33 l (i : Int) = l[i] := by
  unfold rd_T33
  simp [List.getD_eq_getElem?_getD, List.getElem?_eq_getElem h]
theorem rd33_mem {l : List S33} {i : Int} (h0 : 0 ≤ i) (h1 : i < (l.length : Int)) : rd_T33 l i ∈ l := by
  have e : i = ((i.toNat : Nat) : Int) := by omega
  rw [e, rd33 l i.toNat (by omega)]
  exact List.getElem_mem _
theorem mem_rd33 {l : List S33} {x : S33} (h : x ∈ l) : ∃ i : Int, 0 ≤ i ∧ i < (l.length : Int) ∧ rd_T33 l i = x := by
  obtain ⟨i, hi, e⟩ := List.mem_iff_getElem.1 h
  exact ⟨(i : Int), by omega, by omega, by rw [rd33 l i hi, e]⟩
theorem drop_next {l : List S33} {i : Int} (h0 : 0 ≤ i) (h1 : i < (l.length : Int)) : l.drop i.toNat = rd_T33 l i :: l.drop (i + 1).toNat := by
  have e : i = ((i.toNat : Nat) : Int) := by omega
  have g : rd_T33 l i = l[i.toNat]'(by omega) := by rw [← rd33 l i.toNat (by omega), ← e]
  rw [g, show (i + 1).toNat = i.toNat + 1 from by omega, ← List.drop_eq_getElem_cons]
def IdP (x : S33) : Prop := 1 ≤ x.f0 ∧ x.f0 ≤ 1073741824
instance (x : S33) : Decidable (IdP x) := by unfold IdP; infer_instance
def Fine (x : S33) : Prop := Ev (fun k => spileref22_One.f k x.f0 x.f1.f0 x.f1.f1 x.f2) 0
def Up (l : List S33) : Prop := l.Pairwise (fun a b => a.f0 < b.f0)
def RightL (l : List S33) : Prop := (l.length : Int) ≤ 32 ∧ Up l ∧ ∀ x, x ∈ l → IdP x ∧ Fine x
def At (l : List S33) (j : Int) : Prop := IdP (rd_T33 l j) ∧ (0 < j → (rd_T33 l (j - 1)).f0 < (rd_T33 l j).f0) ∧ Fine (rd_T33 l j)
theorem check_sem (l : List S33) (hl : (l.length : Int) ≤ 9223372036854775807) (hw : ∀ i, 0 ≤ i → i < (l.length : Int) → Wf33 (rd_T33 l i)) : ∀ i, 0 ≤ i → i ≤ (l.length : Int) →
    ∃ r, Ev (fun k => spileref22_Check.l0 k l i) r ∧ (r.2 = 0 ↔ ∀ j, i ≤ j → j < (l.length : Int) → At l j) := by
  refine count_up 0 (l.length : Int) _ ?_ ?_
  · exact ⟨(-1, 0), Ev.step (fun k => spileref22_Check.l0.eq_2 ..) (evn (by omega) (Ev.now _)), fun _ j h0 h1 => by omega, fun _ => rfl⟩
  · intro i h0 h1 ih
    obtain ⟨r, q1, q2⟩ := ih
    rw [← w64_succ h0 h1 hl] at q1
    have bad : ∀ e : Int, e ≠ 0 → ¬ At l i → (((i, e) : Int × Int).2 = 0 ↔ ∀ j, i ≤ j → j < (l.length : Int) → At l j) := fun e he hn => ⟨fun h => absurd h he, fun h => absurd (h i (by omega) h1) hn⟩
    have good : At l i → (r.2 = 0 ↔ ∀ j, i ≤ j → j < (l.length : Int) → At l j) := fun hi => ⟨fun h j g0 g1 => by
      by_cases e : j = i
      · rw [e]; exact hi
      · exact q2.1 h j (by omega) g1, fun h => q2.2 (fun j g0 g1 => h j (by omega) g1)⟩
    by_cases c : IdP (rd_T33 l i)
    · have hid : Ev (fun _ : Nat => spileref22_ID.f (rd_T33 l i).f0) true := evc (fun _ => rfl) (by rw [id_eq]; exact congrArg some (decide_eq_true c))
      obtain ⟨e, o1, _⟩ := one_both (rd_T33 l i) (hw i h0 h1)
      by_cases c3 : i > 0
      · have hp := w64_pred h0 (Int.le_of_lt h1) hl
        have p0 : 0 ≤ wrap64 (i - 1) := by rw [hp]; omega
        have p1 : wrap64 (i - 1) < (l.length : Int) := by rw [hp]; omega
        by_cases c4 : (rd_T33 l i).f0 ≤ (rd_T33 l (wrap64 (i - 1))).f0
        · refine ⟨(i, 5), Ev.step (fun k => spileref22_Check.l0.eq_2 ..) (evp h1 (evp h0 (evb hid (evp rfl ?_)))), bad 5 (by decide) (fun h => ?_)⟩
          · exact evp c3 (evp p0 (evp p1 (Ev.step (fun k => spileref22_Check.j1.eq_2 ..) (evp (decide_eq_true c4) (Ev.now _)))))
          · have := h.2.1 c3
            rw [hp] at c4
            omega
        · have hd2 : ¬ decide ((rd_T33 l i).f0 ≤ (rd_T33 l (wrap64 (i - 1))).f0) = true := by simpa using c4
          by_cases he : e = 0
          · refine ⟨r, Ev.step (fun k => spileref22_Check.l0.eq_2 ..) (evp h1 (evp h0 (evb hid (evp rfl ?_)))), good ⟨c, fun _ => ?_, ?_⟩⟩
            · exact evp c3 (evp p0 (evp p1 (Ev.step (fun k => spileref22_Check.j1.eq_2 ..) (evn hd2 (evp h0 (evp h1 (evb o1 (evp he q1))))))))
            · rw [hp] at c4
              omega
            · subst he; exact o1
          · refine ⟨(i, e), Ev.step (fun k => spileref22_Check.l0.eq_2 ..) (evp h1 (evp h0 (evb hid (evp rfl ?_)))), bad e he (fun h => he (ev_unique o1 h.2.2))⟩
            exact evp c3 (evp p0 (evp p1 (Ev.step (fun k => spileref22_Check.j1.eq_2 ..) (evn hd2 (evp h0 (evp h1 (evb o1 (evn he (Ev.now _)))))))))
      · by_cases he : e = 0
        · refine ⟨r, Ev.step (fun k => spileref22_Check.l0.eq_2 ..) (evp h1 (evp h0 (evb hid (evp rfl ?_)))), good ⟨c, fun h => absurd h c3, ?_⟩⟩
          · exact evn c3 (Ev.step (fun k => spileref22_Check.j1.eq_2 ..) (evn (by simp) (evp h0 (evp h1 (evb o1 (evp he q1))))))
          · subst he; exact o1
        · refine ⟨(i, e), Ev.step (fun k => spileref22_Check.l0.eq_2 ..) (evp h1 (evp h0 (evb hid (evp rfl ?_)))), bad e he (fun h => he (ev_unique o1 h.2.2))⟩
          exact evn c3 (Ev.step (fun k => spileref22_Check.j1.eq_2 ..) (evn (by simp) (evp h0 (evp h1 (evb o1 (evn he (Ev.now _)))))))
    · refine ⟨(i, 2), Ev.step (fun k => spileref22_Check.l0.eq_2 ..) (evp h1 (evp h0 (evb (a := false) (evc (fun _ => rfl) ?_) (evn (by simp) (Ev.now _))))), bad 2 (by decide) (fun h => c h.1)⟩
      rw [id_eq]; exact congrArg some (decide_eq_false c)
theorem up_of (l : List S33) (h : ∀ j, 0 ≤ j → j < (l.length : Int) → At l j) : Up l := by
  refine List.pairwise_iff_getElem.2 ?_
  have key : ∀ d i : Nat, (hi : i + d + 1 < l.length) → (l[i]'(by omega)).f0 < (l[i + d + 1]'hi).f0 := by
    intro d
    induction d with
    | zero =>
      intro i hi
      have := (h ((i + 1 : Nat) : Int) (by omega) (by omega)).2.1 (by omega)
      rw [rd33 l (i + 1) hi, show (((i + 1 : Nat) : Int) - 1) = (i : Int) from by omega, rd33 l i (by omega)] at this
      exact this
    | succ d ih =>
      intro i hi
      have a := ih i (by omega)
      have := (h ((i + d + 1 + 1 : Nat) : Int) (by omega) (by omega)).2.1 (by omega)
      rw [rd33 l (i + d + 1 + 1) (by omega), show (((i + d + 1 + 1 : Nat) : Int) - 1) = ((i + d + 1 : Nat) : Int) from by omega, rd33 l (i + d + 1) (by omega)] at this
      exact Int.lt_trans a this
  intro i j hi hj hij
  obtain ⟨d, rfl⟩ : ∃ d, j = i + d + 1 := ⟨j - i - 1, by omega⟩
  exact key d i hj
theorem up_lt {l : List S33} (h : Up l) {i j : Int} (h0 : 0 ≤ i) (h1 : i < j) (h2 : j < (l.length : Int)) : (rd_T33 l i).f0 < (rd_T33 l j).f0 := by
  have e : i = ((i.toNat : Nat) : Int) := by omega
  have e2 : j = ((j.toNat : Nat) : Int) := by omega
  rw [e, e2, rd33 l i.toNat (by omega), rd33 l j.toNat (by omega)]
  exact List.pairwise_iff_getElem.1 h i.toNat j.toNat (by omega) (by omega) (by omega)
theorem at_iff (l : List S33) : (∀ j, 0 ≤ j → j < (l.length : Int) → At l j) ↔ Up l ∧ ∀ x, x ∈ l → IdP x ∧ Fine x := by
  constructor
  · intro h
    refine ⟨up_of l h, fun x hx => ?_⟩
    obtain ⟨i, h0, h1, rfl⟩ := mem_rd33 hx
    exact ⟨(h i h0 h1).1, (h i h0 h1).2.2⟩
  · intro h j h0 h1
    have hm := h.2 _ (rd33_mem h0 h1)
    exact ⟨hm.1, fun hj => up_lt h.1 (by omega) (by omega) h1, hm.2⟩
theorem check_iff (l : List S33) (hl : (l.length : Int) ≤ 9223372036854775807) (hw : ∀ i, 0 ≤ i → i < (l.length : Int) → Wf33 (rd_T33 l i)) :
    ∃ r, Ev (fun k => lot_Check.f k l) r ∧ Ev (fun k => spileref22_Check.f k l) r ∧ (r.2 = 0 ↔ RightL l) := by
  obtain ⟨r, q1, q2⟩ := check_both l hl hw
  refine ⟨r, q1, q2, ?_⟩
  by_cases c : (l.length : Int) > 32
  · have : Ev (fun k => spileref22_Check.f k l) (-1, 8) := evp c (Ev.now _)
    rw [ev_unique q2 this]
    exact ⟨fun h => absurd h (by decide), fun h => absurd h.1 (by omega)⟩
  · obtain ⟨r2, p1, p2⟩ := check_sem l hl hw 0 (by omega) (by omega)
    have : Ev (fun k => spileref22_Check.f k l) r2 := evn c p1
    rw [ev_unique q2 this, p2, at_iff]
    exact ⟨fun h => ⟨by omega, h⟩, fun h => h.2⟩
theorem right_iff (l : List S33) (hl : (l.length : Int) ≤ 9223372036854775807) (hw : ∀ i, 0 ≤ i → i < (l.length : Int) → Wf33 (rd_T33 l i)) :
    ∃ b, Ev (fun k => lot_right.f k l) b ∧ Ev (fun k => spileref22_Right.f k l) b ∧ (b = true ↔ RightL l) := by
  obtain ⟨r, q1, q2, q3⟩ := check_iff l hl hw
  exact ⟨r.2 == 0, evb q1 (Ev.now _), evb q2 (Ev.now _), by rw [← q3]; simp⟩
theorem wf_all (l : List S33) (h : l.length ≤ maxLen ∧ ∀ x, x ∈ l → ok33 x) : ∀ i, 0 ≤ i → i < (l.length : Int) → Wf33 (rd_T33 l i) := by
  intro i h0 h1
  obtain ⟨_, ⟨a, b⟩, c, _⟩ := h.2 _ (rd33_mem h0 h1)
  exact ⟨wf64 a, wf64 b, len_le c⟩
end Go.Proofs.YtgjoenoknknoiaaDoor.PL
namespace Go.Proofs.YtgjoenoknknoiaaDoor.PL
open Go Go.RowKit Go.Proofs.YtgjoenoknknoiaaDoorW.PrintWords Go.Proofs.YtgjoenoknknoiaaDoorW.PrintLast Go.Proofs.YtgjoenoknknoiaaDoorW.PrintMore Go.Proofs.YtgjoenoknknoiaaDoor.Pr Go.Proofs.YtgjoenoknknoiaaDoor.Opn Go.Proofs.YtgjoenoknknoiaaDoor.X
def prs (l : List S35) : List (Int × Int) := l.map fun s => (s.f0, s.f1)
theorem drop35 (l : List S35) {i : Int} (h0 : 0 ≤ i) (h1 : i < (l.length : Int)) : l.drop i.toNat = rd_T35 l i :: l.drop (i + 1).toNat := by
  have hn : i.toNat < l.length := by omega
  have e : rd_T35 l i = l[i.toNat] := by
    unfold rd_T35
    rw [List.getD_eq_getElem?_getD, List.getElem?_eq_getElem hn]
    rfl
  rw [e, show (i + 1).toNat = i.toNat + 1 from by omega]
  exact List.drop_eq_getElem_cons hn
theorem mem35 (l : List S35) {s : S35} (h : s ∈ l) : ∃ i : Int, 0 ≤ i ∧ i < (l.length : Int) ∧ rd_T35 l i = s := by
  obtain ⟨n, hn, rfl⟩ := List.getElem_of_mem h
  refine ⟨(n : Int), by omega, by omega, ?_⟩
  unfold rd_T35
  rw [List.getD_eq_getElem?_getD, Int.toNat_natCast, List.getElem?_eq_getElem hn]
  rfl
def ShareP (s : S35) : Prop := 1 ≤ s.f0 ∧ s.f0 ≤ 1073741824 ∧ 1 ≤ s.f1 ∧ s.f1 ≤ 10737418240000
theorem shares_sem (l : List S35) (hl : (l.length : Int) ≤ 9223372036854775807) : ∀ i, 0 ≤ i → i ≤ (l.length : Int) →
    ∃ e, Ev (fun k => spileref22_Shares.l0 k l i) e ∧ (e = 0 → ∀ j, i ≤ j → j < (l.length : Int) → ShareP (rd_T35 l j)) := by
  refine count_up 0 (l.length : Int) _ ?_ ?_
  · exact ⟨0, Ev.step (fun k => spileref22_Shares.l0.eq_2 ..) (evn (by omega) (Ev.now _)), fun _ j g0 g1 => by omega⟩
  · intro i h0 h1 ih
    have hw := w64_succ h0 h1 hl
    by_cases c1 : (rd_T35 l i).f0 < 1
    · exact ⟨10, Ev.step (fun k => spileref22_Shares.l0.eq_2 ..) (evp h1 (evp h0 (evp c1 (Ev.now _)))), fun h => absurd h (by decide)⟩
    by_cases c2 : (rd_T35 l i).f0 > 1073741824
    · exact ⟨10, Ev.step (fun k => spileref22_Shares.l0.eq_2 ..) (evp h1 (evp h0 (evn c1 (evp c2 (Ev.now _))))), fun h => absurd h (by decide)⟩
    by_cases c3 : (rd_T35 l i).f1 < 1
    · exact ⟨10, Ev.step (fun k => spileref22_Shares.l0.eq_2 ..) (evp h1 (evp h0 (evn c1 (evn c2 (evp c3 (Ev.now _)))))), fun h => absurd h (by decide)⟩
    by_cases c4 : (rd_T35 l i).f1 > 10737418240000
    · exact ⟨10, Ev.step (fun k => spileref22_Shares.l0.eq_2 ..) (evp h1 (evp h0 (evn c1 (evn c2 (evn c3 (evp c4 (Ev.now _))))))), fun h => absurd h (by decide)⟩
    obtain ⟨e, q1, q2⟩ := ih
    have here : ShareP (rd_T35 l i) := ⟨by omega, by omega, by omega, by omega⟩
    have all : e = 0 → ∀ j, i ≤ j → j < (l.length : Int) → ShareP (rd_T35 l j) := fun he j g0 g1 => by
      by_cases ej : j = i
      · rw [ej]; exact here
      · exact q2 he j (by omega) g1
    rw [← hw] at q1
    by_cases c5 : i > 0
    · have hp := w64_pred h0 (Int.le_of_lt h1) hl
      have p0 : 0 ≤ wrap64 (i - 1) := by rw [hp]; omega
      have p1 : wrap64 (i - 1) < (l.length : Int) := by rw [hp]; omega
      by_cases c6 : (rd_T35 l i).f0 ≤ (rd_T35 l (wrap64 (i - 1))).f0
      · exact ⟨10, Ev.step (fun k => spileref22_Shares.l0.eq_2 ..) (evp h1 (evp h0 (evn c1 (evn c2 (evn c3 (evn c4 (evp c5 (evp p0 (evp p1 (evp c6 (Ev.now _)))))))))) ), fun h => absurd h (by decide)⟩
      · exact ⟨e, Ev.step (fun k => spileref22_Shares.l0.eq_2 ..) (evp h1 (evp h0 (evn c1 (evn c2 (evn c3 (evn c4 (evp c5 (evp p0 (evp p1 (evn c6 q1)))))))))), all⟩
    · exact ⟨e, Ev.step (fun k => spileref22_Shares.l0.eq_2 ..) (evp h1 (evp h0 (evn c1 (evn c2 (evn c3 (evn c4 (evn c5 q1))))))), all⟩
theorem in64 {x : Int} : wrap64 x = x ↔ -9223372036854775808 ≤ x ∧ x ≤ 9223372036854775807 := ⟨fun h => by unfold wrap64 at h; omega, fun h => w64 h.1 h.2⟩
theorem wrap_add2 (a b : Int) : wrap64 (wrap64 a + b) = wrap64 (a + b) := by unfold wrap64; omega
theorem wrap_in (x : Int) : wrap64 (wrap64 x) = wrap64 x := by unfold wrap64; omega
theorem alc_sem (l : List S35) (hl : (l.length : Int) ≤ 9223372036854775807) : ∀ i, 0 ≤ i → i ≤ (l.length : Int) → ∀ s, wrap64 s = s → Ev (fun k => spileref22_Alcohol.l0 k l s i) (wrap64 (s + totS (prs (l.drop i.toNat)))) := by
  refine count_up 0 (l.length : Int) _ ?_ ?_
  · intro s hs
    rw [List.drop_eq_nil_of_le (by omega)]
    refine Ev.step (fun k => spileref22_Alcohol.l0.eq_2 ..) (evn (by omega) (evr ?_))
    show s = wrap64 (s + 0)
    rw [Int.add_zero, hs]
  · intro i h0 h1 ih s hs
    have q := ih (wrap64 (s + (rd_T35 l i).f1)) (wrap_in _)
    rw [← w64_succ h0 h1 hl, wrap_add2] at q
    rw [drop35 l h0 h1]
    have e : totS (prs (rd_T35 l i :: l.drop (i + 1).toNat)) = (rd_T35 l i).f1 + totS (prs (l.drop (i + 1).toNat)) := rfl
    rw [e, ← Int.add_assoc]
    rw [w64_succ h0 h1 hl] at q
    refine Ev.step (fun k => spileref22_Alcohol.l0.eq_2 ..) (evp h1 (evp h0 ?_))
    rw [w64_succ h0 h1 hl]
    exact q
theorem totS_bound (M : Int) (hM : 0 ≤ M) : ∀ l : List (Int × Int), (∀ p, p ∈ l → 0 ≤ p.2 ∧ p.2 ≤ M) → 0 ≤ totS l ∧ totS l ≤ M * (l.length : Int)
  | [], _ => by simp [totS]
  | x :: r, h => by
    obtain ⟨a, b⟩ := totS_bound M hM r (fun p hp => h p (by simp [hp]))
    obtain ⟨c, d⟩ := h x (by simp)
    have e : M * ((x :: r).length : Int) = M * (r.length : Int) + M := by
      rw [List.length_cons]; push_cast; rw [Int.mul_add, Int.mul_one]
    rw [e]
    simp only [totS]
    omega
theorem fine_sem {x : S33} (hw : Wf33 x) (h : Fine x) : x.f2.length ≤ 32 ∧ (∀ s, s ∈ x.f2 → ShareP s) ∧ x.f1.f0 = totS (prs x.f2) ∧ PlainP x.f1.f0 x.f1.f1 := by
  unfold Fine at h
  have go : ∀ e, Ev (fun k => spileref22_One.f k x.f0 x.f1.f0 x.f1.f1 x.f2) e → e = 0 := fun e he => ev_unique he h
  by_cases c : PlainP x.f1.f0 x.f1.f1
  case neg =>
    have hr : Ev (fun _ : Nat => spileref21_Plain.f x.f1.f0 x.f1.f1) false := evc (fun _ => rfl) (by rw [ref_plain_eq, decide_eq_false c])
    exact absurd (go 1 (evb hr (evn (by simp) (Ev.step (fun k => spileref22_One.j0.eq_2 ..) (evp rfl (Ev.now _)))))) (by decide)
  have hr : Ev (fun _ : Nat => spileref21_Plain.f x.f1.f0 x.f1.f1) true := evc (fun _ => rfl) (by rw [ref_plain_eq, decide_eq_true c])
  by_cases c2 : x.f1.f1 = 0
  · exact absurd (go 1 (evb hr (evp rfl (Ev.step (fun k => spileref22_One.j0.eq_2 ..) (evp (by simpa using c2) (Ev.now _)))))) (by decide)
  have c3 : ¬ (x.f1.f1 == 0) = true := by simpa using c2
  have inner : ∀ e, Ev (fun k => (spileref22_Shares.f k x.f2).bind fun t158 => (if t158 = 0 then ((spileref22_Alcohol.f k x.f2).bind fun t159 => (if t159 = x.f1.f0 then (some 0) else (some 14))) else (some t158))) e → e = 0 := fun e he =>
    go e (evb hr (evp rfl (Ev.step (fun k => spileref22_One.j0.eq_2 ..) (evn c3 he))))
  by_cases c4 : (x.f2.length : Int) > 32
  · have hs : Ev (fun k => spileref22_Shares.f k x.f2) 12 := evp c4 (Ev.now _)
    exact absurd (inner 12 (evb hs (evn (by decide) (Ev.now _)))) (by decide)
  obtain ⟨e, q1, q2⟩ := shares_sem x.f2 hw.2.2 0 (by omega) (by omega)
  have hs : Ev (fun k => spileref22_Shares.f k x.f2) e := evn c4 q1
  by_cases he : e = 0
  case neg => exact absurd (inner e (evb hs (evn he (Ev.now _)))) he
  have hall : ∀ s, s ∈ x.f2 → ShareP s := fun s hs => by
    obtain ⟨i, g0, g1, rfl⟩ := mem35 x.f2 hs
    exact q2 he i g0 g1
  have ha := alc_sem x.f2 hw.2.2 0 (by omega) (by omega) 0 ((in64).2 (by omega))
  rw [show (0 : Int).toNat = 0 from rfl, List.drop_zero, Int.zero_add] at ha
  obtain ⟨b1, b2⟩ := totS_bound 10737418240000 (by omega) (prs x.f2) (fun p hp => by
    obtain ⟨s, hs, rfl⟩ := List.mem_map.1 hp
    have := hall s hs
    exact ⟨by have := this.2.2.1; show 0 ≤ s.f1; omega, this.2.2.2⟩)
  have hlen : (prs x.f2).length = x.f2.length := by unfold prs; rw [List.length_map]
  have hlen' : ((prs x.f2).length : Int) ≤ 32 := by rw [hlen]; omega
  have hb : totS (prs x.f2) ≤ 10737418240000 * 32 := Int.le_trans b2 (Int.mul_le_mul_of_nonneg_left hlen' (by omega))
  rw [w64 (by omega) (by omega)] at ha
  have hal : Ev (fun k => spileref22_Alcohol.f k x.f2) (totS (prs x.f2)) := ha
  by_cases c5 : totS (prs x.f2) = x.f1.f0
  · exact ⟨by omega, hall, c5.symm, c⟩
  · exact absurd (inner 14 (evb hs (evp he (evb hal (evn c5 (Ev.now _)))))) (by decide)
theorem drop33 (l : List S33) {i : Int} (h0 : 0 ≤ i) (h1 : i < (l.length : Int)) : l.drop i.toNat = rd_T33 l i :: l.drop (i + 1).toNat := drop_next h0 h1
theorem pairs_cons (x : S33) (r : List S33) : pairsL (x :: r) = prs x.f2 ++ pairsL r := rfl
theorem of_sem (l : List S33) (hl : (l.length : Int) ≤ 9223372036854775807) (hw : ∀ i, 0 ≤ i → i < (l.length : Int) → Wf33 (rd_T33 l i)) (f : Int) : ∀ i, 0 ≤ i → i ≤ (l.length : Int) → ∀ s, wrap64 s = s →
    Ev (fun k => lot_Of.l0 k f s l (l.length : Int) i) (wrap64 (s + ofS (pairsL (l.drop i.toNat)) f), 0) := by
  refine count_up 0 (l.length : Int) _ ?_ ?_
  · intro s hs
    rw [List.drop_eq_nil_of_le (by omega)]
    refine Ev.step (fun k => lot_Of.l0.eq_2 ..) (evn (by omega) (evr ?_))
    have e : ofS (pairsL []) f = 0 := rfl
    rw [e, Int.add_zero, hs]
  · intro i h0 h1 ih s hs
    have hm := (hw i h0 h1).2.2
    have inner : ∀ j, 0 ≤ j → j ≤ ((rd_T33 l i).f2.length : Int) → ∀ s, wrap64 s = s → Ev (fun k => lot_Of.l1 k f s l (l.length : Int) i (rd_T33 l i).f2 ((rd_T33 l i).f2.length : Int) j) (wrap64 (s + (ofS (prs ((rd_T33 l i).f2.drop j.toNat)) f + ofS (pairsL (l.drop (i + 1).toNat)) f)), 0) := by
      refine count_up 0 ((rd_T33 l i).f2.length : Int) _ ?_ ?_
      · intro s hs
        rw [List.drop_eq_nil_of_le (by omega)]
        have q := ih s hs
        have e : ofS (prs []) f = 0 := rfl
        rw [e, Int.zero_add]
        refine Ev.step (fun k => lot_Of.l1.eq_2 ..) (evn (by omega) ?_)
        rw [w64_succ h0 h1 hl]
        exact q
      · intro j g0 g1 ih2 s hs
        rw [drop35 _ g0 g1]
        by_cases c : (rd_T35 (rd_T33 l i).f2 j).f0 = f
        · have q := ih2 (wrap64 (s + (rd_T35 (rd_T33 l i).f2 j).f1)) (wrap_in _)
          rw [wrap_add2] at q
          have e : ofS (prs (rd_T35 (rd_T33 l i).f2 j :: (rd_T33 l i).f2.drop (j + 1).toNat)) f = (rd_T35 (rd_T33 l i).f2 j).f1 + ofS (prs ((rd_T33 l i).f2.drop (j + 1).toNat)) f := by
            show (if (rd_T35 (rd_T33 l i).f2 j).f0 = f then (rd_T35 (rd_T33 l i).f2 j).f1 else 0) + ofS (prs ((rd_T33 l i).f2.drop (j + 1).toNat)) f = _
            rw [if_pos c]
          rw [e, Int.add_assoc, ← Int.add_assoc]
          refine Ev.step (fun k => lot_Of.l1.eq_2 ..) (evp g1 (evp g0 (evp g1 (evp c ?_))))
          rw [w64_succ g0 g1 hm]
          exact q
        · have q := ih2 s hs
          have e : ofS (prs (rd_T35 (rd_T33 l i).f2 j :: (rd_T33 l i).f2.drop (j + 1).toNat)) f = ofS (prs ((rd_T33 l i).f2.drop (j + 1).toNat)) f := by
            show (if (rd_T35 (rd_T33 l i).f2 j).f0 = f then (rd_T35 (rd_T33 l i).f2 j).f1 else 0) + ofS (prs ((rd_T33 l i).f2.drop (j + 1).toNat)) f = _
            rw [if_neg c, Int.zero_add]
          rw [e]
          refine Ev.step (fun k => lot_Of.l1.eq_2 ..) (evp g1 (evp g0 (evp g1 (evn c ?_))))
          rw [w64_succ g0 g1 hm]
          exact q
    have q := inner 0 (by omega) (by omega) s hs
    rw [show (0 : Int).toNat = 0 from rfl, List.drop_zero] at q
    rw [drop33 l h0 h1, pairs_cons, ofS_append]
    exact Ev.step (fun k => lot_Of.l0.eq_2 ..) (evp h1 (evp h0 (evp h1 q)))
def aTo (l : List S33) : Nat → Int
  | 0 => 0
  | i + 1 => wrap64 (aTo l i + (rd_T33 l (i : Int)).f1.f0)
theorem aTo_in (l : List S33) : ∀ i, wrap64 (aTo l i) = aTo l i
  | 0 => (in64).2 (by simp only [aTo]; omega)
  | i + 1 => wrap_in _
theorem mTo_in (l : List S33) : ∀ i, wrap64 (mTo l i) = mTo l i
  | 0 => (in64).2 (by simp only [mTo]; omega)
  | i + 1 => wrap_in _
theorem total_sem (l : List S33) (hl : (l.length : Int) ≤ 9223372036854775807) : ∀ i, 0 ≤ i → i ≤ (l.length : Int) →
    Ev (fun k => lot_Total.l0 k l (l.length : Int) i (aTo l i.toNat) (mTo l i.toNat)) (if PlainP (aTo l l.length) (mTo l l.length) then (aTo l l.length, mTo l l.length, 0) else (0, 0, 15)) := by
  refine count_up 0 (l.length : Int) _ ?_ ?_
  · rw [Int.toNat_natCast]
    have hp := lot_plain_ev (aTo l l.length) (mTo l l.length) ((in64).1 (aTo_in l _)) ((in64).1 (mTo_in l _))
    refine Ev.step (fun k => lot_Total.l0.eq_2 ..) (evn (by omega) (evb hp ?_))
    by_cases c : PlainP (aTo l l.length) (mTo l l.length)
    · rw [if_pos c]; exact evp (decide_eq_true c) (Ev.now _)
    · rw [if_neg c]; exact evn (by simp [c]) (Ev.now _)
  · intro i h0 h1 ih
    have e1 : (i + 1).toNat = i.toNat + 1 := by omega
    have e2 : ((i.toNat : Nat) : Int) = i := by omega
    refine Ev.step (fun k => lot_Total.l0.eq_2 ..) (evp h1 (evp h0 (evp h1 ?_)))
    rw [w64_succ h0 h1 hl]
    rw [e1] at ih
    have a1 : aTo l (i.toNat + 1) = wrap64 (aTo l i.toNat + (rd_T33 l i).f1.f0) := by simp only [aTo]; rw [e2]
    have a2 : mTo l (i.toNat + 1) = wrap64 (mTo l i.toNat + (rd_T33 l i).f1.f1) := by simp only [mTo]; rw [e2]
    rw [a1, a2] at ih
    exact ih
theorem rd33n (l : List S33) (i : Nat) (h : i < l.length) : rd_T33 l (i : Int) ∈ l ∧ l.take (i + 1) = l.take i ++ [rd_T33 l (i : Int)] := by
  rw [rd33 l i h]
  exact ⟨List.getElem_mem _, List.take_succ_eq_append_getElem h⟩
theorem aTo_eq (l : List S33) (hn : l.length ≤ 37) (h : ∀ x, x ∈ l → x.f1.f0 = totS (prs x.f2) ∧ 0 ≤ x.f1.f0 ∧ x.f1.f0 ≤ 10737418240000) : ∀ i, i ≤ l.length → aTo l i = totS (pairsL (l.take i)) ∧ 0 ≤ aTo l i ∧ aTo l i ≤ 10737418240000 * (i : Int)
  | 0, _ => by simp [aTo, pairsL, totS]
  | i + 1, hi => by
    obtain ⟨a, b, c⟩ := aTo_eq l hn h i (by omega)
    obtain ⟨m1, m2⟩ := rd33n l i (by omega)
    obtain ⟨h1, h2, h3⟩ := h _ m1
    have e0 : aTo l (i + 1) = wrap64 (aTo l i + (rd_T33 l (i : Int)).f1.f0) := rfl
    have e1 : (10737418240000 : Int) * ((i + 1 : Nat) : Int) = 10737418240000 * (i : Int) + 10737418240000 := by push_cast; rw [Int.mul_add, Int.mul_one]
    have e2 : (10737418240000 : Int) * (i : Int) ≤ 10737418240000 * 37 := Int.mul_le_mul_of_nonneg_left (by omega) (by omega)
    rw [e0, w64 (by omega) (by omega), m2, e1]
    refine ⟨?_, by omega, by omega⟩
    have e3 : pairsL (l.take i ++ [rd_T33 l (i : Int)]) = pairsL (l.take i) ++ prs (rd_T33 l (i : Int)).f2 := by
      unfold pairsL
      rw [List.flatMap_append]
      show _ ++ (pairsS (rd_T33 l (i : Int)) ++ []) = _
      rw [List.append_nil]
      rfl
    rw [e3, totS_append, ← a, ← h1]
theorem ofS_le : ∀ (S : List (Int × Int)) (f : Int), (∀ x, x ∈ S → 0 ≤ x.2) → ofS S f ≤ totS S
  | [], _, _ => Int.le_refl _
  | x :: r, f, h => by
    have ih := ofS_le r f (fun y hy => h y (by simp [hy]))
    have := h x (by simp)
    simp only [ofS, totS]
    split <;> omega
theorem ev_all {α β : Type} (g : α → Nat → Option β) (r : α → β) : ∀ L : List α, (∀ p, p ∈ L → Ev (g p) (r p)) → ∃ K, ∀ k, K ≤ k → ∀ p, p ∈ L → g p k = some (r p)
  | [], _ => ⟨0, fun _ _ p hp => by simp at hp⟩
  | x :: t, h => by
    obtain ⟨K1, h1⟩ := h x (by simp)
    obtain ⟨K2, h2⟩ := ev_all g r t (fun p hp => h p (by simp [hp]))
    refine ⟨max K1 K2, fun k hk p hp => ?_⟩
    rcases List.mem_cons.1 hp with rfl | hp
    · exact h1 k (by omega)
    · exact h2 k (by omega) p hp
theorem key_wf {f : Int} (h0 : 1 ≤ f) (h1 : f ≤ 1073741824) : (Lit.int .i64 f).wf = true := by
  simp [Lit.wf, IntKind.min, IntKind.max, IntKind.signed, IntKind.bits]
  exact ⟨by omega, by omega⟩
/-- What the law's walk asks for, of right lots. -/
theorem sums_ok (l : List S33) (hw : ∀ i, 0 ≤ i → i < (l.length : Int) → Wf33 (rd_T33 l i)) (hr : RightL l) (hb : Ev (fun k => lot_right.f k l) true) (hp : PlainP (aTo l l.length) (mTo l l.length)) :
    Ev (fun k => if sumsOk k l (aTo l l.length) (mTo l l.length) then some true else none) true := by
  have hn : l.length ≤ 32 := by have := hr.1; omega
  have hwx : ∀ x, x ∈ l → Wf33 x := fun x hx => by
    obtain ⟨i, h0, h1, rfl⟩ := mem_rd33 hx
    exact hw i h0 h1
  have hx : ∀ x, x ∈ l → x.f2.length ≤ 32 ∧ (∀ s, s ∈ x.f2 → ShareP s) ∧ x.f1.f0 = totS (prs x.f2) ∧ PlainP x.f1.f0 x.f1.f1 := fun x hx => fine_sem (hwx x hx) (hr.2.2 x hx).2
  have hpr : ∀ p, p ∈ pairsL l → 1 ≤ p.1 ∧ p.1 ≤ 1073741824 ∧ 1 ≤ p.2 := fun p hp => by
    obtain ⟨x, hxl, hps⟩ := List.mem_flatMap.1 hp
    obtain ⟨s, hs, rfl⟩ := List.mem_map.1 hps
    have := (hx x hxl).2.1 s hs
    exact ⟨this.1, this.2.1, this.2.2.1⟩
  obtain ⟨ae, a0, a1⟩ := aTo_eq l (by omega) (fun x hxl => ⟨(hx x hxl).2.2.1, (hx x hxl).2.2.2.1, (hx x hxl).2.2.2.2.1⟩) l.length (Nat.le_refl _)
  rw [List.take_length] at ae
  have hA : aTo l l.length ≤ 10737418240000 := hp.2.1
  have hof : ∀ p, p ∈ pairsL l → Ev (fun k => lot_Of.f k l p.1) (ofS (pairsL l) p.1, 0) := fun p hp => by
    obtain ⟨q0, q1, _⟩ := hpr p hp
    have q := of_sem l (by omega) hw p.1 0 (by omega) (by omega) 0 ((in64).2 (by omega))
    rw [show (0 : Int).toNat = 0 from rfl, List.drop_zero, Int.zero_add] at q
    have h1 := ofS_le (pairsL l) p.1 (fun x hx => by have := (hpr x hx).2.2; omega)
    have h2 := ofS_nonneg (pairsL l) p.1 (fun x hx => by have := (hpr x hx).2.2; omega)
    rw [w64 (by omega) (by omega)] at q
    exact evb hb (evp rfl (evn (by omega) (evn (by omega) q)))
  obtain ⟨K, hK⟩ := ev_all (fun (p : Int × Int) k => lot_Of.f k l p.1) (fun p => (ofS (pairsL l) p.1, 0)) (pairsL l) hof
  refine ⟨K, fun k hk => if_pos ⟨by omega, fun x hxl => by have := (hx x hxl).1; omega, fun p hp => ⟨key_wf (hpr p hp).1 (hpr p hp).2.1, hK k hk p hp, ofS_pos (pairsL l) p.1 (fun x hx => (hpr x hx).2.2) ⟨p, hp, rfl⟩⟩, ae.symm, rfl, aTo_in l _⟩⟩
end Go.Proofs.YtgjoenoknknoiaaDoor.PL
namespace Go.Proofs.YtgjoenoknknoiaaDoor.Pure
open Go Go.RowKit Go.Proofs.YtgjoenoknknoiaaDoorW.PrintWords Go.Proofs.YtgjoenoknknoiaaDoorW.PrintLast Go.Proofs.YtgjoenoknknoiaaDoorW.PrintMore Go.Proofs.YtgjoenoknknoiaaDoor.Pr Go.Proofs.YtgjoenoknknoiaaDoor.Opn Go.Proofs.YtgjoenoknknoiaaDoor.X Go.Proofs.YtgjoenoknknoiaaDoor.PL
theorem LotSums : lotSumsPure := by
  intro l hl
  refine Ev.rounds (r := true) ?_
  have hn := len_le hl.1
  have hw := wf_all l hl
  obtain ⟨b, f1, f2⟩ := few_ev l hn
  have ha : Ev (fun _ : Nat => spilelaw22_awake.f) true := Ev.now _
  unfold spilelaw22_LotSums.f
  refine evb ha (evp rfl (evb f1 ?_))
  cases b with
  | false => exact evn (by simp) (Ev.now _)
  | true =>
    refine evp rfl ?_
    obtain ⟨c, c1, _, c3⟩ := right_iff l hn hw
    cases c with
    | false =>
      have ht : Ev (fun k => lot_Total.f k l) (0, 0, 1) := evb c1 (evn (by simp) (Ev.now _))
      exact evb ht (evn (show ¬ (1 : Int) = 0 by decide) (evp ⟨rfl, rfl⟩ (Ev.now _)))
    | true =>
      have hr := c3.1 rfl
      have q := total_sem l hn 0 (by omega) (by omega)
      have ht : Ev (fun k => lot_Total.f k l) _ := evb c1 (evp rfl q)
      refine evb ht ?_
      by_cases hp : PlainP (aTo l l.length) (mTo l l.length)
      · rw [if_pos hp]
        exact evp rfl (sums_ok l hw hr c1 hp)
      · rw [if_neg hp]
        exact evn (show ¬ (15 : Int) = 0 by decide) (evp ⟨rfl, rfl⟩ (Ev.now _))
end Go.Proofs.YtgjoenoknknoiaaDoor.Pure
namespace Go.Proofs.YtgjoenoknknoiaaDoor.lotSums
open Go Go.ChangeShapes Go.WideShapes Go.ChangeAt Go.RowKit
open Go.ChangeMaps (open_string shut_string)
open Go.Proofs.YtgjoenoknknoiaaDoorW.PrintWords Go.Proofs.YtgjoenoknknoiaaDoor.O Go.Proofs.YtgjoenoknknoiaaDoor.Opn Go.Proofs.YtgjoenoknknoiaaDoor.Pr Go.Proofs.YtgjoenoknknoiaaDoor.X
theorem own : ownKnob Tryd.prog.godebug = none := by kernel_rfl
theorem laidOut : laidOutB Tryd.prog = true := by kernel_rfl
abbrev laidL : List (String × DataW Unit) := [("math/bits.deBruijn32tab", Rows.laid_math_bits_deBruijn32tab), ("math/bits.deBruijn64tab", Rows.laid_math_bits_deBruijn64tab), ("internal/strconv.uint64pow10", Rows.laid_internal_strconv_uint64pow10)]
set_option maxRecDepth 100000 in
theorem lifted (os : Os) (started : os.Started) (H : Type) (enc : TypeId × Value → H)
    (hwit : ∀ args : Array Value, laidMetH Tryd.prog laidL ((World.doorLaid Tryd.prog 400 os).forCall (fun _ _ => 0) ⟨#[], args, []⟩).memory) :
    ReturnsInHanded {} Tryd.checked os 3 .any (fun w args => (Rows.lotSumsSpec.pre enc Tryd.prog Tryd.f3 [] false w args ∧ laidMetH Tryd.prog laidL w) ∧ sizedMet enc Tryd.prog Tryd.f3 (OpenSpec.ofChange Rows.lotSumsSpec) false w args)
      (Rows.lotSumsSpec.post enc Tryd.prog Tryd.f3 false true false false) := by
  refine returnsInHanded_of_change_and (C := Tryd.checked) (X := (fun w _ => laidMetH Tryd.prog laidL w)) (fun _ _ _ hh h => h.of_heap hh) own started (by kernel_rfl) Tryd.func3
    (ChangeSpec.witness_shaped (enc := enc) (C := Tryd.checked) (os := os) (X := (fun w _ => laidMetH Tryd.prog laidL w)) false (World.doorLaid Tryd.prog 400 os) #[.slice none 0 0] 8 rfl (World.shaped_of_RefB (by kernel_rfl) (by kernel_rfl)) (by kernel_rfl) (by kernel_rfl) (by kernel_rfl) (hwit _)) ?_
  intro W base args ds gs before hval0 hW _ _ hL _
  have hval : ∀ (j : Nat) t v, Tryd.f3.params[j]? = some t → args[j]? = some v → Value.okWide Tryd.prog W .any base t v := hval0
  have hW' := hW
  obtain ⟨p, q, hA0, hV, rfl, hfz, hnd⟩ := hW
  have hA : DataW.TrodAll enc Tryd.prog W 0 (fun _ => true) true Tryd.f3.params.toList args.toList ds p := hA0
  rw [Tryd.params3] at hA hval
  obtain ⟨v0, vs0, d0, ds0, p0, q0, hargs, rfl, rfl, h0, r0⟩ := trodAll_cons hA
  obtain ⟨rfl, rfl, rfl⟩ := trodAll_nil r0
  obtain rfl : args = #[v0] := by cases args; simp_all
  obtain ⟨rfl, rfl⟩ := trodVars_none hV
  obtain ⟨a0_, len0_, cap0_, rfl⟩ := okWide_slice Tryd.underlying22 (hval 0 22 v0 rfl rfl)
  have k0 := h0
  have lt0 : ∀ x ∈ p0, x.block < W.heap.size := by obtain ⟨m, hm⟩ := k0; exact DataW.trod_lt m _ _ _ hm
  obtain ⟨l0, K0, ok0⟩ : ∃ x, (Kd.slice 33 k33).K W x [.slice a0_ len0_ cap0_] ∧ (x.length ≤ maxLen ∧ ∀ x0_, x0_ ∈ x → ok33 x0_) := by
    obtain ⟨fuel, hf⟩ := h0
    exact opens22.2 _ _ _ _ _ _ _ _ _ hf
  obtain ⟨A0, c0, e0, g0, hr0⟩ := K0
  simp only [List.cons.injEq, Value.slice.injEq, and_true] at e0
  obtain ⟨rfl, rfl, rfl⟩ := e0
  clear hA0 hval0
  obtain ⟨k, hp⟩ := Pure.LotSums l0 ok0
  have hG : GI W := GI.of_laid laidL (by simp [laidL]) hL
  refine (spilelaw22_LotSums.calls k _ _ l0 true W hr0 g0 hG hp).mono fun e W' ⟨he, bel⟩ => ?_
  subst he
  exact ⟨_, rfl, _, _, _, [], _, [], hW', trodAll_mk1 (shut_bool Tryd.underlying4 _), (trodAll_cons_mk (Below.trod laidOut (by kernel_rfl) (of_decide_eq_true (by kernel_rfl)) k0 bel lt0) trodAll_mk0), rfl, bel.frame _, fun h => by cases h⟩
theorem holds (hwit : ∀ (os : Os) (args : Array Value), laidMetH Tryd.prog laidL ((World.doorLaid Tryd.prog 400 os).forCall (fun _ _ => 0) ⟨#[], args, []⟩).memory) : Rows.LotSumsSaid :=
  OpenClaim.holds_of_wide 3 Tryd.f3 rfl rfl rfl rfl rfl rfl rfl ⟨rfl, rfl, rfl, rfl, rfl⟩ rfl rfl rfl rfl rfl (by kernel_rfl) Tryd.func3 (by kernel_rfl)
    (of_decide_eq_true (by kernel_rfl)) (by unfold Func.isWrapper; first | (rw [if_pos (by decide +kernel)]; kernel_rfl) | (rw [if_neg (by decide +kernel)]; exact ⟨rfl, rfl⟩))
    (fun os started H enc _ => lifted os started H enc (hwit os))
theorem door_met (os : Os) (args : Array Value) : laidMetH Tryd.prog laidL ((World.doorLaid Tryd.prog 400 os).forCall (fun _ _ => 0) ⟨#[], args, []⟩).memory :=
  laidMetH_of_parts3 (fuel := 8) (laidMet_of_run' 8 (by kernel_rfl) (by kernel_rfl)) (by kernel_rfl) (by kernel_rfl)
theorem card : Rows.LotSumsCardSaid :=
  Claim7.holds_tied_plain_at .later [] [.data, .data, .data] true (true, "6d3d5d07b3fa15e36186e74d1341de65e21d118781572820ba764e384a48d39d") true
    (holds door_met) (fun _ h => by cases h) (by kernel_rfl) (fun _ h => by cases h) lotSums_row_tie rfl ⟨rfl, rfl⟩ (by kernel_rfl) rfl
    (fun f fn hf hfn => by
      obtain rfl : f = 3 := Option.some.inj ((show Tryd.prog.funcNamed "spile/spilelaw22.LotSums" = some 3 by kernel_rfl).symm.trans hf) |>.symm
      obtain rfl : fn = Tryd.f3 := (Option.some.inj (Tryd.func3.symm.trans hfn)).symm
      exact ⟨by kernel_rfl, fun j t ht => by
        rw [Tryd.params3] at ht
        have hm : t ∈ [22] := by simpa using Array.mem_of_getElem? ht
        have hall : ([22].all fun u => !Tryd.prog.wantsStandIn u) = true := by kernel_rfl
        exact (show Tryd.prog.wantsStandIn t = false by simpa using List.all_eq_true.1 hall t hm)⟩)
    (by kernel_rfl)
end Go.Proofs.YtgjoenoknknoiaaDoor.lotSums
namespace Go.Proofs.YtgjoenoknknoiaaDoor
/-- The card, under a short name, for the claim. -/
theorem lotSums_holds : Rows.LotSumsCardSaid := lotSums.card
#print axioms lotSums_holds
end Go.Proofs.YtgjoenoknknoiaaDoor
