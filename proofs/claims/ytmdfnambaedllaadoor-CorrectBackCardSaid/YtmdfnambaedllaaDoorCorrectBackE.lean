/-
The law CorrectBack returns true for every input that can be read as data, and leaves its arguments as they were: the row, and the card that ties the listed variables to the program's text.
No condition of its own beyond those that the given row prints.
-/
import Derived.HandedShaped
import Derived.Handed
import Derived.Test.YtmdfnambaedllaaDoorCards
import Derived.Test.YtmdfnambaedllaaDoorTie
import Derived.ProofKit
import Derived.OpenShut
import Derived.ShutString
import Derived.ChangeOld
import Derived.SizedLaws
import Derived.LaidMore
import Derived.Lay
import Derived.MakeChecks
import Derived.SevenTiedAt
import Derived.LaidSub
import Derived.LaidOnce
import Derived.Stop.Joined
import Derived.Stop.LaidErr
import Derived.Test.YtmdfnambaedllaaDoorCorrectBackD
set_option linter.unusedVariables false
set_option linter.unusedSimpArgs false
namespace Go.Proofs.YtmdfnambaedllaaDoor.Pr
open Go.RowKit Go.Proofs.YtmdfnambaedllaaDoorW.PrintWords Go.Proofs.YtmdfnambaedllaaDoorW.PrintLast Go.Proofs.YtmdfnambaedllaaDoorW.PrintMore Go.Proofs.YtmdfnambaedllaaDoor.X
attribute [local go_sem] max2_int min2_int max_two min_two max_three min_three max_four min_four   -- for this text's walks alone
set_option linter.unusedVariables false
set_option linter.unusedSimpArgs false
def spileref19_same.l0 : Nat → List Int → List Int → Int → Option (Bool)
 | 0, _, _, _ => none
 | k + 1, x0, x1, x5 => if x5 < (x0.length : Int) then (if 0 ≤ x5 then (if x5 < (x1.length : Int) then (if (rd x0 x5) = (rd x1 x5) then (spileref19_same.l0 k x0 x1 (wrap64 (x5 + 1))) else (some false)) else (none)) else (none)) else (some true)
def spileref19_same.f (k : Nat) (l0 : List Int) (l1 : List Int) : Option (Bool) := if (l0.length : Int) = (l1.length : Int) then (spileref19_same.l0 k l0 l1 0) else (some false)
set_option maxHeartbeats 8000000 in
set_option maxRecDepth 100000 in
theorem spileref19_same.calls (k : Nat) (A0 : Option Addr) (c0 : Nat) (l0 : List Int) (A1 : Option Addr) (c1 : Nat) (l1 : List Int) (r : Bool) (w : World) (hr0 : Kd.C (Kd.int .i64) w A0 l0.length l0) (hc0 : l0.length ≤ c0) (hr1 : Kd.C (Kd.int .i64) w A1 l1.length l1) (hc1 : l1.length ≤ c1) (h : spileref19_same.f k l0 l1 = some r) :
  Calls Tryd.prog 53 #[.slice A0 l0.length c0, .slice A1 l1.length c1] w fun e w' => e = .returned (.bool r) ∧ Drawn0 w w' := by
 have HR0 := Aside0.mk hr0; have HC0 := Aside0.mk hc0; clear hr0 hc0; have HR1 := Aside0.mk hr1; have HC1 := Aside0.mk hc1; clear hr1 hc1; have H : (if (l0.length : Int) = (l1.length : Int) then (spileref19_same.l0 k l0 l1 0) else (some false)) = some r := h; clear h; by_cases c3 : (l0.length : Int) = (l1.length : Int)
 ·
  rw [if_pos c3] at H; have c3b0 : ((l0.length : Int) == (l1.length : Int)) = true := beq_iff_eq.mpr c3; have c3b1 : ((l0.length : Int) != (l1.length : Int)) = false := bne_eq_false_iff_eq.mpr c3; have c3b2 : (l0.length == l1.length) = true := by first | simpa using c3 | (simp at c3 ⊢; omega)
  clear c3; have H' := Aside0.mk H; clear H; go_enter Tryd.func53, Tryd.ntmps53
  go_wp2; repeat (go_quiet (fail); try go_wp2)
  go_loopg [5] k (fun kq v5 w' => ∃ (x5_1 : Int), v5 = .int .i64 x5_1 ∧ Aside0 (spileref19_same.l0 kq l0 l1 x5_1 = some r) ∧ Aside0 (kq ≤ k) ∧ Drawn0 w w')
  case atStart => exact ⟨(0), (by first | rfl | (simp; done) | (simp [*]; done)), H', ⟨Nat.le_refl _⟩, by repeat (first | exact Drawn0.refl _ | apply Drawn0.step)⟩
  case round =>
   clear H'; try clear c1
   try clear p2
   try clear c3
   try clear c3b0
   try clear c3b1
   try clear c3b2
   obtain ⟨x5_1, rfl, HA, HK1, ⟨m1, rfl⟩⟩ := hrel
   cases gk with
   | zero => exact absurd HA.out (by simp [spileref19_same.l0])
   | succ k1 =>
    have H := HA.out; clear HA; simp only [spileref19_same.l0] at H; by_cases c4 : x5_1 < (l0.length : Int)
    ·
     rw [if_pos c4] at H; have c4b0 : decide (x5_1 < (l0.length : Int)) = true := decide_eq_true c4; clear c4; by_cases c5 : 0 ≤ x5_1
     ·
      rw [if_pos c5] at H; have c5b0 : decide (0 ≤ x5_1) = true := decide_eq_true c5; clear c5; by_cases c6 : x5_1 < (l1.length : Int)
      ·
       rw [if_pos c6] at H; have c6b0 : decide (x5_1 < (l1.length : Int)) = true := decide_eq_true c6; clear c6; by_cases c7 : (rd l0 x5_1) = (rd l1 x5_1)
       ·
        rw [if_pos c7] at H; have c7b0 : ((rd l0 x5_1) == (rd l1 x5_1)) = true := beq_iff_eq.mpr c7; have c7b1 : ((rd l0 x5_1) != (rd l1 x5_1)) = false := bne_eq_false_iff_eq.mpr c7; clear c7; have H' := Aside0.mk H; clear H; have p501 : 0 ≤ (x5_1 : Int) := of_decide_eq_true (by first | (with_reducible assumption) | assumption); have q501 : x5_1 < (l0.length : Int) := of_decide_eq_true (by first | (with_reducible assumption) | assumption); obtain ⟨ad501, e501, hx501_0⟩ := Kd.at_int HR0.out x5_1 p501 q501; cases e501; replace p501 := eq_true p501; replace q501 := eq_true q501; have p502 : 0 ≤ (x5_1 : Int) := of_decide_eq_true (by first | (with_reducible assumption) | assumption); have q502 : x5_1 < (l1.length : Int) := of_decide_eq_true (by first | (with_reducible assumption) | assumption); obtain ⟨ad502, e502, hx502_0⟩ := Kd.at_int HR1.out x5_1 p502 q502; cases e502; replace p502 := eq_true p502; replace q502 := eq_true q502; go_wp2; repeat (go_quiet (fail); try go_wp2)
        go_roundg k1
        case measure => have := HK1.out; omega
        case rel => exact ⟨(wrap64 (x5_1 + 1)), (by first | rfl | (simp; done) | (simp [*]; done)), H', ⟨by have := HK1.out; omega⟩, by repeat (first | exact Drawn0.refl _ | apply Drawn0.step)⟩
       ·
        rw [if_neg c7] at H; have c7b0 : ((rd l0 x5_1) == (rd l1 x5_1)) = false := beq_eq_false_iff_ne.mpr c7; have c7b1 : ((rd l0 x5_1) != (rd l1 x5_1)) = true := bne_iff_ne.mpr c7; obtain rfl := Option.some.inj H; have p501 : 0 ≤ (x5_1 : Int) := of_decide_eq_true (by first | (with_reducible assumption) | assumption); have q501 : x5_1 < (l0.length : Int) := of_decide_eq_true (by first | (with_reducible assumption) | assumption); obtain ⟨ad501, e501, hx501_0⟩ := Kd.at_int HR0.out x5_1 p501 q501; cases e501; replace p501 := eq_true p501; replace q501 := eq_true q501; have p502 : 0 ≤ (x5_1 : Int) := of_decide_eq_true (by first | (with_reducible assumption) | assumption); have q502 : x5_1 < (l1.length : Int) := of_decide_eq_true (by first | (with_reducible assumption) | assumption); obtain ⟨ad502, e502, hx502_0⟩ := Kd.at_int HR1.out x5_1 p502 q502; cases e502; replace p502 := eq_true p502; replace q502 := eq_true q502; go_wp2; repeat (go_quiet (fail); try go_wp2)
        go_ret
        exact ⟨by first | rfl | (simp; done) | (simp [*]; done), by repeat (first | exact Drawn0.refl _ | apply Drawn0.step)⟩
      · rw [if_neg c6] at H; exact absurd H (by simp)
     · rw [if_neg c5] at H; exact absurd H (by simp)
    ·
     rw [if_neg c4] at H; have c4b0 : decide (x5_1 < (l0.length : Int)) = false := decide_eq_false c4; clear c4; obtain rfl := Option.some.inj H; go_wp2; repeat (go_quiet (fail); try go_wp2)
     go_ret
     exact ⟨by first | rfl | (simp; done) | (simp [*]; done), by repeat (first | exact Drawn0.refl _ | apply Drawn0.step)⟩
 ·
  rw [if_neg c3] at H; have c3b0 : ((l0.length : Int) == (l1.length : Int)) = false := beq_eq_false_iff_ne.mpr c3; have c3b1 : ((l0.length : Int) != (l1.length : Int)) = true := bne_iff_ne.mpr c3; have c3b2 : (l0.length == l1.length) = false := by first | simpa using c3 | (simp at c3 ⊢; omega)
  obtain rfl := Option.some.inj H; go_enter Tryd.func53, Tryd.ntmps53
  go_wp2; repeat (go_quiet (fail); try go_wp2)
  go_ret
  exact ⟨by first | rfl | (simp; done) | (simp [*]; done), by repeat (first | exact Drawn0.refl _ | apply Drawn0.step)⟩
mutual
def spileref19_Same.j0 : Nat → Bool → List Int → List Int → List (List Int) → List Int → List Int → List (List Int) → Option (Bool)
 | 0, _, _, _, _, _, _, _ => none
 | k + 1, x28, x504000, x504001, x504002, x505000, x505001, x505002 => if x28 = true then (some false) else (spileref19_Same.l0 k 0 x504000 x504001 x504002 x505000 x505001 x505002)
def spileref19_Same.l0 : Nat → Int → List Int → List Int → List (List Int) → List Int → List Int → List (List Int) → Option (Bool)
 | 0, _, _, _, _, _, _, _ => none
 | k + 1, x5, x504000, x504001, x504002, x505000, x505001, x505002 => if x5 < (x504002.length : Int) then (if 0 ≤ x5 then (if x5 < (x505002.length : Int) then ((spileref19_same.f k (rd_L1 x504002 x5) (rd_L1 x505002 x5)).bind fun t509 => (if t509 = true then (spileref19_Same.l0 k (wrap64 (x5 + 1)) x504000 x504001 x504002 x505000 x505001 x505002) else (some false))) else (none)) else (none)) else (some true)
end
def spileref19_Same.f (k : Nat) (l0_0 : List Int) (l0_1 : List Int) (l0_2 : List (List Int)) (l1_0 : List Int) (l1_1 : List Int) (l1_2 : List (List Int)) : Option (Bool) := (spileref19_same.f k l0_0 l1_0).bind fun t505 => (if t505 = true then ((spileref19_same.f k l0_1 l1_1).bind fun t506 => (if t506 = true then (spileref19_Same.j0 k ((l0_2.length : Int) != (l1_2.length : Int)) l0_0 l0_1 l0_2 l1_0 l1_1 l1_2) else (spileref19_Same.j0 k true l0_0 l0_1 l0_2 l1_0 l1_1 l1_2))) else (spileref19_Same.j0 k true l0_0 l0_1 l0_2 l1_0 l1_1 l1_2))
set_option maxHeartbeats 8000000 in
set_option maxRecDepth 100000 in
theorem spileref19_Same.calls (k : Nat) (A0_0 : Option Addr) (c0_0 : Nat) (l0_0 : List Int) (A0_1 : Option Addr) (c0_1 : Nat) (l0_1 : List Int) (A0_2 : Option Addr) (c0_2 : Nat) (l0_2 : List (List Int)) (A1_0 : Option Addr) (c1_0 : Nat) (l1_0 : List Int) (A1_1 : Option Addr) (c1_1 : Nat) (l1_1 : List Int) (A1_2 : Option Addr) (c1_2 : Nat) (l1_2 : List (List Int)) (r : Bool) (w : World) (hr0_0 : Kd.C (Kd.int .i64) w A0_0 l0_0.length l0_0) (hc0_0 : l0_0.length ≤ c0_0) (hr0_1 : Kd.C (Kd.int .i64) w A0_1 l0_1.length l0_1) (hc0_1 : l0_1.length ≤ c0_1) (hr0_2 : Kd.C (Kd.slice 3 (Kd.int .i64)) w A0_2 l0_2.length l0_2) (hc0_2 : l0_2.length ≤ c0_2) (hr1_0 : Kd.C (Kd.int .i64) w A1_0 l1_0.length l1_0) (hc1_0 : l1_0.length ≤ c1_0) (hr1_1 : Kd.C (Kd.int .i64) w A1_1 l1_1.length l1_1) (hc1_1 : l1_1.length ≤ c1_1) (hr1_2 : Kd.C (Kd.slice 3 (Kd.int .i64)) w A1_2 l1_2.length l1_2) (hc1_2 : l1_2.length ≤ c1_2) (h : spileref19_Same.f k l0_0 l0_1 l0_2 l1_0 l1_1 l1_2 = some r) :
  Calls Tryd.prog 24 #[.agg #[.slice A0_0 l0_0.length c0_0, .slice A0_1 l0_1.length c0_1, .slice A0_2 l0_2.length c0_2], .agg #[.slice A1_0 l1_0.length c1_0, .slice A1_1 l1_1.length c1_1, .slice A1_2 l1_2.length c1_2]] w fun e w' => e = .returned (.bool r) ∧ Below w.heap.size w w' := by
 have hu25 := Tryd.underlying25; have HR0_0 := Aside0.mk hr0_0; have HC0_0 := Aside0.mk hc0_0; clear hr0_0 hc0_0; have HR0_1 := Aside0.mk hr0_1; have HC0_1 := Aside0.mk hc0_1; clear hr0_1 hc0_1; have HR0_2 := Aside0.mk hr0_2; have HC0_2 := Aside0.mk hc0_2; clear hr0_2 hc0_2; have HR1_0 := Aside0.mk hr1_0; have HC1_0 := Aside0.mk hc1_0; clear hr1_0 hc1_0; have HR1_1 := Aside0.mk hr1_1; have HC1_1 := Aside0.mk hc1_1; clear hr1_1 hc1_1; have HR1_2 := Aside0.mk hr1_2; have HC1_2 := Aside0.mk hc1_2; clear hr1_2 hc1_2; have HB := Aside0.mk (Below.refl w.heap.size w); have H : ((spileref19_same.f k l0_0 l1_0).bind fun t505 => (if t505 = true then ((spileref19_same.f k l0_1 l1_1).bind fun t506 => (if t506 = true then (spileref19_Same.j0 k ((l0_2.length : Int) != (l1_2.length : Int)) l0_0 l0_1 l0_2 l1_0 l1_1 l1_2) else (spileref19_Same.j0 k true l0_0 l0_1 l0_2 l1_0 l1_1 l1_2))) else (spileref19_Same.j0 k true l0_0 l0_1 l0_2 l1_0 l1_1 l1_2))) = some r := h; clear h; have HC3 := Aside0.mk H; clear H; go_enter Tryd.func24, Tryd.ntmps24
 go_upto_region 1 with (first | ((with_reducible refine gate_dst (N := 2) rfl ?_); (try (refine gate_guard (by rfl) ?_; dsimp only)); refine box_event ?hg (N := 2) ?hd (cs := #[.slice A0_0 l0_0.length c0_0, .slice A0_1 l0_1.length c0_1, .slice A0_2 l0_2.length c0_2]) (t := 25) ?hr ?_; (case hd => rfl); (case hg => rfl); (case hr => first | (go_simp; done) | (go_simp; rfl)); intro gb503 hg w4 hbox hb; have n0_ := Aside0.mk (below_step (eG HB.out) hb); have n1_ := Aside0.mk (hbox); have n2_ := Aside0.mk ((by rw [hg]; exact (below_size (eG HB.out)) : w.heap.size ≤ gb503)); have n3_ := Aside0.mk ((by rw [hg]; exact (below_size (eG HB.out)) : w.heap.size ≤ gb503)); clear HB; have HB := n0_; have BK503 := n1_; have GW503 := n2_; have GE503 := n3_; have ig503_ := geI GE503; clear n0_ n1_ n2_ n3_; clear hb hbox hg) | ((with_reducible refine gate_dst (N := 3) rfl ?_); (try (refine gate_guard (by rfl) ?_; dsimp only)); refine box_event ?hg (N := 3) ?hd (cs := #[.slice A1_0 l1_0.length c1_0, .slice A1_1 l1_1.length c1_1, .slice A1_2 l1_2.length c1_2]) (t := 25) ?hr ?_; (case hd => rfl); (case hg => rfl); (case hr => first | (go_simp; done) | (go_simp; rfl)); intro gb504 hg w5 hbox hb; have n0_ := Aside0.mk (blk_below (bG BK503.out) hb); have n1_ := Aside0.mk (below_step (eG HB.out) hb); have n2_ := Aside0.mk (hbox); have n3_ := Aside0.mk ((by rw [hg]; exact (below_size (eG HB.out)) : w.heap.size ≤ gb504)); have n4_ := Aside0.mk ((by rw [hg]; exact (below_size (eG HB.out)) : w.heap.size ≤ gb504)); have n5_ := Aside0.mk ((by rw [hg]; exact Nat.ne_of_lt (blk_lt (bG BK503.out)) : gb503 ≠ gb504)); have n6_ := Aside0.mk ((by rw [hg]; exact Nat.ne_of_gt (blk_lt (bG BK503.out)) : gb504 ≠ gb503)); clear BK503; clear HB; have BK503 := n0_; have HB := n1_; have BK504 := n2_; have GW504 := n3_; have GE504 := n4_; have ig504_ := geI GE504; have NB503_504 := n5_; have NB504_503 := n6_; clear n0_ n1_ n2_ n3_ n4_ n5_ n6_; clear hb hbox hg))
 repeat (go_quiet (first | ((with_reducible refine gate_dst (N := 2) rfl ?_); (try (refine gate_guard (by rfl) ?_; dsimp only)); refine box_event ?hg (N := 2) ?hd (cs := #[.slice A0_0 l0_0.length c0_0, .slice A0_1 l0_1.length c0_1, .slice A0_2 l0_2.length c0_2]) (t := 25) ?hr ?_; (case hd => rfl); (case hg => rfl); (case hr => first | (go_simp; done) | (go_simp; rfl)); intro gb503 hg w4 hbox hb; have n0_ := Aside0.mk (below_step (eG HB.out) hb); have n1_ := Aside0.mk (hbox); have n2_ := Aside0.mk ((by rw [hg]; exact (below_size (eG HB.out)) : w.heap.size ≤ gb503)); have n3_ := Aside0.mk ((by rw [hg]; exact (below_size (eG HB.out)) : w.heap.size ≤ gb503)); clear HB; have HB := n0_; have BK503 := n1_; have GW503 := n2_; have GE503 := n3_; have ig503_ := geI GE503; clear n0_ n1_ n2_ n3_; clear hb hbox hg) | ((with_reducible refine gate_dst (N := 3) rfl ?_); (try (refine gate_guard (by rfl) ?_; dsimp only)); refine box_event ?hg (N := 3) ?hd (cs := #[.slice A1_0 l1_0.length c1_0, .slice A1_1 l1_1.length c1_1, .slice A1_2 l1_2.length c1_2]) (t := 25) ?hr ?_; (case hd => rfl); (case hg => rfl); (case hr => first | (go_simp; done) | (go_simp; rfl)); intro gb504 hg w5 hbox hb; have n0_ := Aside0.mk (blk_below (bG BK503.out) hb); have n1_ := Aside0.mk (below_step (eG HB.out) hb); have n2_ := Aside0.mk (hbox); have n3_ := Aside0.mk ((by rw [hg]; exact (below_size (eG HB.out)) : w.heap.size ≤ gb504)); have n4_ := Aside0.mk ((by rw [hg]; exact (below_size (eG HB.out)) : w.heap.size ≤ gb504)); have n5_ := Aside0.mk ((by rw [hg]; exact Nat.ne_of_lt (blk_lt (bG BK503.out)) : gb503 ≠ gb504)); have n6_ := Aside0.mk ((by rw [hg]; exact Nat.ne_of_gt (blk_lt (bG BK503.out)) : gb504 ≠ gb503)); clear BK503; clear HB; have BK503 := n0_; have HB := n1_; have BK504 := n2_; have GW504 := n3_; have GE504 := n4_; have ig504_ := geI GE504; have NB503_504 := n5_; have NB504_503 := n6_; clear n0_ n1_ n2_ n3_ n4_ n5_ n6_; clear hb hbox hg)); go_upto_region 1 with (first | ((with_reducible refine gate_dst (N := 2) rfl ?_); (try (refine gate_guard (by rfl) ?_; dsimp only)); refine box_event ?hg (N := 2) ?hd (cs := #[.slice A0_0 l0_0.length c0_0, .slice A0_1 l0_1.length c0_1, .slice A0_2 l0_2.length c0_2]) (t := 25) ?hr ?_; (case hd => rfl); (case hg => rfl); (case hr => first | (go_simp; done) | (go_simp; rfl)); intro gb503 hg w4 hbox hb; have n0_ := Aside0.mk (below_step (eG HB.out) hb); have n1_ := Aside0.mk (hbox); have n2_ := Aside0.mk ((by rw [hg]; exact (below_size (eG HB.out)) : w.heap.size ≤ gb503)); have n3_ := Aside0.mk ((by rw [hg]; exact (below_size (eG HB.out)) : w.heap.size ≤ gb503)); clear HB; have HB := n0_; have BK503 := n1_; have GW503 := n2_; have GE503 := n3_; have ig503_ := geI GE503; clear n0_ n1_ n2_ n3_; clear hb hbox hg) | ((with_reducible refine gate_dst (N := 3) rfl ?_); (try (refine gate_guard (by rfl) ?_; dsimp only)); refine box_event ?hg (N := 3) ?hd (cs := #[.slice A1_0 l1_0.length c1_0, .slice A1_1 l1_1.length c1_1, .slice A1_2 l1_2.length c1_2]) (t := 25) ?hr ?_; (case hd => rfl); (case hg => rfl); (case hr => first | (go_simp; done) | (go_simp; rfl)); intro gb504 hg w5 hbox hb; have n0_ := Aside0.mk (blk_below (bG BK503.out) hb); have n1_ := Aside0.mk (below_step (eG HB.out) hb); have n2_ := Aside0.mk (hbox); have n3_ := Aside0.mk ((by rw [hg]; exact (below_size (eG HB.out)) : w.heap.size ≤ gb504)); have n4_ := Aside0.mk ((by rw [hg]; exact (below_size (eG HB.out)) : w.heap.size ≤ gb504)); have n5_ := Aside0.mk ((by rw [hg]; exact Nat.ne_of_lt (blk_lt (bG BK503.out)) : gb503 ≠ gb504)); have n6_ := Aside0.mk ((by rw [hg]; exact Nat.ne_of_gt (blk_lt (bG BK503.out)) : gb504 ≠ gb503)); clear BK503; clear HB; have BK503 := n0_; have HB := n1_; have BK504 := n2_; have GW504 := n3_; have GE504 := n4_; have ig504_ := geI GE504; have NB503_504 := n5_; have NB504_503 := n6_; clear n0_ n1_ n2_ n3_ n4_ n5_ n6_; clear hb hbox hg)))
 (try simp only [Act.put, sIA, sC0, sCS])
 go_cut [28] (fun v28 wc => ∃ (kq : Nat) (x28_2 : Bool), v28 = .bool x28_2 ∧ Aside0 (spileref19_Same.j0 kq x28_2 l0_0 l0_1 l0_2 l1_0 l1_1 l1_2 = some r) ∧ Aside0 (kq ≤ k) ∧ Aside0 (wc.heap[gb503]? = some (.cells #[(.slice A0_0 l0_0.length c0_0), (.slice A0_1 l0_1.length c0_1), (.slice A0_2 l0_2.length c0_2)] 25 (0, 0))) ∧ Aside0 (wc.heap[gb504]? = some (.cells #[(.slice A1_0 l1_0.length c1_0), (.slice A1_1 l1_1.length c1_1), (.slice A1_2 l1_2.length c1_2)] 25 (0, 0))) ∧ Aside0 (Below w.heap.size w wc))
 case first =>
  have H := HC3.out; clear HC3; replace H := Option.bind_eq_some_iff.mp H; obtain ⟨t505, A60, H⟩ := H; replace H : (if t505 = true then ((spileref19_same.f k l0_1 l1_1).bind fun t506 => (if t506 = true then (spileref19_Same.j0 k ((l0_2.length : Int) != (l1_2.length : Int)) l0_0 l0_1 l0_2 l1_0 l1_1 l1_2) else (spileref19_Same.j0 k true l0_0 l0_1 l0_2 l1_0 l1_1 l1_2))) else (spileref19_Same.j0 k true l0_0 l0_1 l0_2 l1_0 l1_1 l1_2)) = some r := H; have A6 := Aside0.mk A60; clear A60; by_cases c7 : t505 = true
  ·
   subst c7; replace H : ((spileref19_same.f k l0_1 l1_1).bind fun t506 => (if t506 = true then (spileref19_Same.j0 k ((l0_2.length : Int) != (l1_2.length : Int)) l0_0 l0_1 l0_2 l1_0 l1_1 l1_2) else (spileref19_Same.j0 k true l0_0 l0_1 l0_2 l1_0 l1_1 l1_2))) = some r := by rw [if_pos rfl] at H; exact H
   replace H := Option.bind_eq_some_iff.mp H; obtain ⟨t506, A80, H⟩ := H; replace H : (if t506 = true then (spileref19_Same.j0 k ((l0_2.length : Int) != (l1_2.length : Int)) l0_0 l0_1 l0_2 l1_0 l1_1 l1_2) else (spileref19_Same.j0 k true l0_0 l0_1 l0_2 l1_0 l1_1 l1_2)) = some r := H; have A8 := Aside0.mk A80; clear A80; by_cases c9 : t506 = true
   ·
    subst c9; replace H : (spileref19_Same.j0 k ((l0_2.length : Int) != (l1_2.length : Int)) l0_0 l0_1 l0_2 l1_0 l1_1 l1_2) = some r := by rw [if_pos rfl] at H; exact H
    have H' := Aside0.mk H; clear H; have hnb10 := NB503_504.out; have hnc10 := NB504_503.out; have hcz11_0 : w5.cell? ⟨gb503, 0, none⟩ = some (.slice A0_0 l0_0.length c0_0) := (blk_cell BK503.out 0).trans rfl; have hcz11_1 : w5.cell? ⟨gb503, 1, none⟩ = some (.slice A0_1 l0_1.length c0_1) := (blk_cell BK503.out 1).trans rfl; have hcz11_2 : w5.cell? ⟨gb503, 2, none⟩ = some (.slice A0_2 l0_2.length c0_2) := (blk_cell BK503.out 2).trans rfl; have hfz11_0 := blk_frozen BK503.out 0; have hfz11_1 := blk_frozen BK503.out 1; have hfz11_2 := blk_frozen BK503.out 2; have hcz12_0 : w5.cell? ⟨gb504, 0, none⟩ = some (.slice A1_0 l1_0.length c1_0) := (blk_cell BK504.out 0).trans rfl; have hcz12_1 : w5.cell? ⟨gb504, 1, none⟩ = some (.slice A1_1 l1_1.length c1_1) := (blk_cell BK504.out 1).trans rfl; have hcz12_2 : w5.cell? ⟨gb504, 2, none⟩ = some (.slice A1_2 l1_2.length c1_2) := (blk_cell BK504.out 2).trans rfl; have hfz12_0 := blk_frozen BK504.out 0; have hfz12_1 := blk_frozen BK504.out 1; have hfz12_2 := blk_frozen BK504.out 2; go_wp2_with (first | (go_at_call 53; (with_reducible refine (spileref19_same.calls k _ _ l0_0 _ _ l1_0 true _ ?side1 ?side2 ?side3 ?side4 A6.out).mono ?_); (case side1 => repeat (first | exact (Kd.C_below HR0_0.out HB.out) | (with_reducible refine Kd.C_alloc ?_ _) | (with_reducible refine Kd.C_drewN ?_ _) | (with_reducible refine Kd.C_drew ?_))); (case side2 => exact HC0_0.out); (case side3 => repeat (first | exact (Kd.C_below HR1_0.out HB.out) | (with_reducible refine Kd.C_alloc ?_ _) | (with_reducible refine Kd.C_drewN ?_ _) | (with_reducible refine Kd.C_drew ?_))); (case side4 => exact HC1_0.out); rintro e w' ⟨rfl, ⟨nd, rfl⟩⟩; (try first | exact ⟨rfl, _, World.drewN_drewN _ _ _⟩ | exact ⟨rfl, _, Eq.trans (World.drewN_drewN _ _ _) (congrArg (World.drewN _) (Nat.add_assoc _ _ _))⟩)) | (go_at_call 53; (with_reducible refine (spileref19_same.calls k _ _ l0_1 _ _ l1_1 true _ ?side1 ?side2 ?side3 ?side4 A8.out).mono ?_); (case side1 => repeat (first | exact (Kd.C_below HR0_1.out (eG HB.out)) | (with_reducible refine Kd.C_alloc ?_ _) | (with_reducible refine Kd.C_drewN ?_ _) | (with_reducible refine Kd.C_drew ?_))); (case side2 => exact HC0_1.out); (case side3 => repeat (first | exact (Kd.C_below HR1_1.out (eG HB.out)) | (with_reducible refine Kd.C_alloc ?_ _) | (with_reducible refine Kd.C_drewN ?_ _) | (with_reducible refine Kd.C_drew ?_))); (case side4 => exact HC1_1.out); rintro e w' ⟨rfl, ⟨nd, rfl⟩⟩; (try first | exact ⟨rfl, _, World.drewN_drewN _ _ _⟩ | exact ⟨rfl, _, Eq.trans (World.drewN_drewN _ _ _) (congrArg (World.drewN _) (Nat.add_assoc _ _ _))⟩)))
    repeat (go_quiet (first | (go_at_call 53; (with_reducible refine (spileref19_same.calls k _ _ l0_0 _ _ l1_0 true _ ?side1 ?side2 ?side3 ?side4 A6.out).mono ?_); (case side1 => repeat (first | exact (Kd.C_below HR0_0.out HB.out) | (with_reducible refine Kd.C_alloc ?_ _) | (with_reducible refine Kd.C_drewN ?_ _) | (with_reducible refine Kd.C_drew ?_))); (case side2 => exact HC0_0.out); (case side3 => repeat (first | exact (Kd.C_below HR1_0.out HB.out) | (with_reducible refine Kd.C_alloc ?_ _) | (with_reducible refine Kd.C_drewN ?_ _) | (with_reducible refine Kd.C_drew ?_))); (case side4 => exact HC1_0.out); rintro e w' ⟨rfl, ⟨nd, rfl⟩⟩; (try first | exact ⟨rfl, _, World.drewN_drewN _ _ _⟩ | exact ⟨rfl, _, Eq.trans (World.drewN_drewN _ _ _) (congrArg (World.drewN _) (Nat.add_assoc _ _ _))⟩)) | (go_at_call 53; (with_reducible refine (spileref19_same.calls k _ _ l0_1 _ _ l1_1 true _ ?side1 ?side2 ?side3 ?side4 A8.out).mono ?_); (case side1 => repeat (first | exact (Kd.C_below HR0_1.out (eG HB.out)) | (with_reducible refine Kd.C_alloc ?_ _) | (with_reducible refine Kd.C_drewN ?_ _) | (with_reducible refine Kd.C_drew ?_))); (case side2 => exact HC0_1.out); (case side3 => repeat (first | exact (Kd.C_below HR1_1.out (eG HB.out)) | (with_reducible refine Kd.C_alloc ?_ _) | (with_reducible refine Kd.C_drewN ?_ _) | (with_reducible refine Kd.C_drew ?_))); (case side4 => exact HC1_1.out); rintro e w' ⟨rfl, ⟨nd, rfl⟩⟩; (try first | exact ⟨rfl, _, World.drewN_drewN _ _ _⟩ | exact ⟨rfl, _, Eq.trans (World.drewN_drewN _ _ _) (congrArg (World.drewN _) (Nat.add_assoc _ _ _))⟩))); try go_wp2_with (first | (go_at_call 53; (with_reducible refine (spileref19_same.calls k _ _ l0_0 _ _ l1_0 true _ ?side1 ?side2 ?side3 ?side4 A6.out).mono ?_); (case side1 => repeat (first | exact (Kd.C_below HR0_0.out HB.out) | (with_reducible refine Kd.C_alloc ?_ _) | (with_reducible refine Kd.C_drewN ?_ _) | (with_reducible refine Kd.C_drew ?_))); (case side2 => exact HC0_0.out); (case side3 => repeat (first | exact (Kd.C_below HR1_0.out HB.out) | (with_reducible refine Kd.C_alloc ?_ _) | (with_reducible refine Kd.C_drewN ?_ _) | (with_reducible refine Kd.C_drew ?_))); (case side4 => exact HC1_0.out); rintro e w' ⟨rfl, ⟨nd, rfl⟩⟩; (try first | exact ⟨rfl, _, World.drewN_drewN _ _ _⟩ | exact ⟨rfl, _, Eq.trans (World.drewN_drewN _ _ _) (congrArg (World.drewN _) (Nat.add_assoc _ _ _))⟩)) | (go_at_call 53; (with_reducible refine (spileref19_same.calls k _ _ l0_1 _ _ l1_1 true _ ?side1 ?side2 ?side3 ?side4 A8.out).mono ?_); (case side1 => repeat (first | exact (Kd.C_below HR0_1.out (eG HB.out)) | (with_reducible refine Kd.C_alloc ?_ _) | (with_reducible refine Kd.C_drewN ?_ _) | (with_reducible refine Kd.C_drew ?_))); (case side2 => exact HC0_1.out); (case side3 => repeat (first | exact (Kd.C_below HR1_1.out (eG HB.out)) | (with_reducible refine Kd.C_alloc ?_ _) | (with_reducible refine Kd.C_drewN ?_ _) | (with_reducible refine Kd.C_drew ?_))); (case side4 => exact HC1_1.out); rintro e w' ⟨rfl, ⟨nd, rfl⟩⟩; (try first | exact ⟨rfl, _, World.drewN_drewN _ _ _⟩ | exact ⟨rfl, _, Eq.trans (World.drewN_drewN _ _ _) (congrArg (World.drewN _) (Nat.add_assoc _ _ _))⟩))))
    go_meet
    case rel => exact ⟨_, (((l0_2.length : Int) != (l1_2.length : Int))), (by first | rfl | (simp; done) | (simp [*]; done)), H', ⟨by first | omega | exact Nat.le_refl _⟩, ⟨by (with_reducible repeat first | apply bN | apply bD | apply bA); exact BK503.out⟩, ⟨by (with_reducible repeat first | apply bN | apply bD | apply bA); exact BK504.out⟩, ⟨eG HB.out⟩⟩
   ·
    replace c9 := Bool.eq_false_iff.mpr c9; subst c9; replace H : (spileref19_Same.j0 k true l0_0 l0_1 l0_2 l1_0 l1_1 l1_2) = some r := by rw [if_neg (show ¬ (false = true) by decide)] at H; exact H
    have H' := Aside0.mk H; clear H; have hnb13 := NB503_504.out; have hnc13 := NB504_503.out; have hcz14_0 : w5.cell? ⟨gb503, 0, none⟩ = some (.slice A0_0 l0_0.length c0_0) := (blk_cell BK503.out 0).trans rfl; have hcz14_1 : w5.cell? ⟨gb503, 1, none⟩ = some (.slice A0_1 l0_1.length c0_1) := (blk_cell BK503.out 1).trans rfl; have hcz14_2 : w5.cell? ⟨gb503, 2, none⟩ = some (.slice A0_2 l0_2.length c0_2) := (blk_cell BK503.out 2).trans rfl; have hfz14_0 := blk_frozen BK503.out 0; have hfz14_1 := blk_frozen BK503.out 1; have hfz14_2 := blk_frozen BK503.out 2; have hcz15_0 : w5.cell? ⟨gb504, 0, none⟩ = some (.slice A1_0 l1_0.length c1_0) := (blk_cell BK504.out 0).trans rfl; have hcz15_1 : w5.cell? ⟨gb504, 1, none⟩ = some (.slice A1_1 l1_1.length c1_1) := (blk_cell BK504.out 1).trans rfl; have hcz15_2 : w5.cell? ⟨gb504, 2, none⟩ = some (.slice A1_2 l1_2.length c1_2) := (blk_cell BK504.out 2).trans rfl; have hfz15_0 := blk_frozen BK504.out 0; have hfz15_1 := blk_frozen BK504.out 1; have hfz15_2 := blk_frozen BK504.out 2; go_wp2_with (first | (go_at_call 53; (with_reducible refine (spileref19_same.calls k _ _ l0_0 _ _ l1_0 true _ ?side1 ?side2 ?side3 ?side4 A6.out).mono ?_); (case side1 => repeat (first | exact (Kd.C_below HR0_0.out HB.out) | (with_reducible refine Kd.C_alloc ?_ _) | (with_reducible refine Kd.C_drewN ?_ _) | (with_reducible refine Kd.C_drew ?_))); (case side2 => exact HC0_0.out); (case side3 => repeat (first | exact (Kd.C_below HR1_0.out HB.out) | (with_reducible refine Kd.C_alloc ?_ _) | (with_reducible refine Kd.C_drewN ?_ _) | (with_reducible refine Kd.C_drew ?_))); (case side4 => exact HC1_0.out); rintro e w' ⟨rfl, ⟨nd, rfl⟩⟩; (try first | exact ⟨rfl, _, World.drewN_drewN _ _ _⟩ | exact ⟨rfl, _, Eq.trans (World.drewN_drewN _ _ _) (congrArg (World.drewN _) (Nat.add_assoc _ _ _))⟩)) | (go_at_call 53; (with_reducible refine (spileref19_same.calls k _ _ l0_1 _ _ l1_1 false _ ?side1 ?side2 ?side3 ?side4 A8.out).mono ?_); (case side1 => repeat (first | exact (Kd.C_below HR0_1.out (eG HB.out)) | (with_reducible refine Kd.C_alloc ?_ _) | (with_reducible refine Kd.C_drewN ?_ _) | (with_reducible refine Kd.C_drew ?_))); (case side2 => exact HC0_1.out); (case side3 => repeat (first | exact (Kd.C_below HR1_1.out (eG HB.out)) | (with_reducible refine Kd.C_alloc ?_ _) | (with_reducible refine Kd.C_drewN ?_ _) | (with_reducible refine Kd.C_drew ?_))); (case side4 => exact HC1_1.out); rintro e w' ⟨rfl, ⟨nd, rfl⟩⟩; (try first | exact ⟨rfl, _, World.drewN_drewN _ _ _⟩ | exact ⟨rfl, _, Eq.trans (World.drewN_drewN _ _ _) (congrArg (World.drewN _) (Nat.add_assoc _ _ _))⟩)))
    repeat (go_quiet (first | (go_at_call 53; (with_reducible refine (spileref19_same.calls k _ _ l0_0 _ _ l1_0 true _ ?side1 ?side2 ?side3 ?side4 A6.out).mono ?_); (case side1 => repeat (first | exact (Kd.C_below HR0_0.out HB.out) | (with_reducible refine Kd.C_alloc ?_ _) | (with_reducible refine Kd.C_drewN ?_ _) | (with_reducible refine Kd.C_drew ?_))); (case side2 => exact HC0_0.out); (case side3 => repeat (first | exact (Kd.C_below HR1_0.out HB.out) | (with_reducible refine Kd.C_alloc ?_ _) | (with_reducible refine Kd.C_drewN ?_ _) | (with_reducible refine Kd.C_drew ?_))); (case side4 => exact HC1_0.out); rintro e w' ⟨rfl, ⟨nd, rfl⟩⟩; (try first | exact ⟨rfl, _, World.drewN_drewN _ _ _⟩ | exact ⟨rfl, _, Eq.trans (World.drewN_drewN _ _ _) (congrArg (World.drewN _) (Nat.add_assoc _ _ _))⟩)) | (go_at_call 53; (with_reducible refine (spileref19_same.calls k _ _ l0_1 _ _ l1_1 false _ ?side1 ?side2 ?side3 ?side4 A8.out).mono ?_); (case side1 => repeat (first | exact (Kd.C_below HR0_1.out (eG HB.out)) | (with_reducible refine Kd.C_alloc ?_ _) | (with_reducible refine Kd.C_drewN ?_ _) | (with_reducible refine Kd.C_drew ?_))); (case side2 => exact HC0_1.out); (case side3 => repeat (first | exact (Kd.C_below HR1_1.out (eG HB.out)) | (with_reducible refine Kd.C_alloc ?_ _) | (with_reducible refine Kd.C_drewN ?_ _) | (with_reducible refine Kd.C_drew ?_))); (case side4 => exact HC1_1.out); rintro e w' ⟨rfl, ⟨nd, rfl⟩⟩; (try first | exact ⟨rfl, _, World.drewN_drewN _ _ _⟩ | exact ⟨rfl, _, Eq.trans (World.drewN_drewN _ _ _) (congrArg (World.drewN _) (Nat.add_assoc _ _ _))⟩))); try go_wp2_with (first | (go_at_call 53; (with_reducible refine (spileref19_same.calls k _ _ l0_0 _ _ l1_0 true _ ?side1 ?side2 ?side3 ?side4 A6.out).mono ?_); (case side1 => repeat (first | exact (Kd.C_below HR0_0.out HB.out) | (with_reducible refine Kd.C_alloc ?_ _) | (with_reducible refine Kd.C_drewN ?_ _) | (with_reducible refine Kd.C_drew ?_))); (case side2 => exact HC0_0.out); (case side3 => repeat (first | exact (Kd.C_below HR1_0.out HB.out) | (with_reducible refine Kd.C_alloc ?_ _) | (with_reducible refine Kd.C_drewN ?_ _) | (with_reducible refine Kd.C_drew ?_))); (case side4 => exact HC1_0.out); rintro e w' ⟨rfl, ⟨nd, rfl⟩⟩; (try first | exact ⟨rfl, _, World.drewN_drewN _ _ _⟩ | exact ⟨rfl, _, Eq.trans (World.drewN_drewN _ _ _) (congrArg (World.drewN _) (Nat.add_assoc _ _ _))⟩)) | (go_at_call 53; (with_reducible refine (spileref19_same.calls k _ _ l0_1 _ _ l1_1 false _ ?side1 ?side2 ?side3 ?side4 A8.out).mono ?_); (case side1 => repeat (first | exact (Kd.C_below HR0_1.out (eG HB.out)) | (with_reducible refine Kd.C_alloc ?_ _) | (with_reducible refine Kd.C_drewN ?_ _) | (with_reducible refine Kd.C_drew ?_))); (case side2 => exact HC0_1.out); (case side3 => repeat (first | exact (Kd.C_below HR1_1.out (eG HB.out)) | (with_reducible refine Kd.C_alloc ?_ _) | (with_reducible refine Kd.C_drewN ?_ _) | (with_reducible refine Kd.C_drew ?_))); (case side4 => exact HC1_1.out); rintro e w' ⟨rfl, ⟨nd, rfl⟩⟩; (try first | exact ⟨rfl, _, World.drewN_drewN _ _ _⟩ | exact ⟨rfl, _, Eq.trans (World.drewN_drewN _ _ _) (congrArg (World.drewN _) (Nat.add_assoc _ _ _))⟩))))
    go_meet
    case rel => exact ⟨_, (true), (by first | rfl | (simp; done) | (simp [*]; done)), H', ⟨by first | omega | exact Nat.le_refl _⟩, ⟨by (with_reducible repeat first | apply bN | apply bD | apply bA); exact BK503.out⟩, ⟨by (with_reducible repeat first | apply bN | apply bD | apply bA); exact BK504.out⟩, ⟨eG HB.out⟩⟩
  ·
   replace c7 := Bool.eq_false_iff.mpr c7; subst c7; replace H : (spileref19_Same.j0 k true l0_0 l0_1 l0_2 l1_0 l1_1 l1_2) = some r := by rw [if_neg (show ¬ (false = true) by decide)] at H; exact H
   have H' := Aside0.mk H; clear H; have hnb16 := NB503_504.out; have hnc16 := NB504_503.out; have hcz17_0 : w5.cell? ⟨gb503, 0, none⟩ = some (.slice A0_0 l0_0.length c0_0) := (blk_cell BK503.out 0).trans rfl; have hcz17_1 : w5.cell? ⟨gb503, 1, none⟩ = some (.slice A0_1 l0_1.length c0_1) := (blk_cell BK503.out 1).trans rfl; have hcz17_2 : w5.cell? ⟨gb503, 2, none⟩ = some (.slice A0_2 l0_2.length c0_2) := (blk_cell BK503.out 2).trans rfl; have hfz17_0 := blk_frozen BK503.out 0; have hfz17_1 := blk_frozen BK503.out 1; have hfz17_2 := blk_frozen BK503.out 2; have hcz18_0 : w5.cell? ⟨gb504, 0, none⟩ = some (.slice A1_0 l1_0.length c1_0) := (blk_cell BK504.out 0).trans rfl; have hcz18_1 : w5.cell? ⟨gb504, 1, none⟩ = some (.slice A1_1 l1_1.length c1_1) := (blk_cell BK504.out 1).trans rfl; have hcz18_2 : w5.cell? ⟨gb504, 2, none⟩ = some (.slice A1_2 l1_2.length c1_2) := (blk_cell BK504.out 2).trans rfl; have hfz18_0 := blk_frozen BK504.out 0; have hfz18_1 := blk_frozen BK504.out 1; have hfz18_2 := blk_frozen BK504.out 2; go_wp2_with (first | (go_at_call 53; (with_reducible refine (spileref19_same.calls k _ _ l0_0 _ _ l1_0 false _ ?side1 ?side2 ?side3 ?side4 A6.out).mono ?_); (case side1 => repeat (first | exact (Kd.C_below HR0_0.out HB.out) | (with_reducible refine Kd.C_alloc ?_ _) | (with_reducible refine Kd.C_drewN ?_ _) | (with_reducible refine Kd.C_drew ?_))); (case side2 => exact HC0_0.out); (case side3 => repeat (first | exact (Kd.C_below HR1_0.out HB.out) | (with_reducible refine Kd.C_alloc ?_ _) | (with_reducible refine Kd.C_drewN ?_ _) | (with_reducible refine Kd.C_drew ?_))); (case side4 => exact HC1_0.out); rintro e w' ⟨rfl, ⟨nd, rfl⟩⟩; (try first | exact ⟨rfl, _, World.drewN_drewN _ _ _⟩ | exact ⟨rfl, _, Eq.trans (World.drewN_drewN _ _ _) (congrArg (World.drewN _) (Nat.add_assoc _ _ _))⟩)))
   repeat (go_quiet (first | (go_at_call 53; (with_reducible refine (spileref19_same.calls k _ _ l0_0 _ _ l1_0 false _ ?side1 ?side2 ?side3 ?side4 A6.out).mono ?_); (case side1 => repeat (first | exact (Kd.C_below HR0_0.out HB.out) | (with_reducible refine Kd.C_alloc ?_ _) | (with_reducible refine Kd.C_drewN ?_ _) | (with_reducible refine Kd.C_drew ?_))); (case side2 => exact HC0_0.out); (case side3 => repeat (first | exact (Kd.C_below HR1_0.out HB.out) | (with_reducible refine Kd.C_alloc ?_ _) | (with_reducible refine Kd.C_drewN ?_ _) | (with_reducible refine Kd.C_drew ?_))); (case side4 => exact HC1_0.out); rintro e w' ⟨rfl, ⟨nd, rfl⟩⟩; (try first | exact ⟨rfl, _, World.drewN_drewN _ _ _⟩ | exact ⟨rfl, _, Eq.trans (World.drewN_drewN _ _ _) (congrArg (World.drewN _) (Nat.add_assoc _ _ _))⟩))); try go_wp2_with (first | (go_at_call 53; (with_reducible refine (spileref19_same.calls k _ _ l0_0 _ _ l1_0 false _ ?side1 ?side2 ?side3 ?side4 A6.out).mono ?_); (case side1 => repeat (first | exact (Kd.C_below HR0_0.out HB.out) | (with_reducible refine Kd.C_alloc ?_ _) | (with_reducible refine Kd.C_drewN ?_ _) | (with_reducible refine Kd.C_drew ?_))); (case side2 => exact HC0_0.out); (case side3 => repeat (first | exact (Kd.C_below HR1_0.out HB.out) | (with_reducible refine Kd.C_alloc ?_ _) | (with_reducible refine Kd.C_drewN ?_ _) | (with_reducible refine Kd.C_drew ?_))); (case side4 => exact HC1_0.out); rintro e w' ⟨rfl, ⟨nd, rfl⟩⟩; (try first | exact ⟨rfl, _, World.drewN_drewN _ _ _⟩ | exact ⟨rfl, _, Eq.trans (World.drewN_drewN _ _ _) (congrArg (World.drewN _) (Nat.add_assoc _ _ _))⟩))))
   go_meet
   case rel => exact ⟨_, (true), (by first | rfl | (simp; done) | (simp [*]; done)), H', ⟨by first | omega | exact Nat.le_refl _⟩, ⟨by (with_reducible repeat first | apply bN | apply bD | apply bA); exact BK503.out⟩, ⟨by (with_reducible repeat first | apply bN | apply bD | apply bA); exact BK504.out⟩, ⟨eG HB.out⟩⟩
 case rest =>
  clear HC3; repeat first | clear c1 | clear c2 | clear p2 | clear c7 | clear c9 | clear c10 | clear c13 | clear c16 | clear hcz11_0 | clear hcz11_1 | clear hcz11_2 | clear hcz12_0 | clear hcz12_1 | clear hcz12_2 | clear hcz14_0 | clear hcz14_1 | clear hcz14_2 | clear hcz15_0 | clear hcz15_1 | clear hcz15_2 | clear hcz17_0 | clear hcz17_1 | clear hcz17_2 | clear hcz18_0 | clear hcz18_1 | clear hcz18_2 | clear hfz11_0 | clear hfz11_1 | clear hfz11_2 | clear hfz12_0 | clear hfz12_1 | clear hfz12_2 | clear hfz14_0 | clear hfz14_1 | clear hfz14_2 | clear hfz15_0 | clear hfz15_1 | clear hfz15_2 | clear hfz17_0 | clear hfz17_1 | clear hfz17_2 | clear hfz18_0 | clear hfz18_1 | clear hfz18_2
  obtain ⟨kq, x28_2, rfl, HA, HJ2, BK503, BK504, HB⟩ := hcut
  cases kq with
  | zero => exact absurd HA.out (by simp [spileref19_Same.j0])
  | succ kj2 =>
   have H := HA.out; clear HA; simp only [spileref19_Same.j0] at H; by_cases c19 : x28_2 = true
   ·
    subst c19; replace H : (some false) = some r := by rw [if_pos rfl] at H; exact H
    obtain rfl := Option.some.inj H; go_wp2; repeat (go_quiet (fail); try go_wp2)
    go_ret
    exact ⟨by first | rfl | (simp [errW_none, errW_some] <;> rfl) | (simp [*, errW_none, errW_some] <;> rfl), eG HB.out⟩
   ·
    replace c19 := Bool.eq_false_iff.mpr c19; subst c19; replace H : (spileref19_Same.l0 kj2 0 l0_0 l0_1 l0_2 l1_0 l1_1 l1_2) = some r := by rw [if_neg (show ¬ (false = true) by decide)] at H; exact H
    have H' := Aside0.mk H; clear H; go_wp2; repeat (go_quiet (fail); try go_wp2)
    go_loopg [5] kj2 (fun kq v5 w' => ∃ (x5_2 : Int), v5 = .int .i64 x5_2 ∧ Aside0 (spileref19_Same.l0 kq x5_2 l0_0 l0_1 l0_2 l1_0 l1_1 l1_2 = some r) ∧ Aside0 (kq ≤ kj2) ∧ Aside0 (w'.heap[gb503]? = some (.cells #[(.slice A0_0 l0_0.length c0_0), (.slice A0_1 l0_1.length c0_1), (.slice A0_2 l0_2.length c0_2)] 25 (0, 0))) ∧ Aside0 (w'.heap[gb504]? = some (.cells #[(.slice A1_0 l1_0.length c1_0), (.slice A1_1 l1_1.length c1_1), (.slice A1_2 l1_2.length c1_2)] 25 (0, 0))) ∧ Aside0 (Below w.heap.size w w'))
    case atStart => exact ⟨(0), (by first | rfl | (simp; done) | (simp [*]; done)), H', ⟨Nat.le_refl _⟩, ⟨by (with_reducible repeat first | apply bN | apply bD | apply bA); exact BK503.out⟩, ⟨by (with_reducible repeat first | apply bN | apply bD | apply bA); exact BK504.out⟩, ⟨eG HB.out⟩⟩
    case round =>
     clear H'; repeat first | clear c1 | clear c2 | clear p2 | clear c7 | clear c9 | clear c10 | clear c13 | clear c16 | clear c19 | clear hcz11_0 | clear hcz11_1 | clear hcz11_2 | clear hcz12_0 | clear hcz12_1 | clear hcz12_2 | clear hcz14_0 | clear hcz14_1 | clear hcz14_2 | clear hcz15_0 | clear hcz15_1 | clear hcz15_2 | clear hcz17_0 | clear hcz17_1 | clear hcz17_2 | clear hcz18_0 | clear hcz18_1 | clear hcz18_2 | clear hfz11_0 | clear hfz11_1 | clear hfz11_2 | clear hfz12_0 | clear hfz12_1 | clear hfz12_2 | clear hfz14_0 | clear hfz14_1 | clear hfz14_2 | clear hfz15_0 | clear hfz15_1 | clear hfz15_2 | clear hfz17_0 | clear hfz17_1 | clear hfz17_2 | clear hfz18_0 | clear hfz18_1 | clear hfz18_2 | clear p2
     obtain ⟨x5_2, rfl, HA, HK2, BK503, BK504, HB⟩ := hrel
     cases gk with
     | zero => exact absurd HA.out (by simp [spileref19_Same.l0])
     | succ k2 =>
      have H := HA.out; clear HA; simp only [spileref19_Same.l0] at H; by_cases c20 : x5_2 < (l0_2.length : Int)
      ·
       rw [if_pos c20] at H; have c20b0 : decide (x5_2 < (l0_2.length : Int)) = true := decide_eq_true c20; clear c20; by_cases c21 : 0 ≤ x5_2
       ·
        rw [if_pos c21] at H; have c21b0 : decide (0 ≤ x5_2) = true := decide_eq_true c21; clear c21; by_cases c22 : x5_2 < (l1_2.length : Int)
        ·
         rw [if_pos c22] at H; have c22b0 : decide (x5_2 < (l1_2.length : Int)) = true := decide_eq_true c22; clear c22; replace H := Option.bind_eq_some_iff.mp H; obtain ⟨t509, A230, H⟩ := H; replace H : (if t509 = true then (spileref19_Same.l0 k2 (wrap64 (x5_2 + 1)) l0_0 l0_1 l0_2 l1_0 l1_1 l1_2) else (some false)) = some r := H; have A23 := Aside0.mk A230; clear A230; by_cases c24 : t509 = true
         ·
          subst c24; replace H : (spileref19_Same.l0 k2 (wrap64 (x5_2 + 1)) l0_0 l0_1 l0_2 l1_0 l1_1 l1_2) = some r := by rw [if_pos rfl] at H; exact H
          have H' := Aside0.mk H; clear H; have hnb25 := NB503_504.out; have hnc25 := NB504_503.out; have hcz26_0 : wr.cell? ⟨gb503, 0, none⟩ = some (.slice A0_0 l0_0.length c0_0) := (blk_cell BK503.out 0).trans rfl; have hcz26_1 : wr.cell? ⟨gb503, 1, none⟩ = some (.slice A0_1 l0_1.length c0_1) := (blk_cell BK503.out 1).trans rfl; have hcz26_2 : wr.cell? ⟨gb503, 2, none⟩ = some (.slice A0_2 l0_2.length c0_2) := (blk_cell BK503.out 2).trans rfl; have hfz26_0 := blk_frozen BK503.out 0; have hfz26_1 := blk_frozen BK503.out 1; have hfz26_2 := blk_frozen BK503.out 2; have p507 : 0 ≤ (x5_2 : Int) := of_decide_eq_true (by first | (with_reducible assumption) | assumption); have q507 : x5_2 < (l0_2.length : Int) := of_decide_eq_true (by first | (with_reducible assumption) | assumption); obtain ⟨ad507, A507_0, c507_0, e507, hx507_0, hl507_0, hi507_0⟩ := at_L1 HR0_2.out x5_2 p507 q507; cases e507; replace hx507_0 := (HB.out.cell (World.block_lt_of_cell? w _ hx507_0)).trans hx507_0; have HR507_0 := Aside0.mk hi507_0; have HC507_0 := Aside0.mk hl507_0; clear hi507_0 hl507_0; replace p507 := eq_true p507; replace q507 := eq_true q507; have hcz27_0 : wr.cell? ⟨gb504, 0, none⟩ = some (.slice A1_0 l1_0.length c1_0) := (blk_cell BK504.out 0).trans rfl; have hcz27_1 : wr.cell? ⟨gb504, 1, none⟩ = some (.slice A1_1 l1_1.length c1_1) := (blk_cell BK504.out 1).trans rfl; have hcz27_2 : wr.cell? ⟨gb504, 2, none⟩ = some (.slice A1_2 l1_2.length c1_2) := (blk_cell BK504.out 2).trans rfl; have hfz27_0 := blk_frozen BK504.out 0; have hfz27_1 := blk_frozen BK504.out 1; have hfz27_2 := blk_frozen BK504.out 2; have p508 : 0 ≤ (x5_2 : Int) := of_decide_eq_true (by first | (with_reducible assumption) | assumption); have q508 : x5_2 < (l1_2.length : Int) := of_decide_eq_true (by first | (with_reducible assumption) | assumption); obtain ⟨ad508, A508_0, c508_0, e508, hx508_0, hl508_0, hi508_0⟩ := at_L1 HR1_2.out x5_2 p508 q508; cases e508; replace hx508_0 := (HB.out.cell (World.block_lt_of_cell? w _ hx508_0)).trans hx508_0; have HR508_0 := Aside0.mk hi508_0; have HC508_0 := Aside0.mk hl508_0; clear hi508_0 hl508_0; replace p508 := eq_true p508; replace q508 := eq_true q508; go_wp2_with (first | (go_at_call 53; (with_reducible refine (spileref19_same.calls k2 _ _ (rd_L1 l0_2 x5_2) _ _ (rd_L1 l1_2 x5_2) true _ ?side1 ?side2 ?side3 ?side4 A23.out).mono ?_); (case side1 => repeat (first | exact (Kd.C_below HR507_0.out HB.out) | (with_reducible refine Kd.C_alloc ?_ _) | (with_reducible refine Kd.C_drewN ?_ _) | (with_reducible refine Kd.C_drew ?_))); (case side2 => exact HC507_0.out); (case side3 => repeat (first | exact (Kd.C_below HR508_0.out HB.out) | (with_reducible refine Kd.C_alloc ?_ _) | (with_reducible refine Kd.C_drewN ?_ _) | (with_reducible refine Kd.C_drew ?_))); (case side4 => exact HC508_0.out); rintro e w' ⟨rfl, ⟨nd, rfl⟩⟩; (try first | exact ⟨rfl, _, World.drewN_drewN _ _ _⟩ | exact ⟨rfl, _, Eq.trans (World.drewN_drewN _ _ _) (congrArg (World.drewN _) (Nat.add_assoc _ _ _))⟩)))
          repeat (go_quiet (first | (go_at_call 53; (with_reducible refine (spileref19_same.calls k2 _ _ (rd_L1 l0_2 x5_2) _ _ (rd_L1 l1_2 x5_2) true _ ?side1 ?side2 ?side3 ?side4 A23.out).mono ?_); (case side1 => repeat (first | exact (Kd.C_below HR507_0.out HB.out) | (with_reducible refine Kd.C_alloc ?_ _) | (with_reducible refine Kd.C_drewN ?_ _) | (with_reducible refine Kd.C_drew ?_))); (case side2 => exact HC507_0.out); (case side3 => repeat (first | exact (Kd.C_below HR508_0.out HB.out) | (with_reducible refine Kd.C_alloc ?_ _) | (with_reducible refine Kd.C_drewN ?_ _) | (with_reducible refine Kd.C_drew ?_))); (case side4 => exact HC508_0.out); rintro e w' ⟨rfl, ⟨nd, rfl⟩⟩; (try first | exact ⟨rfl, _, World.drewN_drewN _ _ _⟩ | exact ⟨rfl, _, Eq.trans (World.drewN_drewN _ _ _) (congrArg (World.drewN _) (Nat.add_assoc _ _ _))⟩))); try go_wp2_with (first | (go_at_call 53; (with_reducible refine (spileref19_same.calls k2 _ _ (rd_L1 l0_2 x5_2) _ _ (rd_L1 l1_2 x5_2) true _ ?side1 ?side2 ?side3 ?side4 A23.out).mono ?_); (case side1 => repeat (first | exact (Kd.C_below HR507_0.out HB.out) | (with_reducible refine Kd.C_alloc ?_ _) | (with_reducible refine Kd.C_drewN ?_ _) | (with_reducible refine Kd.C_drew ?_))); (case side2 => exact HC507_0.out); (case side3 => repeat (first | exact (Kd.C_below HR508_0.out HB.out) | (with_reducible refine Kd.C_alloc ?_ _) | (with_reducible refine Kd.C_drewN ?_ _) | (with_reducible refine Kd.C_drew ?_))); (case side4 => exact HC508_0.out); rintro e w' ⟨rfl, ⟨nd, rfl⟩⟩; (try first | exact ⟨rfl, _, World.drewN_drewN _ _ _⟩ | exact ⟨rfl, _, Eq.trans (World.drewN_drewN _ _ _) (congrArg (World.drewN _) (Nat.add_assoc _ _ _))⟩))))
          go_roundg k2
          case measure => have := HJ2.out; have := HK2.out; omega
          case rel => exact ⟨(wrap64 (x5_2 + 1)), (by first | rfl | (simp; done) | (simp [*]; done)), H', ⟨by have := HJ2.out; have := HK2.out; omega⟩, ⟨by (with_reducible repeat first | apply bN | apply bD | apply bA); exact BK503.out⟩, ⟨by (with_reducible repeat first | apply bN | apply bD | apply bA); exact BK504.out⟩, ⟨eG HB.out⟩⟩
         ·
          replace c24 := Bool.eq_false_iff.mpr c24; subst c24; replace H : (some false) = some r := by rw [if_neg (show ¬ (false = true) by decide)] at H; exact H
          obtain rfl := Option.some.inj H; have hnb28 := NB503_504.out; have hnc28 := NB504_503.out; have hcz29_0 : wr.cell? ⟨gb503, 0, none⟩ = some (.slice A0_0 l0_0.length c0_0) := (blk_cell BK503.out 0).trans rfl; have hcz29_1 : wr.cell? ⟨gb503, 1, none⟩ = some (.slice A0_1 l0_1.length c0_1) := (blk_cell BK503.out 1).trans rfl; have hcz29_2 : wr.cell? ⟨gb503, 2, none⟩ = some (.slice A0_2 l0_2.length c0_2) := (blk_cell BK503.out 2).trans rfl; have hfz29_0 := blk_frozen BK503.out 0; have hfz29_1 := blk_frozen BK503.out 1; have hfz29_2 := blk_frozen BK503.out 2; have p507 : 0 ≤ (x5_2 : Int) := of_decide_eq_true (by first | (with_reducible assumption) | assumption); have q507 : x5_2 < (l0_2.length : Int) := of_decide_eq_true (by first | (with_reducible assumption) | assumption); obtain ⟨ad507, A507_0, c507_0, e507, hx507_0, hl507_0, hi507_0⟩ := at_L1 HR0_2.out x5_2 p507 q507; cases e507; replace hx507_0 := (HB.out.cell (World.block_lt_of_cell? w _ hx507_0)).trans hx507_0; have HR507_0 := Aside0.mk hi507_0; have HC507_0 := Aside0.mk hl507_0; clear hi507_0 hl507_0; replace p507 := eq_true p507; replace q507 := eq_true q507; have hcz30_0 : wr.cell? ⟨gb504, 0, none⟩ = some (.slice A1_0 l1_0.length c1_0) := (blk_cell BK504.out 0).trans rfl; have hcz30_1 : wr.cell? ⟨gb504, 1, none⟩ = some (.slice A1_1 l1_1.length c1_1) := (blk_cell BK504.out 1).trans rfl; have hcz30_2 : wr.cell? ⟨gb504, 2, none⟩ = some (.slice A1_2 l1_2.length c1_2) := (blk_cell BK504.out 2).trans rfl; have hfz30_0 := blk_frozen BK504.out 0; have hfz30_1 := blk_frozen BK504.out 1; have hfz30_2 := blk_frozen BK504.out 2; have p508 : 0 ≤ (x5_2 : Int) := of_decide_eq_true (by first | (with_reducible assumption) | assumption); have q508 : x5_2 < (l1_2.length : Int) := of_decide_eq_true (by first | (with_reducible assumption) | assumption); obtain ⟨ad508, A508_0, c508_0, e508, hx508_0, hl508_0, hi508_0⟩ := at_L1 HR1_2.out x5_2 p508 q508; cases e508; replace hx508_0 := (HB.out.cell (World.block_lt_of_cell? w _ hx508_0)).trans hx508_0; have HR508_0 := Aside0.mk hi508_0; have HC508_0 := Aside0.mk hl508_0; clear hi508_0 hl508_0; replace p508 := eq_true p508; replace q508 := eq_true q508; go_wp2_with (first | (go_at_call 53; (with_reducible refine (spileref19_same.calls k2 _ _ (rd_L1 l0_2 x5_2) _ _ (rd_L1 l1_2 x5_2) false _ ?side1 ?side2 ?side3 ?side4 A23.out).mono ?_); (case side1 => repeat (first | exact (Kd.C_below HR507_0.out HB.out) | (with_reducible refine Kd.C_alloc ?_ _) | (with_reducible refine Kd.C_drewN ?_ _) | (with_reducible refine Kd.C_drew ?_))); (case side2 => exact HC507_0.out); (case side3 => repeat (first | exact (Kd.C_below HR508_0.out HB.out) | (with_reducible refine Kd.C_alloc ?_ _) | (with_reducible refine Kd.C_drewN ?_ _) | (with_reducible refine Kd.C_drew ?_))); (case side4 => exact HC508_0.out); rintro e w' ⟨rfl, ⟨nd, rfl⟩⟩; (try first | exact ⟨rfl, _, World.drewN_drewN _ _ _⟩ | exact ⟨rfl, _, Eq.trans (World.drewN_drewN _ _ _) (congrArg (World.drewN _) (Nat.add_assoc _ _ _))⟩)))
          repeat (go_quiet (first | (go_at_call 53; (with_reducible refine (spileref19_same.calls k2 _ _ (rd_L1 l0_2 x5_2) _ _ (rd_L1 l1_2 x5_2) false _ ?side1 ?side2 ?side3 ?side4 A23.out).mono ?_); (case side1 => repeat (first | exact (Kd.C_below HR507_0.out HB.out) | (with_reducible refine Kd.C_alloc ?_ _) | (with_reducible refine Kd.C_drewN ?_ _) | (with_reducible refine Kd.C_drew ?_))); (case side2 => exact HC507_0.out); (case side3 => repeat (first | exact (Kd.C_below HR508_0.out HB.out) | (with_reducible refine Kd.C_alloc ?_ _) | (with_reducible refine Kd.C_drewN ?_ _) | (with_reducible refine Kd.C_drew ?_))); (case side4 => exact HC508_0.out); rintro e w' ⟨rfl, ⟨nd, rfl⟩⟩; (try first | exact ⟨rfl, _, World.drewN_drewN _ _ _⟩ | exact ⟨rfl, _, Eq.trans (World.drewN_drewN _ _ _) (congrArg (World.drewN _) (Nat.add_assoc _ _ _))⟩))); try go_wp2_with (first | (go_at_call 53; (with_reducible refine (spileref19_same.calls k2 _ _ (rd_L1 l0_2 x5_2) _ _ (rd_L1 l1_2 x5_2) false _ ?side1 ?side2 ?side3 ?side4 A23.out).mono ?_); (case side1 => repeat (first | exact (Kd.C_below HR507_0.out HB.out) | (with_reducible refine Kd.C_alloc ?_ _) | (with_reducible refine Kd.C_drewN ?_ _) | (with_reducible refine Kd.C_drew ?_))); (case side2 => exact HC507_0.out); (case side3 => repeat (first | exact (Kd.C_below HR508_0.out HB.out) | (with_reducible refine Kd.C_alloc ?_ _) | (with_reducible refine Kd.C_drewN ?_ _) | (with_reducible refine Kd.C_drew ?_))); (case side4 => exact HC508_0.out); rintro e w' ⟨rfl, ⟨nd, rfl⟩⟩; (try first | exact ⟨rfl, _, World.drewN_drewN _ _ _⟩ | exact ⟨rfl, _, Eq.trans (World.drewN_drewN _ _ _) (congrArg (World.drewN _) (Nat.add_assoc _ _ _))⟩))))
          go_ret
          exact ⟨by first | rfl | (simp [errW_none, errW_some] <;> rfl) | (simp [*, errW_none, errW_some] <;> rfl), eG HB.out⟩
        · rw [if_neg c22] at H; exact absurd H (by simp)
       · rw [if_neg c21] at H; exact absurd H (by simp)
      ·
       rw [if_neg c20] at H; have c20b0 : decide (x5_2 < (l0_2.length : Int)) = false := decide_eq_false c20; clear c20; obtain rfl := Option.some.inj H; have hnb31 := NB503_504.out; have hnc31 := NB504_503.out; have hcz32_0 : wr.cell? ⟨gb503, 0, none⟩ = some (.slice A0_0 l0_0.length c0_0) := (blk_cell BK503.out 0).trans rfl; have hcz32_1 : wr.cell? ⟨gb503, 1, none⟩ = some (.slice A0_1 l0_1.length c0_1) := (blk_cell BK503.out 1).trans rfl; have hcz32_2 : wr.cell? ⟨gb503, 2, none⟩ = some (.slice A0_2 l0_2.length c0_2) := (blk_cell BK503.out 2).trans rfl; have hfz32_0 := blk_frozen BK503.out 0; have hfz32_1 := blk_frozen BK503.out 1; have hfz32_2 := blk_frozen BK503.out 2; go_wp2; repeat (go_quiet (fail); try go_wp2)
       go_ret
       exact ⟨by first | rfl | (simp [errW_none, errW_some] <;> rfl) | (simp [*, errW_none, errW_some] <;> rfl), eG HB.out⟩
end Go.Proofs.YtmdfnambaedllaaDoor.Pr
namespace Go.Proofs.YtmdfnambaedllaaDoor.Pr
open Go.RowKit Go.Proofs.YtmdfnambaedllaaDoorW.PrintWords Go.Proofs.YtmdfnambaedllaaDoorW.PrintLast Go.Proofs.YtmdfnambaedllaaDoorW.PrintMore Go.Proofs.YtmdfnambaedllaaDoor.X
attribute [local go_sem] max2_int min2_int max_two min_two max_three min_three max_four min_four   -- for this text's walks alone
set_option linter.unusedVariables false
set_option linter.unusedSimpArgs false
mutual
def spilelaw19_CorrectBack.j0 : Nat → ByteArray → Bool → List Int → List Int → List (List Int) → Option (Bool)
 | 0, _, _, _, _, _ => none
 | k + 1, x1, x24, x543000, x543001, x543002 => if x24 = true then (some true) else ((correct_Print.f k x543000 x543001 x543002).bind fun bt545 => (if bt545.2 = 0 then ((correct_Parse.f k bt545.1).bind fun bt547 => (if bt547.2.2.2.2 = 0 then (if bt547.2.2.2.1 = (-1) then ((spileref19_Same.f k bt547.1 bt547.2.1 bt547.2.2.1 x543000 x543001 x543002).bind fun t559 => (if t559 = true then (spilelaw19_CorrectBack.j1 k x1) else (none))) else (none)) else (none))) else (if bt545.1.toList = ([] : List UInt8) then (spilelaw19_CorrectBack.j1 k x1) else (none))))
def spilelaw19_CorrectBack.j1 : Nat → ByteArray → Option (Bool)
 | 0, _ => none
 | k + 1, x1 => (correct_Parse.f k x1).bind fun bt560 => (if bt560.2.2.2.2 = 0 then ((correct_Print.f k bt560.1 bt560.2.1 bt560.2.2.1).bind fun bt572 => (if bt572.2 = 0 then (some (bt572.1.toList == x1.toList)) else (none))) else (if (bt560.1.length : Int) = 0 then (some ((bt560.2.2.1.length : Int) == 0)) else (none)))
end
def spilelaw19_CorrectBack.f (k : Nat) (l0_0 : List Int) (l0_1 : List Int) (l0_2 : List (List Int)) (a1 : ByteArray) : Option (Bool) := (spilelaw19_awake.f).bind fun t543 => (if t543 = true then ((spileref19_Few.f k l0_0 l0_1 l0_2).bind fun t544 => (if t544 = true then (spilelaw19_CorrectBack.j0 k a1 (decide ((a1.size : Int) > 1000)) l0_0 l0_1 l0_2) else (spilelaw19_CorrectBack.j0 k a1 true l0_0 l0_1 l0_2))) else (none))
set_option maxHeartbeats 8000000 in
set_option maxRecDepth 100000 in
theorem spilelaw19_CorrectBack.calls (k : Nat) (A0_0 : Option Addr) (c0_0 : Nat) (l0_0 : List Int) (A0_1 : Option Addr) (c0_1 : Nat) (l0_1 : List Int) (A0_2 : Option Addr) (c0_2 : Nat) (l0_2 : List (List Int)) (a1 : ByteArray) (r : Bool) (w : World) (hr0_0 : Kd.C (Kd.int .i64) w A0_0 l0_0.length l0_0) (hc0_0 : l0_0.length ≤ c0_0) (hr0_1 : Kd.C (Kd.int .i64) w A0_1 l0_1.length l0_1) (hc0_1 : l0_1.length ≤ c0_1) (hr0_2 : Kd.C (Kd.slice 3 (Kd.int .i64)) w A0_2 l0_2.length l0_2) (hc0_2 : l0_2.length ≤ c0_2) (hG : GI w) (h : spilelaw19_CorrectBack.f k l0_0 l0_1 l0_2 a1 = some r) :
  Calls Tryd.prog 9 #[.agg #[.slice A0_0 l0_0.length c0_0, .slice A0_1 l0_1.length c0_1, .slice A0_2 l0_2.length c0_2], .string a1] w fun e w' => e = .returned (.bool r) ∧ Below w.heap.size w w' := by
 have hu25 := Tryd.underlying25; have HR0_0 := Aside0.mk hr0_0; have HC0_0 := Aside0.mk hc0_0; clear hr0_0 hc0_0; have HR0_1 := Aside0.mk hr0_1; have HC0_1 := Aside0.mk hc0_1; clear hr0_1 hc0_1; have HR0_2 := Aside0.mk hr0_2; have HC0_2 := Aside0.mk hc0_2; clear hr0_2 hc0_2; have HG := Aside0.mk hG; clear hG; have HB := Aside0.mk (Below.refl w.heap.size w); have H : ((spilelaw19_awake.f).bind fun t543 => (if t543 = true then ((spileref19_Few.f k l0_0 l0_1 l0_2).bind fun t544 => (if t544 = true then (spilelaw19_CorrectBack.j0 k a1 (decide ((a1.size : Int) > 1000)) l0_0 l0_1 l0_2) else (spilelaw19_CorrectBack.j0 k a1 true l0_0 l0_1 l0_2))) else (none))) = some r := h; clear h; replace H := Option.bind_eq_some_iff.mp H; obtain ⟨t543, A30, H⟩ := H; replace H : (if t543 = true then ((spileref19_Few.f k l0_0 l0_1 l0_2).bind fun t544 => (if t544 = true then (spilelaw19_CorrectBack.j0 k a1 (decide ((a1.size : Int) > 1000)) l0_0 l0_1 l0_2) else (spilelaw19_CorrectBack.j0 k a1 true l0_0 l0_1 l0_2))) else (none)) = some r := H; have A3 := Aside0.mk A30; clear A30; by_cases c4 : t543 = true
 ·
  subst c4; replace H : ((spileref19_Few.f k l0_0 l0_1 l0_2).bind fun t544 => (if t544 = true then (spilelaw19_CorrectBack.j0 k a1 (decide ((a1.size : Int) > 1000)) l0_0 l0_1 l0_2) else (spilelaw19_CorrectBack.j0 k a1 true l0_0 l0_1 l0_2))) = some r := by rw [if_pos rfl] at H; exact H
  have HC5 := Aside0.mk H; clear H; go_enter Tryd.func9, Tryd.ntmps9
  go_upto_region 3 with (first | ((with_reducible refine gate_dst (N := 2) rfl ?_); (try (refine gate_guard (by rfl) ?_; dsimp only)); refine box_event ?hg (N := 2) ?hd (cs := #[.slice A0_0 l0_0.length c0_0, .slice A0_1 l0_1.length c0_1, .slice A0_2 l0_2.length c0_2]) (t := 25) ?hr ?_; (case hd => rfl); (case hg => rfl); (case hr => first | (go_simp; done) | (go_simp; rfl)); intro gb542 hg w6 hbox hb; have n0_ := Aside0.mk (below_step (eG HB.out) hb); have n1_ := Aside0.mk (hbox); have n2_ := Aside0.mk ((by rw [hg]; exact (below_size (eG HB.out)) : w.heap.size ≤ gb542)); have n3_ := Aside0.mk ((by rw [hg]; exact (below_size (eG HB.out)) : w.heap.size ≤ gb542)); clear HB; have HB := n0_; have BK542 := n1_; have GW542 := n2_; have GE542 := n3_; have ig542_ := geI GE542; clear n0_ n1_ n2_ n3_; clear hb hbox hg) | ((with_reducible refine gate_callee (f := 10) rfl ?_); refine goesL_ (some 15) rfl rfl Tryd.func10 (by kernel_rfl) rfl #[] rfl (by (try simp only [List.map_toArray, List.map_cons, List.map_nil]); first | done | rfl | (simp only [List.length_drop, List.length_take]; rfl)) ?_; (with_reducible refine (spilelaw19_awake.calls  true _ ?side1 A3.out).mono ?_); (case side1 => exact GI.below HG.out (eG HB.out)); rintro e w7 ⟨rfl, hb⟩; refine ⟨_, rfl, ?_⟩; have n0_ := Aside0.mk (blk_below (bG BK542.out) hb); have n1_ := Aside0.mk (below_step (eG HB.out) hb); clear BK542; clear HB; have BK542 := n0_; have HB := n1_; clear n0_ n1_; (try clear hb); (try clear hb2); (try clear hk); (try clear hi)))
  (try simp only [Act.put, sIA, sC0, sCS])
  go_cut [24] (fun v24 wc => ∃ (kq : Nat) (x24_4 : Bool), v24 = .bool x24_4 ∧ Aside0 (spilelaw19_CorrectBack.j0 kq a1 x24_4 l0_0 l0_1 l0_2 = some r) ∧ Aside0 (kq ≤ k) ∧ Aside0 (wc.heap[gb542]? = some (.cells #[(.slice A0_0 l0_0.length c0_0), (.slice A0_1 l0_1.length c0_1), (.slice A0_2 l0_2.length c0_2)] 25 (0, 0))) ∧ Aside0 (Below w.heap.size w wc))
  case first =>
   have H := HC5.out; clear HC5; replace H := Option.bind_eq_some_iff.mp H; obtain ⟨t544, A80, H⟩ := H; replace H : (if t544 = true then (spilelaw19_CorrectBack.j0 k a1 (decide ((a1.size : Int) > 1000)) l0_0 l0_1 l0_2) else (spilelaw19_CorrectBack.j0 k a1 true l0_0 l0_1 l0_2)) = some r := H; have A8 := Aside0.mk A80; clear A80; by_cases c9 : t544 = true
   ·
    subst c9; replace H : (spilelaw19_CorrectBack.j0 k a1 (decide ((a1.size : Int) > 1000)) l0_0 l0_1 l0_2) = some r := by rw [if_pos rfl] at H; exact H
    have H' := Aside0.mk H; clear H; have hcz10_0 : w7.cell? ⟨gb542, 0, none⟩ = some (.slice A0_0 l0_0.length c0_0) := (blk_cell BK542.out 0).trans rfl; have hcz10_1 : w7.cell? ⟨gb542, 1, none⟩ = some (.slice A0_1 l0_1.length c0_1) := (blk_cell BK542.out 1).trans rfl; have hcz10_2 : w7.cell? ⟨gb542, 2, none⟩ = some (.slice A0_2 l0_2.length c0_2) := (blk_cell BK542.out 2).trans rfl; have hfz10_0 := blk_frozen BK542.out 0; have hfz10_1 := blk_frozen BK542.out 1; have hfz10_2 := blk_frozen BK542.out 2; go_wp2_with (first | ((with_reducible refine gate_callee (f := 11) rfl ?_); refine goesL_ (some 18) rfl rfl Tryd.func11 (by kernel_rfl) rfl #[.agg #[.slice A0_0 l0_0.length c0_0, .slice A0_1 l0_1.length c0_1, .slice A0_2 l0_2.length c0_2]] rfl (by (try simp only [List.map_toArray, List.map_cons, List.map_nil]); first | done | rfl | (simp only [List.length_drop, List.length_take]; rfl)) ?_; (with_reducible refine (spileref19_Few.calls k _ _ l0_0 _ _ l0_1 _ _ l0_2 true _ ?side1 ?side2 ?side3 ?side4 ?side5 ?side6 A8.out).mono ?_); (case side1 => repeat (first | exact (Kd.C_below HR0_0.out HB.out) | (with_reducible refine Kd.C_alloc ?_ _) | (with_reducible refine Kd.C_drewN ?_ _) | (with_reducible refine Kd.C_drew ?_))); (case side2 => exact HC0_0.out); (case side3 => repeat (first | exact (Kd.C_below HR0_1.out HB.out) | (with_reducible refine Kd.C_alloc ?_ _) | (with_reducible refine Kd.C_drewN ?_ _) | (with_reducible refine Kd.C_drew ?_))); (case side4 => exact HC0_1.out); (case side5 => repeat (first | exact (Kd.C_below HR0_2.out HB.out) | (with_reducible refine Kd.C_alloc ?_ _) | (with_reducible refine Kd.C_drewN ?_ _) | (with_reducible refine Kd.C_drew ?_))); (case side6 => exact HC0_2.out); rintro e w11 ⟨rfl, hb⟩; refine ⟨_, rfl, ?_⟩; have n0_ := Aside0.mk (blk_below (bG BK542.out) hb); have n1_ := Aside0.mk (below_step (eG HB.out) hb); clear BK542; clear HB; have BK542 := n0_; have HB := n1_; clear n0_ n1_; (try clear hb); (try clear hb2); (try clear hk); (try clear hi)))
    go_meet
    case rel => exact ⟨_, (decide ((a1.size : Int) > 1000)), (by first | rfl | (simp; done) | (simp [*]; done)), H', ⟨by first | omega | exact Nat.le_refl _⟩, ⟨by (with_reducible repeat first | apply bN | apply bD | apply bA); exact BK542.out⟩, ⟨eG HB.out⟩⟩
   ·
    replace c9 := Bool.eq_false_iff.mpr c9; subst c9; replace H : (spilelaw19_CorrectBack.j0 k a1 true l0_0 l0_1 l0_2) = some r := by rw [if_neg (show ¬ (false = true) by decide)] at H; exact H
    have H' := Aside0.mk H; clear H; have hcz12_0 : w7.cell? ⟨gb542, 0, none⟩ = some (.slice A0_0 l0_0.length c0_0) := (blk_cell BK542.out 0).trans rfl; have hcz12_1 : w7.cell? ⟨gb542, 1, none⟩ = some (.slice A0_1 l0_1.length c0_1) := (blk_cell BK542.out 1).trans rfl; have hcz12_2 : w7.cell? ⟨gb542, 2, none⟩ = some (.slice A0_2 l0_2.length c0_2) := (blk_cell BK542.out 2).trans rfl; have hfz12_0 := blk_frozen BK542.out 0; have hfz12_1 := blk_frozen BK542.out 1; have hfz12_2 := blk_frozen BK542.out 2; go_wp2_with (first | ((with_reducible refine gate_callee (f := 11) rfl ?_); refine goesL_ (some 18) rfl rfl Tryd.func11 (by kernel_rfl) rfl #[.agg #[.slice A0_0 l0_0.length c0_0, .slice A0_1 l0_1.length c0_1, .slice A0_2 l0_2.length c0_2]] rfl (by (try simp only [List.map_toArray, List.map_cons, List.map_nil]); first | done | rfl | (simp only [List.length_drop, List.length_take]; rfl)) ?_; (with_reducible refine (spileref19_Few.calls k _ _ l0_0 _ _ l0_1 _ _ l0_2 false _ ?side1 ?side2 ?side3 ?side4 ?side5 ?side6 A8.out).mono ?_); (case side1 => repeat (first | exact (Kd.C_below HR0_0.out HB.out) | (with_reducible refine Kd.C_alloc ?_ _) | (with_reducible refine Kd.C_drewN ?_ _) | (with_reducible refine Kd.C_drew ?_))); (case side2 => exact HC0_0.out); (case side3 => repeat (first | exact (Kd.C_below HR0_1.out HB.out) | (with_reducible refine Kd.C_alloc ?_ _) | (with_reducible refine Kd.C_drewN ?_ _) | (with_reducible refine Kd.C_drew ?_))); (case side4 => exact HC0_1.out); (case side5 => repeat (first | exact (Kd.C_below HR0_2.out HB.out) | (with_reducible refine Kd.C_alloc ?_ _) | (with_reducible refine Kd.C_drewN ?_ _) | (with_reducible refine Kd.C_drew ?_))); (case side6 => exact HC0_2.out); rintro e w13 ⟨rfl, hb⟩; refine ⟨_, rfl, ?_⟩; have n0_ := Aside0.mk (blk_below (bG BK542.out) hb); have n1_ := Aside0.mk (below_step (eG HB.out) hb); clear BK542; clear HB; have BK542 := n0_; have HB := n1_; clear n0_ n1_; (try clear hb); (try clear hb2); (try clear hk); (try clear hi)))
    go_meet
    case rel => exact ⟨_, (true), (by first | rfl | (simp; done) | (simp [*]; done)), H', ⟨by first | omega | exact Nat.le_refl _⟩, ⟨by (with_reducible repeat first | apply bN | apply bD | apply bA); exact BK542.out⟩, ⟨eG HB.out⟩⟩
  case rest =>
   clear HC5; repeat first | clear c1 | clear p2 | clear c4 | clear c9 | clear c10 | clear c11 | clear hcz10_0 | clear hcz10_1 | clear hcz10_2 | clear hcz12_0 | clear hcz12_1 | clear hcz12_2 | clear hfz10_0 | clear hfz10_1 | clear hfz10_2 | clear hfz12_0 | clear hfz12_1 | clear hfz12_2
   obtain ⟨kq, x24_4, rfl, HA, HJ4, BK542, HB⟩ := hcut
   cases kq with
   | zero => exact absurd HA.out (by simp [spilelaw19_CorrectBack.j0])
   | succ kj4 =>
    have H := HA.out; clear HA; simp only [spilelaw19_CorrectBack.j0] at H; by_cases c14 : x24_4 = true
    ·
     subst c14; replace H : (some true) = some r := by rw [if_pos rfl] at H; exact H
     obtain rfl := Option.some.inj H; go_wp2; go_ret
     exact ⟨by first | rfl | (simp [errW_none, errW_some] <;> rfl) | (simp [*, errW_none, errW_some] <;> rfl), eG HB.out⟩
    ·
     replace c14 := Bool.eq_false_iff.mpr c14; subst c14; replace H : ((correct_Print.f kj4 l0_0 l0_1 l0_2).bind fun bt545 => (if bt545.2 = 0 then ((correct_Parse.f kj4 bt545.1).bind fun bt547 => (if bt547.2.2.2.2 = 0 then (if bt547.2.2.2.1 = (-1) then ((spileref19_Same.f kj4 bt547.1 bt547.2.1 bt547.2.2.1 l0_0 l0_1 l0_2).bind fun t559 => (if t559 = true then (spilelaw19_CorrectBack.j1 kj4 a1) else (none))) else (none)) else (none))) else (if bt545.1.toList = ([] : List UInt8) then (spilelaw19_CorrectBack.j1 kj4 a1) else (none)))) = some r := by rw [if_neg (show ¬ (false = true) by decide)] at H; exact H
     replace H := Option.bind_eq_some_iff.mp H; obtain ⟨⟨t545, t546⟩, A150, H⟩ := H; replace H : (if t546 = 0 then ((correct_Parse.f kj4 t545).bind fun bt547 => (if bt547.2.2.2.2 = 0 then (if bt547.2.2.2.1 = (-1) then ((spileref19_Same.f kj4 bt547.1 bt547.2.1 bt547.2.2.1 l0_0 l0_1 l0_2).bind fun t559 => (if t559 = true then (spilelaw19_CorrectBack.j1 kj4 a1) else (none))) else (none)) else (none))) else (if t545.toList = ([] : List UInt8) then (spilelaw19_CorrectBack.j1 kj4 a1) else (none))) = some r := H; have A15 := Aside0.mk A150; clear A150; have HC16 := Aside0.mk H; clear H; have hcz17_0 : wc.cell? ⟨gb542, 0, none⟩ = some (.slice A0_0 l0_0.length c0_0) := (blk_cell BK542.out 0).trans rfl; have hcz17_1 : wc.cell? ⟨gb542, 1, none⟩ = some (.slice A0_1 l0_1.length c0_1) := (blk_cell BK542.out 1).trans rfl; have hcz17_2 : wc.cell? ⟨gb542, 2, none⟩ = some (.slice A0_2 l0_2.length c0_2) := (blk_cell BK542.out 2).trans rfl; have hfz17_0 := blk_frozen BK542.out 0; have hfz17_1 := blk_frozen BK542.out 1; have hfz17_2 := blk_frozen BK542.out 2; go_upto_if 31 with (first | ((with_reducible refine gate_callee (f := 20) rfl ?_); refine goesL_ (some 27) rfl rfl Tryd.func20 (by kernel_rfl) rfl #[.agg #[.slice A0_0 l0_0.length c0_0, .slice A0_1 l0_1.length c0_1, .slice A0_2 l0_2.length c0_2]] rfl (by (try simp only [List.map_toArray, List.map_cons, List.map_nil]); first | done | rfl | (simp only [List.length_drop, List.length_take]; rfl)) ?_; (with_reducible refine (correct_Print.calls kj4 _ _ l0_0 _ _ l0_1 _ _ l0_2 t545 t546 _ ?side1 ?side2 ?side3 ?side4 ?side5 ?side6 ?side7 A15.out).mono ?_); (case side1 => repeat (first | exact (Kd.C_below HR0_0.out HB.out) | (with_reducible refine Kd.C_alloc ?_ _) | (with_reducible refine Kd.C_drewN ?_ _) | (with_reducible refine Kd.C_drew ?_))); (case side2 => exact HC0_0.out); (case side3 => repeat (first | exact (Kd.C_below HR0_1.out HB.out) | (with_reducible refine Kd.C_alloc ?_ _) | (with_reducible refine Kd.C_drewN ?_ _) | (with_reducible refine Kd.C_drew ?_))); (case side4 => exact HC0_1.out); (case side5 => repeat (first | exact (Kd.C_below HR0_2.out HB.out) | (with_reducible refine Kd.C_alloc ?_ _) | (with_reducible refine Kd.C_drewN ?_ _) | (with_reducible refine Kd.C_drew ?_))); (case side6 => exact HC0_2.out); (case side7 => exact GI.below HG.out (eG HB.out)); rintro e w18 ⟨rfl, hb⟩; refine ⟨_, rfl, ?_⟩; have n0_ := Aside0.mk (blk_below (bG BK542.out) hb); have n1_ := Aside0.mk (below_step (eG HB.out) hb); clear BK542; clear HB; have BK542 := n0_; have HB := n1_; clear n0_ n1_; (try clear hb); (try clear hb2); (try clear hk); (try clear hi)))
     (try simp only [Act.put, sIA, sC0, sCS])
     go_cut [] (fun wc => ∃ (kq : Nat), Aside0 (spilelaw19_CorrectBack.j1 kq a1 = some r) ∧ Aside0 (kq ≤ kj4) ∧ Aside0 (wc.heap[gb542]? = some (.cells #[(.slice A0_0 l0_0.length c0_0), (.slice A0_1 l0_1.length c0_1), (.slice A0_2 l0_2.length c0_2)] 25 (0, 0))) ∧ Aside0 (Below w.heap.size w wc))
     case first =>
      have H := HC16.out; clear HC16; by_cases c19 : t546 = 0
      ·
       rw [if_pos c19] at H; have c19b0 : (t546 == 0) = true := beq_iff_eq.mpr c19; have c19b1 : (t546 != 0) = false := bne_eq_false_iff_eq.mpr c19; clear c19; (first | rw [c19b0] | (simp only [i64_w, i32_w]; rw [c19b0]) | skip)
       replace H := Option.bind_eq_some_iff.mp H; obtain ⟨⟨t547, t550, t553, t556, t557⟩, A200, H⟩ := H; replace H : (if t557 = 0 then (if t556 = (-1) then ((spileref19_Same.f kj4 t547 t550 t553 l0_0 l0_1 l0_2).bind fun t559 => (if t559 = true then (spilelaw19_CorrectBack.j1 kj4 a1) else (none))) else (none)) else (none)) = some r := H; have A20 := Aside0.mk A200; clear A200; by_cases c21 : t557 = 0
       ·
        rw [if_pos c21] at H; have c21b0 : (t557 == 0) = true := beq_iff_eq.mpr c21; have c21b1 : (t557 != 0) = false := bne_eq_false_iff_eq.mpr c21; clear c21; by_cases c22 : t556 = (-1)
        ·
         rw [if_pos c22] at H; have c22b0 : (t556 == (-1)) = true := beq_iff_eq.mpr c22; have c22b1 : (t556 != (-1)) = false := bne_eq_false_iff_eq.mpr c22; clear c22; replace H := Option.bind_eq_some_iff.mp H; obtain ⟨t559, A230, H⟩ := H; replace H : (if t559 = true then (spilelaw19_CorrectBack.j1 kj4 a1) else (none)) = some r := H; have A23 := Aside0.mk A230; clear A230; by_cases c24 : t559 = true
         ·
          subst c24; replace H : (spilelaw19_CorrectBack.j1 kj4 a1) = some r := by rw [if_pos rfl] at H; exact H
          have H' := Aside0.mk H; clear H; go_wp2_with (first | ((with_reducible refine gate_callee (f := 22) rfl ?_); refine goesL_ (some 34) rfl rfl Tryd.func22 (by kernel_rfl) rfl #[.string t545] rfl (by (try simp only [List.map_toArray, List.map_cons, List.map_nil]); first | done | rfl | (simp only [List.length_drop, List.length_take]; rfl)) ?_; (with_reducible refine (correct_Parse.calls kj4 t545 t547 t550 t553 t556 t557 _ ?side1 A20.out).mono ?_); (case side1 => exact GI.below HG.out (eG HB.out)); rintro e w25 ⟨v548, v551, v554, rfl, ho0, ho1, ho2, hb⟩; refine ⟨_, rfl, ?_⟩; have n0_ := Aside0.mk (Kd.R_lower (Kd.R_mono (ok' := fun k_ => some k_ ≠ (v551 : Value).ownBlock) ho0 (fun _ hk_ => hk_.2)) (below_size (eG HB.out))); have n1_ := Aside0.mk (Kd.R_lower (Kd.R_mono (ok' := fun k_ => some k_ ≠ (v548 : Value).ownBlock) ho1 (fun _ hk_ => hk_.2)) (below_size (eG HB.out))); have n2_ := Aside0.mk (Kd.N_lower (Kd.N_mono (ok' := fun k_ => some k_ ≠ (v548 : Value).ownBlock ∧ some k_ ≠ (v551 : Value).ownBlock ∧ k_ ≠ gb542) ho2 (fun k_ hk_ => ⟨hk_.2.1, hk_.2.2, (Kd.freshB (bG BK542.out) k_ hk_.1)⟩)) (below_size (eG HB.out))); have n3_ := Aside0.mk (blk_below (bG BK542.out) hb); have n4_ := Aside0.mk (below_step (eG HB.out) hb); clear BK542; clear HB; have HO549 := n0_; have HO552 := n1_; have HO555 := n2_; have BK542 := n3_; have HB := n4_; clear n0_ n1_ n2_ n3_ n4_; (try clear hb); (try clear hb2); (try clear hk); (try clear hi); (try clear ho0); (try clear ho1); (try clear ho2)) | ((with_reducible refine gate_dst (N := 7) rfl ?_); (try (refine gate_guard (by rfl) ?_; dsimp only)); refine box_event ?hg (N := 7) ?hd (cs := #[.slice none 0 0, .slice none 0 0, .slice none 0 0]) (t := 25) ?hr ?_; (case hd => rfl); (case hg => rfl); (case hr => first | (go_simp; done) | (go_simp; rfl)); intro gb558 hg w26 hbox hb; have n0_ := Aside0.mk (Kd.R_below (rG HO549.out) hb); have n1_ := Aside0.mk (Kd.R_below (rG HO552.out) hb); have n2_ := Aside0.mk (Kd.N_below (Kd.N_elderB (by (with_reducible repeat (first | apply Kd.N_alloc | apply Kd.N_drewN | apply Kd.N_drew)); exact HO555.out) gb558 (Nat.le_of_eq hg.symm)) hb); have n3_ := Aside0.mk (blk_below (bG BK542.out) hb); have n4_ := Aside0.mk (below_step (eG HB.out) hb); have n5_ := Aside0.mk (hbox); have n6_ := Aside0.mk ((by rw [hg]; exact (below_size (eG HB.out)) : w.heap.size ≤ gb558)); have n7_ := Aside0.mk ((by rw [hg]; exact (below_size (eG HB.out)) : w.heap.size ≤ gb558)); have n8_ := Aside0.mk ((by rw [hg]; exact Nat.ne_of_lt (blk_lt (bG BK542.out)) : gb542 ≠ gb558)); have n9_ := Aside0.mk ((by rw [hg]; exact Nat.ne_of_gt (blk_lt (bG BK542.out)) : gb558 ≠ gb542)); clear HO549; clear HO552; clear HO555; clear BK542; clear HB; have HO549 := n0_; have HO552 := n1_; have HO555 := n2_; have BK542 := n3_; have HB := n4_; have BK558 := n5_; have GW558 := n6_; have GE558 := n7_; have ig558_ := geI GE558; have NB542_558 := n8_; have NB558_542 := n9_; clear n0_ n1_ n2_ n3_ n4_ n5_ n6_ n7_ n8_ n9_; clear hb hbox hg; obtain ⟨Ao27, co27, eo27⟩ := Kd.R_slice HO549.out; subst eo27; have hnb28 := NB558_542.out; have hnc28 := NB542_558.out; have hcz29_0 : w26.cell? ⟨gb558, 0, none⟩ = some (.slice none 0 0) := (blk_cell BK558.out 0).trans rfl; have hcz29_1 : w26.cell? ⟨gb558, 1, none⟩ = some (.slice none 0 0) := (blk_cell BK558.out 1).trans rfl; have hcz29_2 : w26.cell? ⟨gb558, 2, none⟩ = some (.slice none 0 0) := (blk_cell BK558.out 2).trans rfl; have hfz29_0 := blk_frozen BK558.out 0; have hfz29_1 := blk_frozen BK558.out 1; have hfz29_2 := blk_frozen BK558.out 2; obtain ⟨Ao30, co30, eo30⟩ := Kd.R_slice HO552.out; subst eo30; obtain ⟨Ao31, co31, eo31⟩ := Kd.N_slice HO555.out; subst eo31; have hcz32_0 : w26.cell? ⟨gb542, 0, none⟩ = some (.slice A0_0 l0_0.length c0_0) := (blk_cell BK542.out 0).trans rfl; have hcz32_1 : w26.cell? ⟨gb542, 1, none⟩ = some (.slice A0_1 l0_1.length c0_1) := (blk_cell BK542.out 1).trans rfl; have hcz32_2 : w26.cell? ⟨gb542, 2, none⟩ = some (.slice A0_2 l0_2.length c0_2) := (blk_cell BK542.out 2).trans rfl; have hfz32_0 := blk_frozen BK542.out 0; have hfz32_1 := blk_frozen BK542.out 1; have hfz32_2 := blk_frozen BK542.out 2) | (go_at_call 24; (with_reducible refine (spileref19_Same.calls kj4 _ _ t547 _ _ t550 _ _ t553 _ _ l0_0 _ _ l0_1 _ _ l0_2 true _ ?side1 ?side2 ?side3 ?side4 ?side5 ?side6 ?side7 ?side8 ?side9 ?side10 ?side11 ?side12 A23.out).mono ?_); (case side1 => refine (Kd.R_reads' (e := 3) (base := w.heap.size) (ok := fun k_ => some k_ ≠ (.slice Ao30 t550.length co30 : Value).ownBlock) (n := t547.length) (c := co27) ?_).2.2; exact (by (with_reducible repeat (first | apply Kd.R_alloc | apply Kd.R_drewN | apply Kd.R_drew)); exact (Kd.R_mono (Kd.R_far (p := ⟨gb558, 2, none⟩) (Kd.R_far (p := ⟨gb558, 1, none⟩) (Kd.R_far (p := ⟨gb558, 0, none⟩) (Kd.R_types HO549.out BK558.out (by decide)) (fun _ hk => hk.2) (.slice Ao27 t547.length co27)) (fun _ hk => hk.2) (.slice Ao30 t550.length co30)) (fun _ hk => hk.2) (.slice Ao31 t553.length co31)) (fun _ h_ => h_.1)))); (case side2 => exact (Kd.R_reads' HO549.out).2.1); (case side3 => refine (Kd.R_reads' (e := 3) (base := w.heap.size) (ok := fun k_ => some k_ ≠ (.slice Ao27 t547.length co27 : Value).ownBlock) (n := t550.length) (c := co30) ?_).2.2; exact (by (with_reducible repeat (first | apply Kd.R_alloc | apply Kd.R_drewN | apply Kd.R_drew)); exact (Kd.R_mono (Kd.R_far (p := ⟨gb558, 2, none⟩) (Kd.R_far (p := ⟨gb558, 1, none⟩) (Kd.R_far (p := ⟨gb558, 0, none⟩) (Kd.R_types HO552.out BK558.out (by decide)) (fun _ hk => hk.2) (.slice Ao27 t547.length co27)) (fun _ hk => hk.2) (.slice Ao30 t550.length co30)) (fun _ hk => hk.2) (.slice Ao31 t553.length co31)) (fun _ h_ => h_.1)))); (case side4 => exact (Kd.R_reads' HO552.out).2.1); (case side5 => refine (Kd.N_reads' (e := 22) (base := w.heap.size) (ok := fun k_ => ((some k_ ≠ (.slice Ao27 t547.length co27 : Value).ownBlock ∧ (some k_ ≠ (.slice Ao30 t550.length co30 : Value).ownBlock ∧ k_ ≠ gb542)) ∧ k_ ≠ gb558)) (n := t553.length) (c := co31) ?_).2.2; exact (by (with_reducible repeat (first | apply Kd.N_alloc | apply Kd.N_drewN | apply Kd.N_drew)); exact (Kd.N_mono (Kd.N_far (p := ⟨gb558, 2, none⟩) (Kd.N_far (p := ⟨gb558, 1, none⟩) (Kd.N_far (p := ⟨gb558, 0, none⟩) (Kd.N_mono HO555.out (fun k_ hk => (⟨hk, hk.2⟩ : _ ∧ k_ ≠ gb558))) (fun _ hk => hk.2) (.slice Ao27 t547.length co27)) (fun _ hk => hk.2) (.slice Ao30 t550.length co30)) (fun _ hk => hk.2) (.slice Ao31 t553.length co31)) (fun _ h_ => h_.1)))); (case side6 => exact (Kd.N_reads' HO555.out).2.1); (case side7 => exact Kd.C_below HR0_0.out (eG HB.out)); (case side8 => exact HC0_0.out); (case side9 => exact Kd.C_below HR0_1.out (eG HB.out)); (case side10 => exact HC0_1.out); (case side11 => exact Kd.C_below HR0_2.out (eG HB.out)); (case side12 => exact HC0_2.out); rintro e w33 ⟨rfl, hb⟩; have n0_ := Aside0.mk (Kd.R_below (by (with_reducible repeat (first | apply Kd.R_alloc | apply Kd.R_drewN | apply Kd.R_drew)); exact (Kd.R_mono (Kd.R_far (p := ⟨gb558, 2, none⟩) (Kd.R_far (p := ⟨gb558, 1, none⟩) (Kd.R_far (p := ⟨gb558, 0, none⟩) (Kd.R_types HO549.out BK558.out (by decide)) (fun _ hk => hk.2) (.slice Ao27 t547.length co27)) (fun _ hk => hk.2) (.slice Ao30 t550.length co30)) (fun _ hk => hk.2) (.slice Ao31 t553.length co31)) (fun _ h_ => h_.1))) hb); have n1_ := Aside0.mk (Kd.R_below (by (with_reducible repeat (first | apply Kd.R_alloc | apply Kd.R_drewN | apply Kd.R_drew)); exact (Kd.R_mono (Kd.R_far (p := ⟨gb558, 2, none⟩) (Kd.R_far (p := ⟨gb558, 1, none⟩) (Kd.R_far (p := ⟨gb558, 0, none⟩) (Kd.R_types HO552.out BK558.out (by decide)) (fun _ hk => hk.2) (.slice Ao27 t547.length co27)) (fun _ hk => hk.2) (.slice Ao30 t550.length co30)) (fun _ hk => hk.2) (.slice Ao31 t553.length co31)) (fun _ h_ => h_.1))) hb); have n2_ := Aside0.mk (Kd.N_below (by (with_reducible repeat (first | apply Kd.N_alloc | apply Kd.N_drewN | apply Kd.N_drew)); exact (Kd.N_mono (Kd.N_far (p := ⟨gb558, 2, none⟩) (Kd.N_far (p := ⟨gb558, 1, none⟩) (Kd.N_far (p := ⟨gb558, 0, none⟩) (Kd.N_mono HO555.out (fun k_ hk => (⟨hk, hk.2⟩ : _ ∧ k_ ≠ gb558))) (fun _ hk => hk.2) (.slice Ao27 t547.length co27)) (fun _ hk => hk.2) (.slice Ao30 t550.length co30)) (fun _ hk => hk.2) (.slice Ao31 t553.length co31)) (fun _ h_ => h_.1))) hb); have n3_ := Aside0.mk (blk_below (g := gb542) (o := .cells #[.slice A0_0 l0_0.length c0_0, .slice A0_1 l0_1.length c0_1, .slice A0_2 l0_2.length c0_2] 25 (0, 0)) (by (with_reducible repeat first | apply bN | apply bD | apply bA); refine blk_far ?_ NB542_558.out _; (with_reducible repeat first | apply bN | apply bD | apply bA); refine blk_far ?_ NB542_558.out _; (with_reducible repeat first | apply bN | apply bD | apply bA); refine blk_far ?_ NB542_558.out _; (with_reducible repeat first | apply bN | apply bD | apply bA); exact BK542.out) hb); have n4_ := Aside0.mk (blk_below (g := gb558) (o := .cells #[.slice Ao27 t547.length co27, .slice Ao30 t550.length co30, .slice Ao31 t553.length co31] 25 (0, 0)) (by (with_reducible repeat first | apply bN | apply bD | apply bA); refine blk_put (cs := #[.slice Ao27 t547.length co27, .slice Ao30 t550.length co30, .slice none 0 0]) ?_ 2 _ rfl; (with_reducible repeat first | apply bN | apply bD | apply bA); refine blk_put (cs := #[.slice Ao27 t547.length co27, .slice none 0 0, .slice none 0 0]) ?_ 1 _ rfl; (with_reducible repeat first | apply bN | apply bD | apply bA); refine blk_put (cs := #[.slice none 0 0, .slice none 0 0, .slice none 0 0]) ?_ 0 _ rfl; (with_reducible repeat first | apply bN | apply bD | apply bA); exact BK558.out) hb); have n5_ := Aside0.mk (below_step (eG HB.out) hb); clear HO549; clear HO552; clear HO555; clear BK542; clear BK558; clear HB; have HO549 := n0_; have HO552 := n1_; have HO555 := n2_; have BK542 := n3_; have BK558 := n4_; have HB := n5_; clear n0_ n1_ n2_ n3_ n4_ n5_; (try clear hb); (try clear hb2); (try clear hk); (try clear hi)))
          go_meet
          case rel => exact ⟨_, H', ⟨by have := HJ4.out; first | omega | exact Nat.le_refl _⟩, ⟨by (with_reducible repeat first | apply bN | apply bD | apply bA); exact BK542.out⟩, ⟨eG HB.out⟩⟩
         ·
          replace c24 := Bool.eq_false_iff.mpr c24; subst c24; replace H : (none) = some r := by rw [if_neg (show ¬ (false = true) by decide)] at H; exact H
          exact absurd H (by simp)
        · rw [if_neg c22] at H; have c22b0 : (t556 == (-1)) = false := beq_eq_false_iff_ne.mpr c22; have c22b1 : (t556 != (-1)) = true := bne_iff_ne.mpr c22; exact absurd H (by simp)
       · rw [if_neg c21] at H; have c21b0 : (t557 == 0) = false := beq_eq_false_iff_ne.mpr c21; have c21b1 : (t557 != 0) = true := bne_iff_ne.mpr c21; exact absurd H (by simp)
      ·
       rw [if_neg c19] at H; have c19b0 : (t546 == 0) = false := beq_eq_false_iff_ne.mpr c19; have c19b1 : (t546 != 0) = true := bne_iff_ne.mpr c19; (first | rw [c19b0] | (simp only [i64_w, i32_w]; rw [c19b0]) | skip)
       by_cases c57 : t545.toList = ([] : List UInt8)
       ·
        rw [if_pos c57] at H; have c57b0 : (t545.toList == ([] : List UInt8)) = true := beq_iff_eq.mpr c57; have c57b1 : (t545.toList != ([] : List UInt8)) = false := bne_eq_false_iff_eq.mpr c57; clear c57; have H' := Aside0.mk H; clear H; go_wp2; go_meet
        case rel => exact ⟨_, H', ⟨by have := HJ4.out; first | omega | exact Nat.le_refl _⟩, ⟨by (with_reducible repeat first | apply bN | apply bD | apply bA); exact BK542.out⟩, ⟨eG HB.out⟩⟩
       · rw [if_neg c57] at H; have c57b0 : (t545.toList == ([] : List UInt8)) = false := beq_eq_false_iff_ne.mpr c57; have c57b1 : (t545.toList != ([] : List UInt8)) = true := bne_iff_ne.mpr c57; exact absurd H (by simp)
     case rest =>
      clear HC16; repeat first | clear c1 | clear c2 | clear p2 | clear c3 | clear c4 | clear c5 | clear c9 | clear c10 | clear c11 | clear c14 | clear c19 | clear c19b0 | clear c19b1 | clear c20 | clear c21 | clear c21b0 | clear c21b1 | clear c22 | clear c22b0 | clear c22b1 | clear c24 | clear c28 | clear c37 | clear c46 | clear c53 | clear c57 | clear c57b0 | clear c57b1 | clear hcz10_0 | clear hcz10_1 | clear hcz10_2 | clear hcz12_0 | clear hcz12_1 | clear hcz12_2 | clear hcz17_0 | clear hcz17_1 | clear hcz17_2 | clear hcz29_0 | clear hcz29_1 | clear hcz29_2 | clear hcz32_0 | clear hcz32_1 | clear hcz32_2 | clear hcz38_0 | clear hcz38_1 | clear hcz38_2 | clear hcz41_0 | clear hcz41_1 | clear hcz41_2 | clear hcz47_0 | clear hcz47_1 | clear hcz47_2 | clear hcz54_0 | clear hcz54_1 | clear hcz54_2 | clear hfz10_0 | clear hfz10_1 | clear hfz10_2 | clear hfz12_0 | clear hfz12_1 | clear hfz12_2 | clear hfz17_0 | clear hfz17_1 | clear hfz17_2 | clear hfz29_0 | clear hfz29_1 | clear hfz29_2 | clear hfz32_0 | clear hfz32_1 | clear hfz32_2 | clear hfz38_0 | clear hfz38_1 | clear hfz38_2 | clear hfz41_0 | clear hfz41_1 | clear hfz41_2 | clear hfz47_0 | clear hfz47_1 | clear hfz47_2 | clear hfz54_0 | clear hfz54_1 | clear hfz54_2 | clear p2
      obtain ⟨kq, HA, HJ15, BK542, HB⟩ := hcut
      cases kq with
      | zero => exact absurd HA.out (by simp [spilelaw19_CorrectBack.j1])
      | succ kj15 =>
       have H := HA.out; clear HA; simp only [spilelaw19_CorrectBack.j1] at H; replace H := Option.bind_eq_some_iff.mp H; obtain ⟨⟨t560, t563, t566, t569, t570⟩, A580, H⟩ := H; replace H : (if t570 = 0 then ((correct_Print.f kj15 t560 t563 t566).bind fun bt572 => (if bt572.2 = 0 then (some (bt572.1.toList == a1.toList)) else (none))) else (if (t560.length : Int) = 0 then (some ((t566.length : Int) == 0)) else (none))) = some r := H; have A58 := Aside0.mk A580; clear A580; by_cases c59 : t570 = 0
       ·
        rw [if_pos c59] at H; have c59b0 : (t570 == 0) = true := beq_iff_eq.mpr c59; have c59b1 : (t570 != 0) = false := bne_eq_false_iff_eq.mpr c59; clear c59; replace H := Option.bind_eq_some_iff.mp H; obtain ⟨⟨t572, t573⟩, A600, H⟩ := H; replace H : (if t573 = 0 then (some (t572.toList == a1.toList)) else (none)) = some r := H; have A60 := Aside0.mk A600; clear A600; by_cases c61 : t573 = 0
        ·
         rw [if_pos c61] at H; have c61b0 : (t573 == 0) = true := beq_iff_eq.mpr c61; have c61b1 : (t573 != 0) = false := bne_eq_false_iff_eq.mpr c61; clear c61; obtain rfl := Option.some.inj H; go_wp2_with (first | ((with_reducible refine gate_callee (f := 22) rfl ?_); refine goesL_ (some 54) rfl rfl Tryd.func22 (by kernel_rfl) rfl #[.string a1] rfl (by (try simp only [List.map_toArray, List.map_cons, List.map_nil]); first | done | rfl | (simp only [List.length_drop, List.length_take]; rfl)) ?_; (with_reducible refine (correct_Parse.calls kj15 a1 t560 t563 t566 t569 t570 _ ?side1 A58.out).mono ?_); (case side1 => exact GI.below HG.out (eG HB.out)); rintro e w62 ⟨v561, v564, v567, rfl, ho0, ho1, ho2, hb⟩; refine ⟨_, rfl, ?_⟩; have n0_ := Aside0.mk (Kd.R_lower (Kd.R_mono (ok' := fun k_ => some k_ ≠ (v564 : Value).ownBlock) ho0 (fun _ hk_ => hk_.2)) (below_size (eG HB.out))); have n1_ := Aside0.mk (Kd.R_lower (Kd.R_mono (ok' := fun k_ => some k_ ≠ (v561 : Value).ownBlock) ho1 (fun _ hk_ => hk_.2)) (below_size (eG HB.out))); have n2_ := Aside0.mk (Kd.N_lower (Kd.N_mono (ok' := fun k_ => some k_ ≠ (v561 : Value).ownBlock ∧ some k_ ≠ (v564 : Value).ownBlock ∧ k_ ≠ gb542) ho2 (fun k_ hk_ => ⟨hk_.2.1, hk_.2.2, (Kd.freshB (bG BK542.out) k_ hk_.1)⟩)) (below_size (eG HB.out))); have n3_ := Aside0.mk (blk_below (bG BK542.out) hb); have n4_ := Aside0.mk (below_step (eG HB.out) hb); clear BK542; clear HB; have HO562 := n0_; have HO565 := n1_; have HO568 := n2_; have BK542 := n3_; have HB := n4_; clear n0_ n1_ n2_ n3_ n4_; (try clear hb); (try clear hb2); (try clear hk); (try clear hi); (try clear ho0); (try clear ho1); (try clear ho2)) | ((with_reducible refine gate_dst (N := 10) rfl ?_); (try (refine gate_guard (by rfl) ?_; dsimp only)); refine box_event ?hg (N := 10) ?hd (cs := #[.slice none 0 0, .slice none 0 0, .slice none 0 0]) (t := 25) ?hr ?_; (case hd => rfl); (case hg => rfl); (case hr => first | (go_simp; done) | (go_simp; rfl)); intro gb571 hg w63 hbox hb; have n0_ := Aside0.mk (Kd.R_below (rG HO562.out) hb); have n1_ := Aside0.mk (Kd.R_below (rG HO565.out) hb); have n2_ := Aside0.mk (Kd.N_below (Kd.N_elderB (by (with_reducible repeat (first | apply Kd.N_alloc | apply Kd.N_drewN | apply Kd.N_drew)); exact HO568.out) gb571 (Nat.le_of_eq hg.symm)) hb); have n3_ := Aside0.mk (blk_below (bG BK542.out) hb); have n4_ := Aside0.mk (below_step (eG HB.out) hb); have n5_ := Aside0.mk (hbox); have n6_ := Aside0.mk ((by rw [hg]; exact (below_size (eG HB.out)) : w.heap.size ≤ gb571)); have n7_ := Aside0.mk ((by rw [hg]; exact (below_size (eG HB.out)) : w.heap.size ≤ gb571)); have n8_ := Aside0.mk ((by rw [hg]; exact Nat.ne_of_lt (blk_lt (bG BK542.out)) : gb542 ≠ gb571)); have n9_ := Aside0.mk ((by rw [hg]; exact Nat.ne_of_gt (blk_lt (bG BK542.out)) : gb571 ≠ gb542)); clear HO562; clear HO565; clear HO568; clear BK542; clear HB; have HO562 := n0_; have HO565 := n1_; have HO568 := n2_; have BK542 := n3_; have HB := n4_; have BK571 := n5_; have GW571 := n6_; have GE571 := n7_; have ig571_ := geI GE571; have NB542_571 := n8_; have NB571_542 := n9_; clear n0_ n1_ n2_ n3_ n4_ n5_ n6_ n7_ n8_ n9_; clear hb hbox hg; obtain ⟨Ao64, co64, eo64⟩ := Kd.R_slice HO562.out; subst eo64; have hnb65 := NB571_542.out; have hnc65 := NB542_571.out; have hcz66_0 : w63.cell? ⟨gb571, 0, none⟩ = some (.slice none 0 0) := (blk_cell BK571.out 0).trans rfl; have hcz66_1 : w63.cell? ⟨gb571, 1, none⟩ = some (.slice none 0 0) := (blk_cell BK571.out 1).trans rfl; have hcz66_2 : w63.cell? ⟨gb571, 2, none⟩ = some (.slice none 0 0) := (blk_cell BK571.out 2).trans rfl; have hfz66_0 := blk_frozen BK571.out 0; have hfz66_1 := blk_frozen BK571.out 1; have hfz66_2 := blk_frozen BK571.out 2; obtain ⟨Ao67, co67, eo67⟩ := Kd.R_slice HO565.out; subst eo67; obtain ⟨Ao68, co68, eo68⟩ := Kd.N_slice HO568.out; subst eo68) | ((with_reducible refine gate_callee (f := 20) rfl ?_); refine goesL_ (some 72) rfl rfl Tryd.func20 (by kernel_rfl) rfl #[.agg #[.slice Ao64 t560.length co64, .slice Ao67 t563.length co67, .slice Ao68 t566.length co68]] rfl (by (try simp only [List.map_toArray, List.map_cons, List.map_nil]); first | done | rfl | (simp only [List.length_drop, List.length_take]; rfl)) ?_; (with_reducible refine (correct_Print.calls kj15 _ _ t560 _ _ t563 _ _ t566 t572 t573 _ ?side1 ?side2 ?side3 ?side4 ?side5 ?side6 ?side7 A60.out).mono ?_); (case side1 => refine (Kd.R_reads' (e := 3) (base := w.heap.size) (ok := fun k_ => some k_ ≠ (.slice Ao67 t563.length co67 : Value).ownBlock) (n := t560.length) (c := co64) ?_).2.2; exact (by (with_reducible repeat (first | apply Kd.R_alloc | apply Kd.R_drewN | apply Kd.R_drew)); exact (Kd.R_mono (Kd.R_far (p := ⟨gb571, 2, none⟩) (Kd.R_far (p := ⟨gb571, 1, none⟩) (Kd.R_far (p := ⟨gb571, 0, none⟩) (Kd.R_types HO562.out BK571.out (by decide)) (fun _ hk => hk.2) (.slice Ao64 t560.length co64)) (fun _ hk => hk.2) (.slice Ao67 t563.length co67)) (fun _ hk => hk.2) (.slice Ao68 t566.length co68)) (fun _ h_ => h_.1)))); (case side2 => exact (Kd.R_reads' HO562.out).2.1); (case side3 => refine (Kd.R_reads' (e := 3) (base := w.heap.size) (ok := fun k_ => some k_ ≠ (.slice Ao64 t560.length co64 : Value).ownBlock) (n := t563.length) (c := co67) ?_).2.2; exact (by (with_reducible repeat (first | apply Kd.R_alloc | apply Kd.R_drewN | apply Kd.R_drew)); exact (Kd.R_mono (Kd.R_far (p := ⟨gb571, 2, none⟩) (Kd.R_far (p := ⟨gb571, 1, none⟩) (Kd.R_far (p := ⟨gb571, 0, none⟩) (Kd.R_types HO565.out BK571.out (by decide)) (fun _ hk => hk.2) (.slice Ao64 t560.length co64)) (fun _ hk => hk.2) (.slice Ao67 t563.length co67)) (fun _ hk => hk.2) (.slice Ao68 t566.length co68)) (fun _ h_ => h_.1)))); (case side4 => exact (Kd.R_reads' HO565.out).2.1); (case side5 => refine (Kd.N_reads' (e := 22) (base := w.heap.size) (ok := fun k_ => ((some k_ ≠ (.slice Ao64 t560.length co64 : Value).ownBlock ∧ (some k_ ≠ (.slice Ao67 t563.length co67 : Value).ownBlock ∧ k_ ≠ gb542)) ∧ k_ ≠ gb571)) (n := t566.length) (c := co68) ?_).2.2; exact (by (with_reducible repeat (first | apply Kd.N_alloc | apply Kd.N_drewN | apply Kd.N_drew)); exact (Kd.N_mono (Kd.N_far (p := ⟨gb571, 2, none⟩) (Kd.N_far (p := ⟨gb571, 1, none⟩) (Kd.N_far (p := ⟨gb571, 0, none⟩) (Kd.N_mono HO568.out (fun k_ hk => (⟨hk, hk.2⟩ : _ ∧ k_ ≠ gb571))) (fun _ hk => hk.2) (.slice Ao64 t560.length co64)) (fun _ hk => hk.2) (.slice Ao67 t563.length co67)) (fun _ hk => hk.2) (.slice Ao68 t566.length co68)) (fun _ h_ => h_.1)))); (case side6 => exact (Kd.N_reads' HO568.out).2.1); (case side7 => exact GI.below HG.out (eG HB.out)); rintro e w69 ⟨rfl, hb⟩; refine ⟨_, rfl, ?_⟩; have n0_ := Aside0.mk (Kd.R_below (by (with_reducible repeat (first | apply Kd.R_alloc | apply Kd.R_drewN | apply Kd.R_drew)); exact (Kd.R_mono (Kd.R_far (p := ⟨gb571, 2, none⟩) (Kd.R_far (p := ⟨gb571, 1, none⟩) (Kd.R_far (p := ⟨gb571, 0, none⟩) (Kd.R_types HO562.out BK571.out (by decide)) (fun _ hk => hk.2) (.slice Ao64 t560.length co64)) (fun _ hk => hk.2) (.slice Ao67 t563.length co67)) (fun _ hk => hk.2) (.slice Ao68 t566.length co68)) (fun _ h_ => h_.1))) hb); have n1_ := Aside0.mk (Kd.R_below (by (with_reducible repeat (first | apply Kd.R_alloc | apply Kd.R_drewN | apply Kd.R_drew)); exact (Kd.R_mono (Kd.R_far (p := ⟨gb571, 2, none⟩) (Kd.R_far (p := ⟨gb571, 1, none⟩) (Kd.R_far (p := ⟨gb571, 0, none⟩) (Kd.R_types HO565.out BK571.out (by decide)) (fun _ hk => hk.2) (.slice Ao64 t560.length co64)) (fun _ hk => hk.2) (.slice Ao67 t563.length co67)) (fun _ hk => hk.2) (.slice Ao68 t566.length co68)) (fun _ h_ => h_.1))) hb); have n2_ := Aside0.mk (Kd.N_below (by (with_reducible repeat (first | apply Kd.N_alloc | apply Kd.N_drewN | apply Kd.N_drew)); exact (Kd.N_mono (Kd.N_far (p := ⟨gb571, 2, none⟩) (Kd.N_far (p := ⟨gb571, 1, none⟩) (Kd.N_far (p := ⟨gb571, 0, none⟩) (Kd.N_mono HO568.out (fun k_ hk => (⟨hk, hk.2⟩ : _ ∧ k_ ≠ gb571))) (fun _ hk => hk.2) (.slice Ao64 t560.length co64)) (fun _ hk => hk.2) (.slice Ao67 t563.length co67)) (fun _ hk => hk.2) (.slice Ao68 t566.length co68)) (fun _ h_ => h_.1))) hb); have n3_ := Aside0.mk (blk_below (g := gb542) (o := .cells #[.slice A0_0 l0_0.length c0_0, .slice A0_1 l0_1.length c0_1, .slice A0_2 l0_2.length c0_2] 25 (0, 0)) (by (with_reducible repeat first | apply bN | apply bD | apply bA); refine blk_far ?_ NB542_571.out _; (with_reducible repeat first | apply bN | apply bD | apply bA); refine blk_far ?_ NB542_571.out _; (with_reducible repeat first | apply bN | apply bD | apply bA); refine blk_far ?_ NB542_571.out _; (with_reducible repeat first | apply bN | apply bD | apply bA); exact BK542.out) hb); have n4_ := Aside0.mk (blk_below (g := gb571) (o := .cells #[.slice Ao64 t560.length co64, .slice Ao67 t563.length co67, .slice Ao68 t566.length co68] 25 (0, 0)) (by (with_reducible repeat first | apply bN | apply bD | apply bA); refine blk_put (cs := #[.slice Ao64 t560.length co64, .slice Ao67 t563.length co67, .slice none 0 0]) ?_ 2 _ rfl; (with_reducible repeat first | apply bN | apply bD | apply bA); refine blk_put (cs := #[.slice Ao64 t560.length co64, .slice none 0 0, .slice none 0 0]) ?_ 1 _ rfl; (with_reducible repeat first | apply bN | apply bD | apply bA); refine blk_put (cs := #[.slice none 0 0, .slice none 0 0, .slice none 0 0]) ?_ 0 _ rfl; (with_reducible repeat first | apply bN | apply bD | apply bA); exact BK571.out) hb); have n5_ := Aside0.mk (below_step (eG HB.out) hb); clear HO562; clear HO565; clear HO568; clear BK542; clear BK571; clear HB; have HO562 := n0_; have HO565 := n1_; have HO568 := n2_; have BK542 := n3_; have BK571 := n4_; have HB := n5_; clear n0_ n1_ n2_ n3_ n4_ n5_; (try clear hb); (try clear hb2); (try clear hk); (try clear hi)))
         go_ret
         exact ⟨by first | rfl | (simp [errW_none, errW_some] <;> rfl) | (simp [*, errW_none, errW_some] <;> rfl), eG HB.out⟩
        · rw [if_neg c61] at H; have c61b0 : (t573 == 0) = false := beq_eq_false_iff_ne.mpr c61; have c61b1 : (t573 != 0) = true := bne_iff_ne.mpr c61; exact absurd H (by simp)
       ·
        rw [if_neg c59] at H; have c59b0 : (t570 == 0) = false := beq_eq_false_iff_ne.mpr c59; have c59b1 : (t570 != 0) = true := bne_iff_ne.mpr c59; by_cases c78 : (t560.length : Int) = 0
        ·
         rw [if_pos c78] at H; have c78b0 : ((t560.length : Int) == 0) = true := beq_iff_eq.mpr c78; have c78b1 : ((t560.length : Int) != 0) = false := bne_eq_false_iff_eq.mpr c78; clear c78; obtain rfl := Option.some.inj H; go_wp2_with (first | ((with_reducible refine gate_callee (f := 22) rfl ?_); refine goesL_ (some 54) rfl rfl Tryd.func22 (by kernel_rfl) rfl #[.string a1] rfl (by (try simp only [List.map_toArray, List.map_cons, List.map_nil]); first | done | rfl | (simp only [List.length_drop, List.length_take]; rfl)) ?_; (with_reducible refine (correct_Parse.calls kj15 a1 t560 t563 t566 t569 t570 _ ?side1 A58.out).mono ?_); (case side1 => exact GI.below HG.out (eG HB.out)); rintro e w79 ⟨v561, v564, v567, rfl, ho0, ho1, ho2, hb⟩; refine ⟨_, rfl, ?_⟩; have n0_ := Aside0.mk (Kd.R_lower (Kd.R_mono (ok' := fun k_ => some k_ ≠ (v564 : Value).ownBlock) ho0 (fun _ hk_ => hk_.2)) (below_size (eG HB.out))); have n1_ := Aside0.mk (Kd.R_lower (Kd.R_mono (ok' := fun k_ => some k_ ≠ (v561 : Value).ownBlock) ho1 (fun _ hk_ => hk_.2)) (below_size (eG HB.out))); have n2_ := Aside0.mk (Kd.N_lower (Kd.N_mono (ok' := fun k_ => some k_ ≠ (v561 : Value).ownBlock ∧ some k_ ≠ (v564 : Value).ownBlock ∧ k_ ≠ gb542) ho2 (fun k_ hk_ => ⟨hk_.2.1, hk_.2.2, (Kd.freshB (bG BK542.out) k_ hk_.1)⟩)) (below_size (eG HB.out))); have n3_ := Aside0.mk (blk_below (bG BK542.out) hb); have n4_ := Aside0.mk (below_step (eG HB.out) hb); clear BK542; clear HB; have HO562 := n0_; have HO565 := n1_; have HO568 := n2_; have BK542 := n3_; have HB := n4_; clear n0_ n1_ n2_ n3_ n4_; (try clear hb); (try clear hb2); (try clear hk); (try clear hi); (try clear ho0); (try clear ho1); (try clear ho2)) | ((with_reducible refine gate_dst (N := 10) rfl ?_); (try (refine gate_guard (by rfl) ?_; dsimp only)); refine box_event ?hg (N := 10) ?hd (cs := #[.slice none 0 0, .slice none 0 0, .slice none 0 0]) (t := 25) ?hr ?_; (case hd => rfl); (case hg => rfl); (case hr => first | (go_simp; done) | (go_simp; rfl)); intro gb571 hg w80 hbox hb; have n0_ := Aside0.mk (Kd.R_below (rG HO562.out) hb); have n1_ := Aside0.mk (Kd.R_below (rG HO565.out) hb); have n2_ := Aside0.mk (Kd.N_below (Kd.N_elderB (by (with_reducible repeat (first | apply Kd.N_alloc | apply Kd.N_drewN | apply Kd.N_drew)); exact HO568.out) gb571 (Nat.le_of_eq hg.symm)) hb); have n3_ := Aside0.mk (blk_below (bG BK542.out) hb); have n4_ := Aside0.mk (below_step (eG HB.out) hb); have n5_ := Aside0.mk (hbox); have n6_ := Aside0.mk ((by rw [hg]; exact (below_size (eG HB.out)) : w.heap.size ≤ gb571)); have n7_ := Aside0.mk ((by rw [hg]; exact (below_size (eG HB.out)) : w.heap.size ≤ gb571)); have n8_ := Aside0.mk ((by rw [hg]; exact Nat.ne_of_lt (blk_lt (bG BK542.out)) : gb542 ≠ gb571)); have n9_ := Aside0.mk ((by rw [hg]; exact Nat.ne_of_gt (blk_lt (bG BK542.out)) : gb571 ≠ gb542)); clear HO562; clear HO565; clear HO568; clear BK542; clear HB; have HO562 := n0_; have HO565 := n1_; have HO568 := n2_; have BK542 := n3_; have HB := n4_; have BK571 := n5_; have GW571 := n6_; have GE571 := n7_; have ig571_ := geI GE571; have NB542_571 := n8_; have NB571_542 := n9_; clear n0_ n1_ n2_ n3_ n4_ n5_ n6_ n7_ n8_ n9_; clear hb hbox hg; obtain ⟨Ao81, co81, eo81⟩ := Kd.R_slice HO562.out; subst eo81; have hnb82 := NB571_542.out; have hnc82 := NB542_571.out; have hcz83_0 : w80.cell? ⟨gb571, 0, none⟩ = some (.slice none 0 0) := (blk_cell BK571.out 0).trans rfl; have hcz83_1 : w80.cell? ⟨gb571, 1, none⟩ = some (.slice none 0 0) := (blk_cell BK571.out 1).trans rfl; have hcz83_2 : w80.cell? ⟨gb571, 2, none⟩ = some (.slice none 0 0) := (blk_cell BK571.out 2).trans rfl; have hfz83_0 := blk_frozen BK571.out 0; have hfz83_1 := blk_frozen BK571.out 1; have hfz83_2 := blk_frozen BK571.out 2; obtain ⟨Ao84, co84, eo84⟩ := Kd.R_slice HO565.out; subst eo84; obtain ⟨Ao85, co85, eo85⟩ := Kd.N_slice HO568.out; subst eo85))
         go_ret
         exact ⟨by first | rfl | (simp [errW_none, errW_some] <;> rfl) | (simp [*, errW_none, errW_some] <;> rfl), eG HB.out⟩
        ·
         rw [if_neg c78] at H; have c78b0 : ((t560.length : Int) == 0) = false := beq_eq_false_iff_ne.mpr c78; have c78b1 : ((t560.length : Int) != 0) = true := bne_iff_ne.mpr c78; have c78b2 : ¬ (t560 = []) := fun h_ => c78 (by rw [h_]; rfl)
         exact absurd H (by simp)
 ·
  replace c4 := Bool.eq_false_iff.mpr c4; subst c4; replace H : (none) = some r := by rw [if_neg (show ¬ (false = true) by decide)] at H; exact H
  exact absurd H (by simp)
end Go.Proofs.YtmdfnambaedllaaDoor.Pr
namespace Go.Proofs.YtmdfnambaedllaaDoor.Opn
open Go Go.RowKit Go.Proofs.YtmdfnambaedllaaDoorW.PrintWords Go.Proofs.YtmdfnambaedllaaDoor.O Go.Proofs.YtmdfnambaedllaaDoor.Pr
theorem opens3 : Opens Tryd.prog 3 (Kd.int .i64) (fun x => (Lit.int .i64 x).wf = true) := opens_int Tryd.underlying3 (by kernel_rfl)
theorem opens22 : Opens Tryd.prog 22 (Kd.slice 3 (Kd.int .i64)) (fun x => (x.length ≤ maxLen ∧ ∀ x0_, x0_ ∈ x → (Lit.int .i64 x0_).wf = true)) := opens_slice (P := Tryd.prog) (t := 22) (e := 3) Tryd.underlying22 (by kernel_rfl) opens3
theorem opens23 : Opens Tryd.prog 23 (Kd.slice 22 (Kd.slice 3 (Kd.int .i64))) (fun x => (x.length ≤ maxLen ∧ ∀ x0_, x0_ ∈ x → (x0_.length ≤ maxLen ∧ ∀ x1_, x1_ ∈ x0_ → (Lit.int .i64 x1_).wf = true))) := opens_slice (P := Tryd.prog) (t := 23) (e := 22) Tryd.underlying23 (by kernel_rfl) opens22
def ok25 (x : S25) : Prop := (x.f0.length ≤ maxLen ∧ ∀ x0_, x0_ ∈ x.f0 → (Lit.int .i64 x0_).wf = true) ∧ (x.f1.length ≤ maxLen ∧ ∀ x0_, x0_ ∈ x.f1 → (Lit.int .i64 x0_).wf = true) ∧ (x.f2.length ≤ maxLen ∧ ∀ x0_, x0_ ∈ x.f2 → (x0_.length ≤ maxLen ∧ ∀ x1_, x1_ ∈ x0_ → (Lit.int .i64 x1_).wf = true))
theorem opens25 : Opens Tryd.prog 25 k25 ok25 :=
  ⟨by kernel_rfl, fun H enc w base sp held fuel cs x h => by
    obtain ⟨xs, n, _, _, hl, hx, hf⟩ := DataW.trod_struct Tryd.underlying25 h
    have hc_ : Tryd.prog.cellsOf 25 = 3 := by kernel_rfl
    rw [hc_] at hl
    obtain ⟨c0, c1, c2, rfl⟩ : ∃ c0 c1 c2, cs = [c0, c1, c2] := by
      clear h hf hx
      rcases cs with _ | ⟨c0, _ | ⟨c1, _ | ⟨c2, _ | ⟨_, _⟩⟩⟩⟩
      all_goals first | exact ⟨_, _, _, rfl⟩ | (simp at hl)
    obtain ⟨y0, hy0⟩ : ∃ y, xs[0]? = some y := ⟨xs[0]'(by rw [hx]; decide), List.getElem?_eq_getElem _⟩
    have e0 : DataW.trod enc Tryd.prog w base sp held n 22 ((List.drop 0 [c0, c1, c2]).take (Tryd.prog.cellsOf 22)) = xs[0]? := hf 0 _ rfl
    rw [hy0, show Tryd.prog.cellsOf 22 = 1 from by kernel_rfl] at e0
    obtain ⟨v0, K0, o0⟩ := opens22.2 H enc w base sp held n _ _ e0
    replace K0 : (Kd.slice 3 (Kd.int .i64)).K w v0 [c0] := K0
    obtain ⟨y1, hy1⟩ : ∃ y, xs[1]? = some y := ⟨xs[1]'(by rw [hx]; decide), List.getElem?_eq_getElem _⟩
    have e1 : DataW.trod enc Tryd.prog w base sp held n 22 ((List.drop 1 [c0, c1, c2]).take (Tryd.prog.cellsOf 22)) = xs[1]? := hf 1 _ rfl
    rw [hy1, show Tryd.prog.cellsOf 22 = 1 from by kernel_rfl] at e1
    obtain ⟨v1, K1, o1⟩ := opens22.2 H enc w base sp held n _ _ e1
    replace K1 : (Kd.slice 3 (Kd.int .i64)).K w v1 [c1] := K1
    obtain ⟨y2, hy2⟩ : ∃ y, xs[2]? = some y := ⟨xs[2]'(by rw [hx]; decide), List.getElem?_eq_getElem _⟩
    have e2 : DataW.trod enc Tryd.prog w base sp held n 23 ((List.drop 2 [c0, c1, c2]).take (Tryd.prog.cellsOf 23)) = xs[2]? := hf 2 _ rfl
    rw [hy2, show Tryd.prog.cellsOf 23 = 1 from by kernel_rfl] at e2
    obtain ⟨v2, K2, o2⟩ := opens23.2 H enc w base sp held n _ _ e2
    replace K2 : (Kd.slice 22 (Kd.slice 3 (Kd.int .i64))).K w v2 [c2] := K2
    obtain ⟨A0, q0, w0, m0, g0⟩ := K0
    obtain rfl : c0 = _ := List.singleton_inj.1 w0
    obtain ⟨A1, q1, w1, m1, g1⟩ := K1
    obtain rfl : c1 = _ := List.singleton_inj.1 w1
    obtain ⟨A2, q2, w2, m2, g2⟩ := K2
    obtain rfl : c2 = _ := List.singleton_inj.1 w2
    refine ⟨⟨v0, v1, v2⟩, ?_, o0, o1, o2⟩
    exact k25_mk w ⟨v0, v1, v2⟩ m0 g0 m1 g1 m2 g2⟩
end Go.Proofs.YtmdfnambaedllaaDoor.Opn
namespace Go.Proofs.YtmdfnambaedllaaDoor.Pure
open Go Go.RowKit Go.Proofs.YtmdfnambaedllaaDoor.Pr Go.Proofs.YtmdfnambaedllaaDoor.Opn
def correctBackPure : Prop := ∀ (l0_0 : (List Int)) (l0_1 : (List Int)) (l0_2 : (List (List Int))) (a1 : ByteArray), (l0_0.length ≤ maxLen ∧ ∀ x0_, x0_ ∈ l0_0 → (Lit.int .i64 x0_).wf = true) → (l0_1.length ≤ maxLen ∧ ∀ x0_, x0_ ∈ l0_1 → (Lit.int .i64 x0_).wf = true) → (l0_2.length ≤ maxLen ∧ ∀ x0_, x0_ ∈ l0_2 → (x0_.length ≤ maxLen ∧ ∀ x1_, x1_ ∈ x0_ → (Lit.int .i64 x1_).wf = true)) → a1.size ≤ maxLen → ∃ k, spilelaw19_CorrectBack.f k l0_0 l0_1 l0_2 a1 = some true
end Go.Proofs.YtmdfnambaedllaaDoor.Pure
namespace Go.Proofs.YtmdfnambaedllaaDoor.PL
open Go Go.RowKit Go.Proofs.YtmdfnambaedllaaDoorW.PrintWords Go.Proofs.YtmdfnambaedllaaDoorW.PrintLast Go.Proofs.YtmdfnambaedllaaDoorW.PrintMore
theorem evp {α : Type} {c : Prop} [Decidable c] {g h : Nat → Option α} {r : α} (hc : c) (k : Ev g r) : Ev (fun n => if c then g n else h n) r :=
  Ev.congr (fun n => if_pos hc) k
theorem evn {α : Type} {c : Prop} [Decidable c] {g h : Nat → Option α} {r : α} (hc : ¬ c) (k : Ev h r) : Ev (fun n => if c then g n else h n) r :=
  Ev.congr (fun n => if_neg hc) k
theorem evb {α β : Type} {g : Nat → Option α} {f : Nat → α → Option β} {a : α} {r : β} (h : Ev g a) (k : Ev (fun n => f n a) r) : Ev (fun n => (g n).bind (f n)) r := Ev.bind h k
theorem evr {α : Type} {a r : α} (h : a = r) : Ev (fun _ => some a) r := by subst h; exact Ev.now _
theorem evc {α : Type} {g : Nat → Option α} {r : α} {o : Option α} (hg : ∀ n, g n = o) (h : o = some r) : Ev g r := by
  subst h
  exact Ev.congr hg (Ev.now _)
/-- A loop that counts upwards to n. -/
theorem count_up (a n : Int) (P : Int → Prop) (hend : P n) (hround : ∀ i, a ≤ i → i < n → P (i + 1) → P i) : ∀ i, a ≤ i → i ≤ n → P i := by
  intro i h0 h1
  obtain ⟨d, hd⟩ : ∃ d : Nat, n - i = d := ⟨(n - i).toNat, by omega⟩
  induction d generalizing i with
  | zero =>
    obtain rfl : i = n := by omega
    exact hend
  | succ d ih => exact hround i h0 (by omega) (ih (i + 1) (by omega) (by omega) (by omega))
theorem w64 {x : Int} (h0 : -9223372036854775808 ≤ x) (h1 : x ≤ 9223372036854775807) : wrap64 x = x := by
  unfold wrap64
  omega
theorem w64_succ {i n : Int} (h0 : 0 ≤ i) (h : i < n) (hn : n ≤ 9223372036854775807) : wrap64 (i + 1) = i + 1 := w64 (by omega) (by omega)
theorem w64_pred {i n : Int} (h0 : 0 ≤ i) (h : i ≤ n) (hn : n ≤ 9223372036854775807) : wrap64 (i - 1) = i - 1 := w64 (by omega) (by omega)
theorem len_le {α : Type} {l : List α} (h : l.length ≤ maxLen) : (l.length : Int) ≤ 9223372036854775807 := by
  have : l.length ≤ 9223372036854775807 := by simpa [maxLen] using h
  omega
theorem rd_mem {l : List Int} {i : Int} (h0 : 0 ≤ i) (h : i < (l.length : Int)) : rd l i ∈ l := by
  unfold rd
  rw [List.getD_eq_getElem?_getD, List.getElem?_eq_getElem (by omega)]
  exact List.getElem_mem _
theorem rd_of_mem {l : List Int} {x : Int} (h : x ∈ l) : ∃ i : Int, 0 ≤ i ∧ i < (l.length : Int) ∧ rd l i = x := by
  obtain ⟨i, hi⟩ := List.mem_iff_getElem?.1 h
  have hl := (List.getElem?_eq_some_iff.1 hi).1
  refine ⟨(i : Int), by omega, by omega, ?_⟩
  unfold rd
  rw [List.getD_eq_getElem?_getD, Int.toNat_natCast, hi]
  rfl
/-- A test that comes to true where P holds, and else to false. -/
def EvB (g : Nat → Option Bool) (P : Prop) : Prop := (P → Ev g true) ∧ (¬ P → Ev g false)
theorem EvB.iff {g : Nat → Option Bool} {P Q : Prop} (h : EvB g P) (e : P ↔ Q) : EvB g Q := ⟨fun q => h.1 (e.2 q), fun q => h.2 (fun p => q (e.1 p))⟩
theorem EvB.map {g : Nat → Option Bool} {f : Nat → Bool → Option Bool} {P Q : Prop} (h : EvB g P) (ht : P → EvB (fun n => f n true) Q) (hf : ¬ P → EvB (fun n => f n false) Q) : EvB (fun n => (g n).bind (f n)) Q := by
  by_cases hp : P
  · exact ⟨fun q => Ev.bind (h.1 hp) ((ht hp).1 q), fun q => Ev.bind (h.1 hp) ((ht hp).2 q)⟩
  · exact ⟨fun q => Ev.bind (h.2 hp) ((hf hp).1 q), fun q => Ev.bind (h.2 hp) ((hf hp).2 q)⟩
theorem evB_all (a n : Int) (Q : Int → Prop) (L : Int → Nat → Option Bool) (hend : Ev (L n) true) (hno : ∀ i, a ≤ i → i < n → ¬ Q i → Ev (L i) false)
    (hyes : ∀ i, a ≤ i → i < n → Q i → ∀ b, Ev (L (i + 1)) b → Ev (L i) b) : ∀ i, a ≤ i → i ≤ n → EvB (L i) (∀ j, i ≤ j → j < n → Q j) := by
  refine count_up a n _ ⟨fun _ => hend, fun h => absurd (fun j h1 h2 => absurd h2 (by omega)) h⟩ ?_
  intro i h0 h1 ih
  by_cases hq : Q i
  · refine ⟨fun h => hyes i h0 h1 hq _ (ih.1 fun j hj hn => h j (by omega) hn), fun h => hyes i h0 h1 hq _ (ih.2 fun h2 => h fun j hj hn => ?_)⟩
    by_cases e : j = i
    · subst e; exact hq
    · exact h2 j (by omega) hn
  · exact ⟨fun h => absurd (h i (by omega) h1) hq, fun _ => hno i h0 h1 hq⟩
theorem index_ev (n : Int) (Q : Int → Prop) (L : Int → Nat → Option Int) (hend : Ev (L n) (-1)) (hyes : ∀ i, 0 ≤ i → i < n → Q i → Ev (L i) i)
    (hno : ∀ i, 0 ≤ i → i < n → ¬ Q i → ∀ r, Ev (L (i + 1)) r → Ev (L i) r) : ∀ i, 0 ≤ i → i ≤ n →
    ∃ r, Ev (L i) r ∧ ((0 ≤ r ∧ i ≤ r ∧ r < n ∧ Q r ∧ ∀ j, i ≤ j → j < r → ¬ Q j) ∨ (r = -1 ∧ ∀ j, i ≤ j → j < n → ¬ Q j)) := by
  refine count_up 0 n _ ⟨-1, hend, .inr ⟨rfl, fun j h1 h2 => absurd h2 (by omega)⟩⟩ ?_
  intro i h0 h1 ih
  by_cases hq : Q i
  · exact ⟨i, hyes i h0 h1 hq, .inl ⟨h0, by omega, h1, hq, fun j h2 h3 => absurd h3 (by omega)⟩⟩
  · obtain ⟨r, hr, h⟩ := ih
    refine ⟨r, hno i h0 h1 hq _ hr, ?_⟩
    have ext : ∀ b, (∀ j, i + 1 ≤ j → j < b → ¬ Q j) → ∀ j, i ≤ j → j < b → ¬ Q j := fun b h2 j hj hb => by
      by_cases e : j = i
      · subst e; exact hq
      · exact h2 j (by omega) hb
    rcases h with ⟨a, b, c, d, e⟩ | ⟨a, b⟩
    · exact .inl ⟨a, by omega, c, d, ext r e⟩
    · exact .inr ⟨a, ext n b⟩
end Go.Proofs.YtmdfnambaedllaaDoor.PL
namespace Go.Proofs.YtmdfnambaedllaaDoor.PL
open Go Go.RowKit Go.Proofs.YtmdfnambaedllaaDoorW.PrintWords Go.Proofs.YtmdfnambaedllaaDoorW.PrintLast Go.Proofs.YtmdfnambaedllaaDoorW.PrintMore Go.Proofs.YtmdfnambaedllaaDoor.Pr Go.Proofs.YtmdfnambaedllaaDoor.TX Go.Proofs.YtmdfnambaedllaaDoor.X
def ba (l : List UInt8) : ByteArray := ⟨l.toArray⟩
theorem ba_data (s : ByteArray) : ba s.data.toList = s := by obtain ⟨⟨l⟩⟩ := s; rfl
theorem ba_list (l : List UInt8) : (ba l).data.toList = l := rfl
theorem ba_toList (l : List UInt8) : (ba l).toList = l := by rw [Lib.toList_data]; rfl
theorem ba_size (l : List UInt8) : (ba l).size = l.length := rfl
theorem size_data (s : ByteArray) : s.data.toList.length = s.size := Array.length_toList
theorem ba_ex (s : ByteArray) (a b : Nat) : s.extract a b = ba ((s.data.toList.take b).drop a) := by
  rw [← ba_data (s.extract a b), Lib.extract_data, List.drop_take]
theorem ba_app (a b : List UInt8) : ba a ++ ba b = ba (a ++ b) := by
  rw [← ba_data (ba a ++ ba b)]
  congr 1
theorem byte_at (s : ByteArray) {i : Int} (h0 : 0 ≤ i) (h1 : i < (s.size : Int)) : ∃ b : UInt8, s.data.toList.drop i.toNat = b :: s.data.toList.drop (i + 1).toNat ∧
    s.data.toList.take (i + 1).toNat = s.data.toList.take i.toNat ++ [b] ∧ bt s i = (b.toNat : Int) := by
  have hl : i.toNat < s.data.toList.length := by rw [size_data]; omega
  refine ⟨s.data.toList[i.toNat], ?_, ?_, ?_⟩
  · rw [show (i + 1).toNat = i.toNat + 1 from by omega, ← List.drop_eq_getElem_cons hl]
  · rw [show (i + 1).toNat = i.toNat + 1 from by omega, List.take_add_one, List.getElem?_eq_getElem hl]; rfl
  · rw [← bt_at s i (by omega)]
    obtain ⟨⟨l⟩⟩ := s
    rfl
theorem take_end (s : ByteArray) : s.data.toList.take ((s.size : Int)).toNat = s.data.toList := by
  rw [show ((s.size : Int)).toNat = s.size from by omega, ← size_data, List.take_length]
theorem drop_end (s : ByteArray) : s.data.toList.drop ((s.size : Int)).toNat = [] := by
  rw [show ((s.size : Int)).toNat = s.size from by omega, ← size_data, List.drop_length]
def wrd (c : UInt8) : List UInt8 → List UInt8 → List (List UInt8)
  | p, [] => [p]
  | p, b :: r => if b = c then p :: wrd c [] r else wrd c (p ++ [b]) r
theorem wrd_cons (c b : UInt8) (p r : List UInt8) : wrd c p (b :: r) = if b = c then p :: wrd c [] r else wrd c (p ++ [b]) r := rfl
theorem wrd_eq (c : UInt8) : ∀ s p : List UInt8, wrd c p s = match parts c s with
    | [] => [p]
    | q :: t => (p ++ q) :: t
  | [], p => by simp [wrd, parts]
  | b :: r, p => by
    rw [wrd_cons, parts_cons]
    by_cases h : b = c
    · rw [if_pos h, if_pos h, wrd_eq c r []]
      cases hp : parts c r with
      | nil => exact absurd hp (parts_ne c r)
      | cons q t => simp
    · rw [if_neg h, if_neg h, wrd_eq c r (p ++ [b])]
      cases hp : parts c r with
      | nil => exact absurd hp (parts_ne c r)
      | cons q t => simp
theorem wrd_parts (c : UInt8) (s : List UInt8) : wrd c [] s = parts c s := by
  rw [wrd_eq]
  cases hp : parts c s with
  | nil => exact absurd hp (parts_ne c s)
  | cons q t => simp
theorem toNat_eq (b : UInt8) (n : Nat) (hn : n < 256) : ((b.toNat : Int) = (n : Int)) ↔ b = UInt8.ofNat n := by
  constructor
  · intro h
    refine UInt8.toNat_inj.1 ?_
    rw [UInt8.toNat_ofNat']; omega
  · rintro rfl
    rw [UInt8.toNat_ofNat']; omega
theorem words_ev (s : ByteArray) (hs : (s.size : Int) ≤ 4611686018427) : Ev (fun k => spileref16_Words.f k s) ((parts 32 s.data.toList).map ba) := by
  have key : ∀ i, 0 ≤ i → i ≤ (s.size : Int) → ∀ (out : List ByteArray) (fr : Int), 0 ≤ fr → fr ≤ i → (out.length : Int) ≤ i →
      Ev (fun k => spileref16_Words.l0 k s out fr i) (out ++ (wrd 32 ((s.data.toList.take i.toNat).drop fr.toNat) (s.data.toList.drop i.toNat)).map ba) := by
    refine count_up 0 (s.size : Int) _ ?_ ?_
    · intro out fr h0 h1 h2
      rw [drop_end]
      refine Ev.step (fun k => spileref16_Words.l0.eq_2 ..) (evp (by omega) (evp rfl (evp h0 (evp h1 (evp (by omega) (Ev.step (fun k => spileref16_Words.l0.eq_2 ..) (evn ?_ (evr ?_))))))))
      · rw [w64 (by omega) (by omega)]; omega
      · rw [ba_ex]; rfl
    · intro i h0 h1 ih out fr g0 g1 g2
      obtain ⟨b, e1, e2, e3⟩ := byte_at s h0 h1
      have hw : wrap64 (i + 1) = i + 1 := w64 (by omega) (by omega)
      have hlen : fr.toNat ≤ (s.data.toList.take i.toNat).length := by rw [List.length_take, size_data]; omega
      refine Ev.step (fun k => spileref16_Words.l0.eq_2 ..) (evp (by omega) (evn (by omega) (evp h0 (evp h1 ?_))))
      rw [e1, wrd_cons, hw, e3]
      by_cases c : b = 32
      · have q := ih (out ++ [s.extract fr.toNat i.toNat]) (i + 1) (by omega) (by omega) (by rw [List.length_append]; simp; omega)
        have z : (s.data.toList.take (i + 1).toNat).drop (i + 1).toNat = [] := List.drop_eq_nil_of_le (by rw [List.length_take]; omega)
        rw [z, List.append_assoc] at q
        rw [if_pos c]
        refine evp ((toNat_eq b 32 (by decide)).2 c) (evp g0 (evp g1 (evp (by omega) ?_)))
        rw [ba_ex] at q ⊢
        exact q
      · have q := ih out fr g0 (by omega) (by omega)
        rw [e2, List.drop_append_of_le_length hlen] at q
        rw [if_neg c]
        exact evn (fun h => c ((toNat_eq b 32 (by decide)).1 h)) q
  have := key 0 (by omega) (by omega) [] 0 (by omega) (by omega) (by simp)
  rw [show (0 : Int).toNat = 0 from rfl, List.take_zero, List.drop_zero, List.drop_zero, wrd_parts, List.nil_append] at this
  exact this
theorem split_ev (s : ByteArray) (hs : s.size < 4294967281) : strings_Split.f s ⟨#[32]⟩ = some ((parts 32 s.data.toList).map ba) := by
  unfold strings_Split.f
  rw [if_pos ⟨hs, rfl⟩]
  refine congrArg some ?_
  have e := Lib.splitB_data ⟨#[32]⟩ 0 (Lib.countB s ⟨#[32]⟩) s
  have e2 : Lib.splitK [32] 0 (Lib.countB s ⟨#[32]⟩) s.data.toList = parts 32 s.data.toList := split_eq 32 s.data.toList
  have e3 : (Lib.splitB ⟨#[32]⟩ 0 (Lib.countB s ⟨#[32]⟩) s).map (·.data.toList) = parts 32 s.data.toList := e.trans e2
  rw [← e3, List.map_map]
  refine (List.map_congr_left (fun x _ => ba_data x) |>.trans (List.map_id _)).symm
def lin : List UInt8 → List UInt8 → List (List UInt8) × Bool
  | p, [] => if p = [] then ([], true) else ([p], false)
  | p, b :: r => if b = 10 then (p :: (lin [] r).1, (lin [] r).2) else lin (p ++ [b]) r
theorem lin_cons (p : List UInt8) (b : UInt8) (r : List UInt8) : lin p (b :: r) = if b = 10 then (p :: (lin [] r).1, (lin [] r).2) else lin (p ++ [b]) r := rfl
theorem lin_cut : ∀ (s p : List UInt8), lin p s = if (cut1 10 s).2.2 = true then ((p ++ (cut1 10 s).1) :: (lin [] (cut1 10 s).2.1).1, (lin [] (cut1 10 s).2.1).2) else if p ++ s = [] then ([], true) else ([p ++ s], false)
  | [], p => by simp [lin, cut1]
  | b :: r, p => by
    rw [lin_cons, cut1_cons]
    by_cases h : b = 10
    · rw [if_pos h, if_pos h]; simp
    · rw [if_neg h, if_neg h, lin_cut r (p ++ [b])]
      simp
theorem lines_ev (s : ByteArray) (hs : (s.size : Int) ≤ 4611686018427) : Ev (fun k => spileref16_Lines.f k s) ((lin [] s.data.toList).1.map ba, (lin [] s.data.toList).2) := by
  have key : ∀ i, 0 ≤ i → i ≤ (s.size : Int) → ∀ (out : List ByteArray) (fr : Int), 0 ≤ fr → fr ≤ i → (out.length : Int) ≤ i →
      Ev (fun k => spileref16_Lines.l0 k s out fr i) (out ++ (lin ((s.data.toList.take i.toNat).drop fr.toNat) (s.data.toList.drop i.toNat)).1.map ba, (lin ((s.data.toList.take i.toNat).drop fr.toNat) (s.data.toList.drop i.toNat)).2) := by
    refine count_up 0 (s.size : Int) _ ?_ ?_
    · intro out fr h0 h1 h2
      rw [drop_end, take_end]
      refine Ev.step (fun k => spileref16_Lines.l0.eq_2 ..) (evn (by omega) ?_)
      unfold lin
      by_cases c : fr < (s.size : Int)
      · have hne : ¬ s.data.toList.drop fr.toNat = [] := fun e => by
          have := congrArg List.length e
          rw [List.length_drop, size_data] at this
          simp at this; omega
        rw [if_neg hne]
        refine evp c (evp h0 (evp h1 (evp (by omega) (evr ?_))))
        have ex : s.extract fr.toNat s.size = ba (s.data.toList.drop fr.toNat) := by
          rw [ba_ex, ← size_data, List.take_length]
        rw [ex]
        rfl
      · have he : s.data.toList.drop fr.toNat = [] := List.drop_eq_nil_of_le (by rw [size_data]; omega)
        rw [if_pos he]
        exact evn c (evr (by simp))
    · intro i h0 h1 ih out fr g0 g1 g2
      obtain ⟨b, e1, e2, e3⟩ := byte_at s h0 h1
      have hw : wrap64 (i + 1) = i + 1 := w64 (by omega) (by omega)
      have hlen : fr.toNat ≤ (s.data.toList.take i.toNat).length := by rw [List.length_take, size_data]; omega
      refine Ev.step (fun k => spileref16_Lines.l0.eq_2 ..) (evp h1 (evp h0 ?_))
      rw [e1, lin_cons, hw, e3]
      by_cases c : b = 10
      · have q := ih (out ++ [s.extract fr.toNat i.toNat]) (i + 1) (by omega) (by omega) (by rw [List.length_append]; simp; omega)
        have z : (s.data.toList.take (i + 1).toNat).drop (i + 1).toNat = [] := List.drop_eq_nil_of_le (by rw [List.length_take]; omega)
        rw [z, List.append_assoc] at q
        rw [if_pos c]
        refine evp ((toNat_eq b 10 (by decide)).2 c) (evp g0 (evp g1 (evp (by omega) (evp (by omega) ?_))))
        rw [ba_ex] at q ⊢
        exact q
      · have q := ih out fr g0 (by omega) (by omega)
        rw [e2, List.drop_append_of_le_length hlen] at q
        rw [if_neg c]
        exact evn (fun h => c ((toNat_eq b 10 (by decide)).1 h)) q
  have := key 0 (by omega) (by omega) [] 0 (by omega) (by omega) (by simp)
  rw [show (0 : Int).toNat = 0 from rfl, List.take_zero, List.drop_zero, List.drop_zero, List.nil_append] at this
  exact this
theorem cut_ev (s : ByteArray) (hs : s.size < 4294967281) : strings_Cut.f s ⟨#[10]⟩ = some (ba (cut1 10 s.data.toList).1, ba (cut1 10 s.data.toList).2.1, (cut1 10 s.data.toList).2.2) := by
  unfold strings_Cut.f
  rw [if_pos hs]
  have e : Lib.cut s.data.toList (⟨#[10]⟩ : ByteArray).data.toList = cut1 10 s.data.toList := cut_eq 10 s.data.toList
  rw [e]
  rfl
theorem number_loop (s : ByteArray) (hs : (s.size : Int) ≤ 18) : ∀ i, 0 ≤ i → i ≤ (s.size : Int) → ∀ n : Nat, n + 1 ≤ 10 ^ i.toNat →
    Ev (fun k => spileref16_Number.l0 k s (n : Int) i) (if (s.data.toList.drop i.toNat).all isDig = true then (((valFrom n (s.data.toList.drop i.toNat) : Nat) : Int), true) else (0, false)) := by
  refine count_up 0 (s.size : Int) _ ?_ ?_
  · intro n hn
    rw [drop_end]
    exact Ev.step (fun k => spileref16_Number.l0.eq_2 ..) (evn (by omega) (evr (by rw [if_pos (show ([] : List UInt8).all isDig = true from rfl)]; rfl)))
  · intro i h0 h1 ih n hn
    obtain ⟨b, e1, _, e3⟩ := byte_at s h0 h1
    have hw : wrap64 (i + 1) = i + 1 := w64 (by omega) (by omega)
    refine Ev.step (fun k => spileref16_Number.l0.eq_2 ..) (evp h1 (evp h0 ?_))
    rw [e3, e1, hw]
    have hp : 10 ^ i.toNat ≤ 10 ^ 17 := Nat.pow_le_pow_right (by decide) (by omega)
    by_cases c1 : (b.toNat : Int) < 48
    · have hd : ¬ isDig b = true := fun h => by have := (isDig_iff b).1 h; omega
      rw [if_neg (by simp [hd])]
      exact evp c1 (Ev.now _)
    · by_cases c2 : (b.toNat : Int) > 57
      · have hd : ¬ isDig b = true := fun h => by have := (isDig_iff b).1 h; omega
        rw [if_neg (by simp [hd])]
        exact evn c1 (evp c2 (Ev.now _))
      · have hd : isDig b = true := (isDig_iff b).2 (by omega)
        have e : wrap64 ((wrap64 (10 * (n : Int))) + (((b.toNat : Int) - 48) % 256)) = ((10 * n + (b.toNat - 48) : Nat) : Int) := by
          rw [w64 (x := 10 * (n : Int)) (by omega) (by omega), w64 (by omega) (by omega)]; omega
        rw [e]
        have q := ih (10 * n + (b.toNat - 48)) (by
          rw [show (i + 1).toNat = i.toNat + 1 from by omega, Nat.pow_succ]; omega)
        have ea : ((b :: s.data.toList.drop (i + 1).toNat).all isDig = true) = ((s.data.toList.drop (i + 1).toNat).all isDig = true) := by
          rw [List.all_cons, hd, Bool.true_and]
        simp only [ea]
        exact evn c1 (evn c2 q)
def numR (most : Nat) (l : List UInt8) : Int × Bool := match numP most l with
  | some v => ((v : Int), true)
  | none => (0, false)
theorem number_ev (s : ByteArray) (most : Nat) (hm : most ≤ 18) : Ev (fun k => spileref16_Number.f k s (most : Int)) (numR most s.data.toList) := by
  have hsz := size_data s
  have bad : ¬ (Canon s.data.toList ∧ s.data.toList.length ≤ most) → numR most s.data.toList = (0, false) := fun h => by
    unfold numR numP; rw [if_neg h]
  by_cases c1 : (s.size : Int) < 1
  · rw [bad (fun h => by have := h.1.1; omega)]
    exact evp c1 (Ev.step (fun k => spileref16_Number.j0.eq_2 ..) (evp rfl (Ev.now _)))
  by_cases c2 : (s.size : Int) > (most : Int)
  · rw [bad (fun h => by have := h.2; omega)]
    exact evn c1 (evp c2 (Ev.step (fun k => spileref16_Number.j0.eq_2 ..) (evp rfl (Ev.now _))))
  have go : ¬ (1 < s.data.toList.length ∧ s.data.toList.head? = some 48) → Ev (fun k => spileref16_Number.j0 k s false) (numR most s.data.toList) := by
    intro hh
    have q := number_loop s (by omega) 0 (by omega) (by omega) 0 (by decide)
    rw [show (0 : Int).toNat = 0 from rfl, List.drop_zero] at q
    refine Ev.step (fun k => spileref16_Number.j0.eq_2 ..) (evn (by simp) ?_)
    by_cases hd : s.data.toList.all isDig = true
    · have hc : Canon s.data.toList ∧ s.data.toList.length ≤ most := ⟨⟨by omega, hh, hd⟩, by omega⟩
      rw [if_pos hd] at q
      have e : numR most s.data.toList = (((valFrom 0 s.data.toList : Nat) : Int), true) := by unfold numR numP; rw [if_pos hc]
      rw [e]
      exact q
    · rw [if_neg hd] at q
      rw [bad (fun h => hd h.1.2.2)]
      exact q
  by_cases c3 : (s.size : Int) > 1
  · obtain ⟨b, e1, _, e3⟩ := byte_at s (i := 0) (by omega) (by omega)
    rw [show (0 : Int).toNat = 0 from rfl, List.drop_zero] at e1
    refine evn c1 (evn c2 (evp c3 (evp (by omega) ?_)))
    rw [e3]
    by_cases c4 : b = 48
    · have e4 : ((b.toNat : Int) == 48) = true := by rw [beq_iff_eq]; exact (toNat_eq b 48 (by decide)).2 c4
      rw [e4, bad (fun h => h.1.2.1 ⟨by omega, by rw [e1]; simp [c4]⟩)]
      exact Ev.step (fun k => spileref16_Number.j0.eq_2 ..) (evp rfl (Ev.now _))
    · have e4 : ((b.toNat : Int) == 48) = false := by rw [beq_eq_false_iff_ne]; exact fun h => c4 ((toNat_eq b 48 (by decide)).1 h)
      rw [e4]
      exact go (fun h => c4 (by have := h.2; rw [e1] at this; simpa using this))
  · exact evn c1 (evn c2 (evn c3 (go (fun h => by omega))))
theorem dec_digit : ∀ d : Fin 10, (⟨#[48, 49, 50, 51, 52, 53, 54, 55, 56, 57]⟩ : ByteArray).extract d.val (d.val + 1) = ba [UInt8.ofNat (48 + d.val)] := by decide
theorem dec_digit' {d : Int} (h0 : 0 ≤ d) (h1 : d < 10) : (⟨#[48, 49, 50, 51, 52, 53, 54, 55, 56, 57]⟩ : ByteArray).extract d.toNat (wrap64 (d + 1)).toNat = ba [UInt8.ofNat (48 + d.toNat)] := by
  rw [w64 (by omega) (by omega), show (d + 1).toNat = d.toNat + 1 from by omega]
  exact dec_digit ⟨d.toNat, by omega⟩
theorem decimal_ev : ∀ (m : Nat) (n : Int), 0 ≤ n → n ≤ 9223372036854775807 → n.toNat ≤ m → Ev (fun k => spileref16_Decimal.f k n) (ba (Lib.itoa n)) := by
  have it : ∀ n : Int, 0 ≤ n → Lib.itoa n = Lib.decDigits n.toNat := fun n h => by unfold Lib.itoa; rw [if_neg (by omega)]
  intro m
  induction m with
  | zero =>
    intro n h0 h1 hm
    obtain rfl : n = 0 := by omega
    refine Ev.step (fun k => spileref16_Decimal.f.eq_2 ..) (evp (by omega) (evp (by omega) (evp (by rw [w64 (by omega) (by omega)]; omega) (evp (by rw [w64 (by omega) (by omega)]; omega) (evr ?_)))))
    rw [dec_digit' (d := 0) (by omega) (by omega), it 0 (by omega), digits_small (by decide)]
  | succ m ih =>
    intro n h0 h1 hm
    by_cases c : n < 10
    · refine Ev.step (fun k => spileref16_Decimal.f.eq_2 ..) (evp c (evp h0 (evp (by rw [w64 (by omega) (by omega)]; omega) (evp (by rw [w64 (by omega) (by omega)]; omega) (evr ?_)))))
      rw [dec_digit' h0 c, it n h0, digits_small (by omega)]
    · have e1 : Int.tdiv n 10 = n / 10 := Int.tdiv_eq_ediv_of_nonneg h0
      have e2 : Int.tmod n 10 = n % 10 := Int.tmod_eq_emod_of_nonneg h0
      have q := ih (n / 10) (by omega) (by omega) (by omega)
      have g0 : 0 ≤ n % 10 := by omega
      have g1 : n % 10 < 10 := by omega
      refine Ev.step (fun k => spileref16_Decimal.f.eq_2 ..) (evn c ?_)
      rw [e1, e2, w64 (x := n / 10) (by omega) (by omega)]
      refine evb q (evp g0 (evp (by rw [w64 (by omega) (by omega)]; omega) (evp (by rw [w64 (by omega) (by omega)]; omega) ?_)))
      rw [dec_digit' g0 g1, ba_app]
      have hl : (Lib.itoa (n / 10)).length ≤ 19 := by
        rw [it _ (by omega)]
        exact digits_length_le (by omega) (by decide)
      refine evp (by rw [ba_size, ba_size]; simp; omega) (evr ?_)
      rw [it _ (by omega), it n h0, digits_big (u := n.toNat) (by omega)]
      rw [show (n / 10).toNat = n.toNat / 10 from by omega, show (n % 10).toNat = n.toNat % 10 from by omega]
theorem atoi_cases (s : ByteArray) (hs : s.size ≤ 281474976710656) : ∃ n e, strconv_Atoi.f s = some (n, e) ∧ (e = none ↔ Lib.atoiAll s.data.toList = .ok n) ∧ (-9223372036854775808 ≤ n ∧ n ≤ 9223372036854775807) := by
  unfold strconv_Atoi.f
  rw [if_pos hs]
  cases ha : Lib.atoiAll s.data.toList with
  | ok v =>
    refine ⟨v, none, rfl, by simp, ?_⟩
    unfold Lib.atoiAll at ha
    cases hl : s.data.toList with
    | nil => rw [hl] at ha; cases ha
    | cons c r =>
      rw [hl] at ha
      simp only [] at ha
      cases hm : Lib.parseMag (if c.toNat = 43 ∨ c.toNat = 45 then r else c :: r) with
      | range => rw [hm] at ha; cases ha
      | ok u =>
        rw [hm] at ha
        simp only [] at ha
        by_cases c1 : ¬ c.toNat = 45 ∧ 9223372036854775808 ≤ u
        · rw [if_pos c1] at ha; cases ha
        · rw [if_neg c1] at ha
          by_cases c2 : c.toNat = 45 ∧ 9223372036854775808 < u
          · rw [if_pos c2] at ha; cases ha
          · rw [if_neg c2] at ha
            injection ha with ha
            by_cases c3 : c.toNat = 45
            · rw [if_pos c3] at ha; omega
            · rw [if_neg c3] at ha; omega
      | _ => rw [hm] at ha; cases ha
  | range =>
    refine ⟨_, some 0, rfl, by simp, ?_⟩
    unfold Lib.atoiSat
    split <;> omega
  | _ => exact ⟨0, some 0, rfl, by simp, by omega⟩
theorem itoa_f {n : Int} (h0 : -9223372036854775808 ≤ n) (h1 : n ≤ 9223372036854775807) : strconv_Itoa.f n = some (ba (Lib.itoa n)) := by
  unfold strconv_Itoa.f
  rw [if_pos h0, if_pos h1]
  rfl
end Go.Proofs.YtmdfnambaedllaaDoor.PL
namespace Go.Proofs.YtmdfnambaedllaaDoor.PL
open Go Go.RowKit Go.Proofs.YtmdfnambaedllaaDoorW.PrintWords Go.Proofs.YtmdfnambaedllaaDoorW.PrintLast Go.Proofs.YtmdfnambaedllaaDoorW.PrintMore Go.Proofs.YtmdfnambaedllaaDoor.Pr Go.Proofs.YtmdfnambaedllaaDoor.TX Go.Proofs.YtmdfnambaedllaaDoor.X
theorem parts_len (s : List UInt8) : (parts 32 s).length ≤ s.length + 1 := by
  induction s with
  | nil => simp [parts]
  | cons b r ih =>
    rw [parts_cons]
    by_cases c : b = 32
    · rw [if_pos c]; simp; omega
    · rw [if_neg c]
      cases hpr : parts 32 r with
      | nil => exact absurd hpr (parts_ne 32 r)
      | cons u v => rw [hpr] at ih; simp at ih ⊢; omega
theorem lin_len : ∀ (t p : List UInt8), (lin p t).1.length ≤ t.length + 1
  | [], p => by unfold lin; split <;> simp
  | b :: r, p => by
    rw [lin_cons]
    by_cases c : b = 10
    · rw [if_pos c]; have := lin_len r []; simp; omega
    · rw [if_neg c]; have := lin_len r (p ++ [b]); simp; omega
theorem lin_nil {s : List UInt8} {e : Bool} (h : lin [] s = ([], e)) : s = [] ∧ e = true := by
  rw [lin_cut] at h
  by_cases c : (cut1 10 s).2.2 = true
  · rw [if_pos c] at h; simp at h
  · rw [if_neg c] at h
    by_cases c2 : ([] : List UInt8) ++ s = []
    · rw [if_pos c2] at h
      exact ⟨by simpa using c2, (congrArg Prod.snd h).symm⟩
    · rw [if_neg c2] at h; simp at h
theorem lin_next {s l : List UInt8} {r : List (List UInt8)} {e : Bool} (h : lin [] s = (l :: r, e)) :
    (cut1 10 s).1 = l ∧ (((cut1 10 s).2.2 = true ∧ lin [] (cut1 10 s).2.1 = (r, e)) ∨ ((cut1 10 s).2.2 = false ∧ (cut1 10 s).2.1 = [] ∧ r = [] ∧ e = false)) ∧ s ≠ [] ∧ l.length ≤ s.length := by
  have hne : s ≠ [] := fun e2 => by rw [e2] at h; simp [lin] at h
  rw [lin_cut] at h
  by_cases c : (cut1 10 s).2.2 = true
  · rw [if_pos c] at h
    simp only [List.nil_append, Prod.mk.injEq, List.cons.injEq] at h
    refine ⟨h.1.1, .inl ⟨c, Prod.ext h.1.2 h.2⟩, hne, ?_⟩
    have := congrArg List.length (cut1_sum 10 s c)
    rw [List.length_append, h.1.1] at this
    omega
  · rw [if_neg c, if_neg (by simpa using hne)] at h
    simp only [List.nil_append, Prod.mk.injEq, List.cons.injEq] at h
    have := cut1_no 10 s (Bool.eq_false_iff.2 c)
    exact ⟨by rw [this.1]; exact h.1.1, .inr ⟨Bool.eq_false_iff.2 c, this.2, h.1.2.symm, h.2.symm⟩, hne, by rw [h.1.1]; exact Nat.le_refl _⟩
section
variable {α : Type}
/-- Line by line: the first line that has no such thing, or no line feed, stops it. -/
def run (lineL : List UInt8 → Option α) (e : Bool) : List (List UInt8) → List α → List α × Option Nat
  | [], out => (out, none)
  | l :: r, out => match lineL l with
    | none => ([], some out.length)
    | some x => if r = [] ∧ e = false then ([], some out.length) else run lineL e r (out ++ [x])
theorem run_cons (lineL : List UInt8 → Option α) (e : Bool) (l : List UInt8) (r : List (List UInt8)) (out : List α) : run lineL e (l :: r) out = match lineL l with
    | none => ([], some out.length)
    | some x => if r = [] ∧ e = false then ([], some out.length) else run lineL e r (out ++ [x]) := rfl
def printL (lineT : α → List UInt8) : List α → List UInt8
  | [] => []
  | x :: r => lineT x ++ 10 :: printL lineT r
theorem lin_print {lineT : α → List UInt8} : ∀ l : List α, (∀ x, x ∈ l → (10 : UInt8) ∉ lineT x) → lin [] (printL lineT l) = (l.map lineT, true)
  | [], _ => rfl
  | x :: r, h => by
    have hx := h x (by simp)
    rw [lin_cut]
    rw [show printL lineT (x :: r) = lineT x ++ 10 :: printL lineT r from rfl, cut1_first 10 _ _ hx]
    simp only [if_true, List.nil_append]
    rw [lin_print r (fun z hz => h z (by simp [hz]))]
    rfl
theorem run_print {lineL : List UInt8 → Option α} {lineT : α → List UInt8} : ∀ (l out : List α), (∀ x, x ∈ l → lineL (lineT x) = some x) → run lineL true (l.map lineT) out = (out ++ l, none)
  | [], out, _ => by simp [run]
  | x :: r, out, h => by
    rw [List.map_cons, run_cons, h x (by simp)]
    simp only []
    rw [if_neg (by simp), run_print r (out ++ [x]) (fun z hz => h z (by simp [hz]))]
    simp
theorem run_again {lineL : List UInt8 → Option α} {lineT : α → List UInt8} (hb : ∀ l x, lineL l = some x → lineT x = l) (e : Bool) : ∀ (ls : List (List UInt8)) (s : List UInt8) (out o : List α), lin [] s = (ls, e) → run lineL e ls out = (o, none) → ∃ xs, o = out ++ xs ∧ printL lineT xs = s
  | [], s, out, o, h, hr => by
    obtain ⟨rfl, _⟩ := lin_nil h
    have := congrArg Prod.fst hr
    exact ⟨[], by simp [run] at this ⊢; exact this.symm, rfl⟩
  | l :: r, s, out, o, h, hr => by
    obtain ⟨e1, e2, _⟩ := lin_next h
    rw [run_cons] at hr
    cases hx : lineL l with
    | none => rw [hx] at hr; simp at hr
    | some x =>
      rw [hx] at hr
      simp only [] at hr
      by_cases c : r = [] ∧ e = false
      · rw [if_pos c] at hr; simp at hr
      · rw [if_neg c] at hr
        rcases e2 with ⟨cf, hrest⟩ | ⟨_, _, h1, h2⟩
        · obtain ⟨xs, g1, g2⟩ := run_again hb e r _ (out ++ [x]) o hrest hr
          refine ⟨x :: xs, by rw [g1]; simp, ?_⟩
          show lineT x ++ 10 :: printL lineT xs = s
          rw [g2, hb l x hx, ← e1]
          exact (cut1_sum 10 s cf).symm
        · exact absurd ⟨h1, h2⟩ c
theorem printL_len {lineT : α → List UInt8} {m : Nat} : ∀ l : List α, (∀ x, x ∈ l → (lineT x).length ≤ m) → (printL lineT l).length ≤ (m + 1) * l.length
  | [], _ => by simp [printL]
  | x :: r, h => by
    have a := h x (by simp)
    have b := printL_len r (fun z hz => h z (by simp [hz]))
    simp only [printL, List.length_append, List.length_cons]
    rw [Nat.mul_add, Nat.mul_one]; omega
end
theorem itoa_dig {n : Int} (h0 : 0 ≤ n) : Lib.itoa n = Lib.decDigits n.toNat := by unfold Lib.itoa; rw [if_neg (by omega)]
theorem itoa_le {n : Int} {m : Nat} (h0 : 0 ≤ n) (h1 : n < 10 ^ m) (hm : 1 ≤ m) : (Lib.itoa n).length ≤ m := by
  rw [itoa_dig h0]
  refine digits_length_le ?_ hm
  have : ((n.toNat : Nat) : Int) < ((10 ^ m : Nat) : Int) := by rw [Int.natCast_pow]; show ((n.toNat : Nat) : Int) < 10 ^ m; omega
  exact Int.ofNat_lt.1 this
theorem itoa_numP {n : Int} {m : Nat} (h0 : 0 ≤ n) (h1 : n < 10 ^ m) (hm : 1 ≤ m) : numP m (Lib.itoa n) = some n.toNat := by
  have := itoa_le h0 h1 hm
  rw [itoa_dig h0] at this ⊢
  exact numP_digits this
theorem itoa_no {n : Int} (h0 : 0 ≤ n) {c : UInt8} (hc : isDig c = false) : c ∉ Lib.itoa n := by
  rw [itoa_dig h0]
  exact digit_not (digits_all _) hc
theorem numP_itoa {m v : Nat} {s : List UInt8} (h : numP m s = some v) : Lib.itoa (v : Int) = s := by
  rw [itoa_dig (by omega), Int.toNat_natCast]; exact (numP_text h).1
theorem dec_ev {n : Int} (h0 : 0 ≤ n) (h1 : n ≤ 9223372036854775807) : Ev (fun k => spileref16_Decimal.f k n) (ba (Lib.itoa n)) := decimal_ev n.toNat n h0 h1 (by omega)
end Go.Proofs.YtmdfnambaedllaaDoor.PL
namespace Go.Proofs.YtmdfnambaedllaaDoor.PL
open Go Go.RowKit Go.Proofs.YtmdfnambaedllaaDoorW.PrintWords Go.Proofs.YtmdfnambaedllaaDoorW.PrintLast Go.Proofs.YtmdfnambaedllaaDoorW.PrintMore Go.Proofs.YtmdfnambaedllaaDoor.Pr Go.Proofs.YtmdfnambaedllaaDoor.TX Go.Proofs.YtmdfnambaedllaaDoor.X
def natP (b : List UInt8) : Option Int := match numP 5 b with
  | none => none
  | some v => some (v : Int)
/-- A number that may have a minus sign. -/
def heatP (b : List UInt8) : Option Int := if b.head? = some 45 then (match numP 5 (b.drop 1) with
  | none => none
  | some v => if v = 0 then none else some (-(v : Int))) else natP b
def numsP : List (List UInt8) → Option (List Int)
  | [] => some []
  | b :: r => match natP b with
    | none => none
    | some v => match numsP r with
      | none => none
      | some l => some (v :: l)
theorem natP_some {b : List UInt8} {x : Int} (h : natP b = some x) : 0 ≤ x ∧ x ≤ 99999 ∧ Lib.itoa x = b ∧ Canon b ∧ b.length ≤ 5 ∧ x = ((valFrom 0 b : Nat) : Int) := by
  unfold natP at h
  cases hn : numP 5 b with
  | none => rw [hn] at h; cases h
  | some v =>
    rw [hn] at h
    obtain rfl := Option.some.inj h
    have h1 := numP_lt hn
    obtain ⟨h2, h3, h4⟩ := numP_text hn
    refine ⟨by omega, by omega, numP_itoa hn, h3, h4, ?_⟩
    unfold numP at hn
    rw [if_pos ⟨h3, h4⟩] at hn
    rw [Option.some.inj hn]
theorem natP_itoa {x : Int} (h0 : 0 ≤ x) (h1 : x ≤ 99999) : natP (Lib.itoa x) = some x := by
  unfold natP
  rw [itoa_numP (m := 5) h0 (by omega) (by omega)]
  show some ((x.toNat : Nat) : Int) = some x
  rw [Int.toNat_of_nonneg h0]
theorem canon_head {b : List UInt8} (h : Canon b) : b.head? ≠ some 45 := by
  intro e
  cases b with
  | nil => cases e
  | cons c r =>
    have h3 := h.2.2
    simp only [List.all_cons, Bool.and_eq_true] at h3
    have hc := (isDig_iff c).1 h3.1
    simp only [List.head?_cons, Option.some.injEq] at e
    rw [e] at hc
    exact absurd hc.1 (by decide)
theorem neg_itoa {x : Int} (h : x < 0) : Lib.itoa x = 45 :: Lib.decDigits x.natAbs := by unfold Lib.itoa; rw [if_pos h]
theorem heatP_itoa {x : Int} (h0 : -99999 ≤ x) (h1 : x ≤ 99999) : heatP (Lib.itoa x) = some x := by
  by_cases c : x < 0
  · rw [neg_itoa c]
    unfold heatP
    rw [if_pos (show (45 :: Lib.decDigits x.natAbs : List UInt8).head? = some 45 from rfl)]
    have hl := digits_length_le (u := x.natAbs) (n := 5) (by omega) (by omega)
    show (match numP 5 (Lib.decDigits x.natAbs) with
      | none => none
      | some v => if v = 0 then none else some (-(v : Int))) = some x
    rw [numP_digits hl]
    show (if x.natAbs = 0 then none else some (-(x.natAbs : Int))) = some x
    rw [if_neg (by omega)]
    congr 1
    omega
  · have hn := natP_itoa (x := x) (by omega) h1
    have hc := (natP_some hn).2.2.2.1
    unfold heatP
    rw [if_neg (canon_head hc)]
    exact hn
theorem heatP_some {b : List UInt8} {x : Int} (h : heatP b = some x) : -99999 ≤ x ∧ x ≤ 99999 ∧ Lib.itoa x = b ∧ (x < 0 → ∃ t, b = 45 :: t ∧ Canon t ∧ t.length ≤ 5 ∧ x = -((valFrom 0 t : Nat) : Int)) ∧ (0 ≤ x → natP b = some x) := by
  unfold heatP at h
  by_cases c : b.head? = some 45
  · rw [if_pos c] at h
    cases b with
    | nil => cases c
    | cons q t =>
      obtain rfl : q = 45 := by simpa using c
      rw [show ((45 : UInt8) :: t).drop 1 = t from rfl] at h
      cases hn : numP 5 t with
      | none => rw [hn] at h; cases h
      | some v =>
        rw [hn] at h
        simp only [] at h
        by_cases hv : v = 0
        · rw [if_pos hv] at h; cases h
        · rw [if_neg hv] at h
          obtain rfl := Option.some.inj h
          have h1 := numP_lt hn
          obtain ⟨h2, h3, h4⟩ := numP_text hn
          refine ⟨by omega, by omega, ?_, fun _ => ⟨t, rfl, h3, h4, ?_⟩, fun h => absurd h (by omega)⟩
          · rw [neg_itoa (by omega), show (-(v : Int)).natAbs = v from by omega, h2]
          · unfold numP at hn
            rw [if_pos ⟨h3, h4⟩] at hn
            rw [Option.some.inj hn]
  · rw [if_neg c] at h
    obtain ⟨h1, h2, h3, _⟩ := natP_some h
    exact ⟨by omega, h2, h3, fun q => absurd q (by omega), fun _ => h⟩
theorem atoi_neg {t : List UInt8} (h : Canon t) (hl : t.length ≤ 18) : Lib.atoiAll (45 :: t) = .ok (-((valFrom 0 t : Nat) : Int)) := by
  obtain ⟨h1, h2, h3⟩ := h
  have hv := valFrom_lt t 0 h3
  have hp : (0 + 1) * 10 ^ t.length ≤ 10 ^ 18 := by
    rw [Nat.zero_add, Nat.one_mul]; exact Nat.pow_le_pow_right (by decide) hl
  have hq := parse_ok t 0 h3 (by omega)
  unfold Lib.atoiAll
  simp only []
  rw [if_pos (Or.inr (by decide) : (45 : UInt8).toNat = 43 ∨ (45 : UInt8).toNat = 45)]
  have e : Lib.parseMag t = .ok (valFrom 0 t) := by unfold Lib.parseMag; rw [if_neg (by rintro rfl; simp at h1)]; exact hq
  rw [e]
  simp only []
  rw [if_neg (by rintro ⟨a, _⟩; exact a (by decide)), if_neg (by omega), if_pos (by decide)]
/-- What the program takes for a number. -/
theorem number_ev' (b : List UInt8) (neg : Bool) (hb : b.length ≤ 281474976710656) : ∃ p : Int × Bool, correct_number.f (ba b) neg = some p ∧
    (∀ v, (if neg = true then heatP b else natP b) = some v → p = (v, true)) ∧ ((if neg = true then heatP b else natP b) = none → p.2 = false) := by
  obtain ⟨n, e, h1, h2, h3⟩ := atoi_cases (ba b) (by rw [ba_size]; exact hb)
  rw [ba_list] at h2
  have ok_of : ∀ x, heatP b = some x → e = none ∧ n = x := fun x h => by
    obtain ⟨a1, a2, a3, a4, a5⟩ := heatP_some h
    have ha : Lib.atoiAll b = .ok x := by
      by_cases c : x < 0
      · obtain ⟨t, rfl, t1, t2, t3⟩ := a4 c
        rw [t3]; exact atoi_neg t1 (by omega)
      · obtain ⟨_, _, _, c1, c2, c3⟩ := natP_some (a5 (by omega))
        rw [c3]; exact atoi_of_canon c1 (by omega)
    cases e with
    | none =>
      have := h2.1 rfl
      rw [ha] at this
      injection this with this
      exact ⟨rfl, this.symm⟩
    | some q =>
      exfalso
      unfold strconv_Atoi.f at h1
      rw [if_pos (by rw [ba_size]; exact hb), ba_list, ha] at h1
      simp at h1
  have nat_heat : ∀ x, natP b = some x → heatP b = some x := fun x h => by
    unfold heatP
    rw [if_neg (canon_head (natP_some h).2.2.2.1)]
    exact h
  unfold correct_number.f
  rw [h1]
  simp only [Option.bind_some]
  cases hh : heatP b with
  | some x =>
    obtain ⟨rfl, rfl⟩ := ok_of x hh
    obtain ⟨a1, a2, a3, a4, a5⟩ := heatP_some hh
    rw [if_pos (show (none : Option Int).isNone = true from rfl), itoa_f h3.1 h3.2]
    simp only [Option.bind_some]
    rw [if_pos (by rw [ba_toList, ba_toList]; exact a3), if_pos a2, if_pos (show n ≥ -99999 from a1)]
    by_cases c : n ≥ 0
    · rw [if_pos c]
      have hn := a5 c
      refine ⟨_, rfl, fun v h => ?_, fun h => ?_⟩
      · cases neg with
        | true => rw [if_pos rfl] at h; rw [Option.some.inj h]
        | false => rw [if_neg (by simp), hn] at h; rw [Option.some.inj h]
      · cases neg with
        | true => rw [if_pos rfl] at h; cases h
        | false => rw [if_neg (by simp), hn] at h; cases h
    · rw [if_neg c]
      refine ⟨_, rfl, fun v h => ?_, fun h => ?_⟩
      · cases neg with
        | true => rw [if_pos rfl] at h; rw [Option.some.inj h]
        | false => rw [if_neg (by simp)] at h; exact absurd (natP_some h).1 (fun q => by have := nat_heat v h; rw [hh] at this; rw [Option.some.inj this] at c; exact c q)
      · cases neg with
        | true => rw [if_pos rfl] at h; cases h
        | false => rfl
  | none =>
    have hnat : natP b = none := by
      cases q : natP b with
      | none => rfl
      | some x => have := nat_heat x q; rw [hh] at this; cases this
    have hno : (if neg = true then (none : Option Int) else natP b) = none := by
      cases neg with
      | true => rfl
      | false => rw [if_neg (by simp)]; exact hnat
    have fin : ∀ p : Int × Bool, p.2 = false → ∃ p' : Int × Bool, some p = some p' ∧ (∀ v, (if neg = true then (none : Option Int) else natP b) = some v → p' = (v, true)) ∧ ((if neg = true then (none : Option Int) else natP b) = none → p'.2 = false) :=
      fun p hp => ⟨p, rfl, (fun v h => by rw [hno] at h; cases h), fun _ => hp⟩
    cases e with
    | some q => rw [if_neg (by simp)]; exact fin (n, false) rfl
    | none =>
      rw [if_pos (show (none : Option Int).isNone = true from rfl), itoa_f h3.1 h3.2]
      simp only [Option.bind_some]
      by_cases c1 : (ba (Lib.itoa n)).toList = (ba b).toList
      · rw [if_pos c1]
        rw [ba_toList, ba_toList] at c1
        by_cases c2 : n ≤ 99999
        · rw [if_pos c2]
          by_cases c3 : n ≥ -99999
          · exfalso
            have := heatP_itoa c3 c2
            rw [c1, hh] at this
            cases this
          · rw [if_neg c3]; exact fin (n, false) rfl
        · rw [if_neg c2]; exact fin (n, false) rfl
      · rw [if_neg c1]; exact fin (n, false) rfl
theorem rdOf_map (ws : List (List UInt8)) {i : Int} (h0 : 0 ≤ i) (h1 : i < (ws.length : Int)) : ∃ b, b ∈ ws ∧ rdOf ByteArray.empty (ws.map ba) i = ba b ∧ ws.drop i.toNat = b :: ws.drop (i + 1).toNat := by
  have hn : i.toNat < ws.length := by omega
  refine ⟨ws[i.toNat], List.getElem_mem _, ?_, ?_⟩
  · unfold rdOf
    rw [List.getD_eq_getElem?_getD, List.getElem?_map, List.getElem?_eq_getElem hn]
    rfl
  · rw [show (i + 1).toNat = i.toNat + 1 from by omega]
    exact List.drop_eq_getElem_cons hn
def numsR (acc : List Int) : Option (List Int) → List Int × Bool
  | some l => (acc ++ l, true)
  | none => ([], false)
theorem numbers_from (ws : List (List UInt8)) (neg : Int) (hl : ws.length ≤ 1000000) (hw : ∀ b, b ∈ ws → b.length ≤ 1000000) : ∀ i, neg ≤ i → 0 ≤ i → i ≤ (ws.length : Int) → ∀ acc : List Int, (acc.length : Int) ≤ i →
    Ev (fun k => correct_numbers.l0 k neg acc (ws.map ba) (ws.length : Int) i) (numsR acc (numsP (ws.drop i.toNat))) := by
  have key : ∀ i, 0 ≤ i → i ≤ (ws.length : Int) → (neg ≤ i → ∀ acc : List Int, (acc.length : Int) ≤ i →
    Ev (fun k => correct_numbers.l0 k neg acc (ws.map ba) (ws.length : Int) i) (numsR acc (numsP (ws.drop i.toNat)))) := by
    refine count_up 0 (ws.length : Int) _ ?_ ?_
    · intro _ acc ha
      rw [List.drop_eq_nil_of_le (by omega)]
      exact Ev.step (fun k => correct_numbers.l0.eq_2 ..) (evn (by omega) (evr (by simp [numsP, numsR])))
    · intro i h0 h1 ih hn acc ha
      obtain ⟨b, hb, e1, e2⟩ := rdOf_map ws h0 h1
      obtain ⟨p, p1, p2, p3⟩ := number_ev' b false (by have := hw b hb; omega)
      rw [if_neg (by simp)] at p3
      simp only [if_neg (show ¬ (false = true) by simp)] at p2
      rw [e2]
      refine Ev.step (fun k => correct_numbers.l0.eq_2 ..) (evp h1 (evp h0 (evp (by rw [List.length_map]; exact h1) ?_)))
      rw [e1, decide_eq_false (show ¬ i < neg by omega), p1]
      refine evb (Ev.now _) ?_
      cases hv : natP b with
      | none => exact evn (by rw [p3 hv]; simp) (evr (by simp [numsP, hv, numsR]))
      | some v =>
        rw [p2 v hv]
        refine evp rfl (evp (by omega) ?_)
        rw [w64_succ h0 h1 (by omega)]
        have q := ih (by omega) (acc ++ [v]) (by rw [List.length_append]; simp; omega)
        have e3 : numsR acc (numsP (b :: ws.drop (i + 1).toNat)) = numsR (acc ++ [v]) (numsP (ws.drop (i + 1).toNat)) := by
          simp only [numsP, hv]
          cases numsP (ws.drop (i + 1).toNat) with
          | none => rfl
          | some l => simp [numsR]
        rw [e3]
        exact q
  exact fun i hn h0 h1 => key i h0 h1 hn
theorem numbers_0 (ws : List (List UInt8)) (hl : ws.length ≤ 1000000) (hw : ∀ b, b ∈ ws → b.length ≤ 1000000) : Ev (fun k => correct_numbers.f k (ws.map ba) 0) (numsR [] (numsP ws)) := by
  have h := numbers_from ws 0 hl hw 0 (by omega) (by omega) (by omega) [] (by simp)
  rw [show (0 : Int).toNat = 0 from rfl, List.drop_zero] at h
  have e : ((ws.map ba).length : Int) = (ws.length : Int) := by rw [List.length_map]
  unfold correct_numbers.f
  rw [e]
  exact h
/-- The numbers behind the word 'heat'. -/
def rowP : List (List UInt8) → Option (Int × List Int)
  | [] => none
  | b :: r => match heatP b with
    | none => none
    | some h => match numsP r with
      | none => none
      | some l => some (h, l)
theorem numbers_1 (ws : List (List UInt8)) (hl : ws.length ≤ 1000000) (hw : ∀ b, b ∈ ws → b.length ≤ 1000000) : ∃ p : List Int × Bool, Ev (fun k => correct_numbers.f k (ws.map ba) 1) p ∧ (ws = [] → p = ([], true)) ∧
    (ws ≠ [] → rowP ws = none → p.2 = false) ∧ (∀ h l, rowP ws = some (h, l) → p = (h :: l, true)) := by
  have e : ((ws.map ba).length : Int) = (ws.length : Int) := by rw [List.length_map]
  unfold correct_numbers.f
  rw [e]
  cases ws with
  | nil => exact ⟨([], true), Ev.step (fun k => correct_numbers.l0.eq_2 ..) (evn (by simp) (Ev.now _)), fun _ => rfl, fun h => absurd rfl h, fun h l q => by cases q⟩
  | cons b r =>
    obtain ⟨p, p1, p2, p3⟩ := number_ev' b true (by have := hw b (by simp); omega)
    rw [if_pos rfl] at p3
    simp only [if_pos (show (true = true) from rfl)] at p2
    have at0 : rdOf ByteArray.empty ((b :: r).map ba) 0 = ba b := rfl
    have hlen : (((b :: r).length : Nat) : Int) = (r.length : Int) + 1 := by simp
    have step : ∀ y, Ev (fun k => if p.2 = true then (if ([] : List Int).length < 17592186044416 then (correct_numbers.l0 k 1 ([] ++ [p.1]) ((b :: r).map ba) (((b :: r).length : Nat) : Int) (wrap64 (0 + 1))) else none) else some ([], false)) y →
        Ev (fun k => correct_numbers.l0 k 1 ([] : List Int) ((b :: r).map ba) (((b :: r).length : Nat) : Int) 0) y := by
      intro y hy
      refine Ev.step (fun k => correct_numbers.l0.eq_2 ..) (evp (by omega) (evp (by omega) (evp (by rw [List.length_map]; omega) ?_)))
      rw [at0, decide_eq_true (show (0 : Int) < 1 by omega), p1]
      exact evb (Ev.now _) hy
    cases hv : heatP b with
    | none =>
      refine ⟨([], false), step _ (evn (by rw [p3 hv]; simp) (Ev.now _)), (fun h => by cases h), fun _ _ => rfl, fun h l q => ?_⟩
      simp only [rowP, hv] at q
      cases q
    | some v =>
      have pv := p2 v hv
      rw [pv, show wrap64 ((0 : Int) + 1) = 1 from (w64 (by omega) (by omega)).trans (by omega)] at step
      have q := numbers_from (b :: r) 1 hl hw 1 (by omega) (by omega) (by omega) [v] (by simp)
      rw [show (1 : Int).toNat = 1 from rfl, show (b :: r).drop 1 = r from rfl] at q
      refine ⟨numsR [v] (numsP r), step _ (evp rfl (evp (by simp) q)), (fun h => by cases h), fun _ h => ?_, fun h l hh => ?_⟩
      · simp only [rowP, hv] at h
        cases hn : numsP r with
        | none => rfl
        | some l => rw [hn] at h; cases h
      · simp only [rowP, hv] at hh
        cases hn : numsP r with
        | none => rw [hn] at hh; cases hh
        | some l2 =>
          rw [hn] at hh
          simp only [Option.some.injEq, Prod.mk.injEq] at hh
          obtain ⟨rfl, rfl⟩ := hh
          rfl
theorem ref_numbers (ws : List (List UInt8)) (hl : ws.length ≤ 1000000) (hw : ∀ b, b ∈ ws → b.length ≤ 1000000) : Ev (fun k => spileref19_numbers.f k (ws.map ba)) (numsR [] (numsP ws)) := by
  have key : ∀ i, 0 ≤ i → i ≤ (ws.length : Int) → ∀ acc : List Int, (acc.length : Int) ≤ i →
    Ev (fun k => spileref19_numbers.l0 k (ws.map ba) acc i) (numsR acc (numsP (ws.drop i.toNat))) := by
    refine count_up 0 (ws.length : Int) _ ?_ ?_
    · intro acc ha
      rw [List.drop_eq_nil_of_le (by omega)]
      exact Ev.step (fun k => spileref19_numbers.l0.eq_2 ..) (evn (by rw [List.length_map]; omega) (evr (by simp [numsP, numsR])))
    · intro i h0 h1 ih acc ha
      obtain ⟨b, hb, e1, e2⟩ := rdOf_map ws h0 h1
      have nb := number_ev (ba b) 5 (by omega)
      rw [ba_list] at nb
      rw [e2]
      refine Ev.step (fun k => spileref19_numbers.l0.eq_2 ..) (evp (by rw [List.length_map]; exact h1) (evp h0 ?_))
      rw [e1]
      refine evb nb ?_
      cases hv : numP 5 b with
      | none => exact evn (by simp [numR, hv]) (evr (by simp [numsP, natP, hv, numsR]))
      | some v =>
        have e4 : numR 5 b = ((v : Int), true) := by simp [numR, hv]
        rw [e4]
        refine evp rfl (evp (by omega) ?_)
        rw [w64_succ h0 h1 (by omega)]
        have q := ih (acc ++ [(v : Int)]) (by rw [List.length_append]; simp; omega)
        have e3 : numsR acc (numsP (b :: ws.drop (i + 1).toNat)) = numsR (acc ++ [(v : Int)]) (numsP (ws.drop (i + 1).toNat)) := by
          simp only [numsP, natP, hv]
          cases numsP (ws.drop (i + 1).toNat) with
          | none => rfl
          | some l => simp [numsR]
        rw [e3]
        exact q
  have h := key 0 (by omega) (by omega) [] (by simp)
  rw [show (0 : Int).toNat = 0 from rfl, List.drop_zero] at h
  exact h
theorem ref_heat (b : List UInt8) (hb : b.length ≤ 1000000) : ∃ p : Int × Bool, Ev (fun k => spileref19_heat.f k (ba b)) p ∧ (∀ v, heatP b = some v → p = (v, true)) ∧ (heatP b = none → p.2 = false) := by
  have nb := number_ev (ba b) 5 (by omega)
  rw [ba_list] at nb
  have plain : ∀ y, Ev (fun k => spileref19_heat.j0 k (ba b) false) y → b.head? ≠ some 45 ∨ ¬ (1 < b.length) ∨ b = [45, 48] → Ev (fun k => spileref19_heat.f k (ba b)) y := by
    intro y hy hc
    unfold spileref19_heat.f
    by_cases c1 : ((ba b).size : Int) > 1
    · rw [ba_size] at c1
      obtain ⟨q, e1, _, e3⟩ := byte_at (ba b) (i := 0) (by omega) (by rw [ba_size]; omega)
      rw [show (0 : Int).toNat = 0 from rfl, List.drop_zero, ba_list] at e1
      refine evp (by rw [ba_size]; exact c1) (evp (by rw [ba_size]; omega) ?_)
      rw [e3]
      by_cases c2 : (q.toNat : Int) = 45
      · have hq : q = 45 := (toNat_eq q 45 (by decide)).1 c2
        have hb2 : b = [45, 48] := by
          rcases hc with h | h | h
          · rw [e1, hq] at h; exact absurd rfl h
          · omega
          · exact h
        refine evp c2 ?_
        rw [show ((ba b).toList != ([45, 48] : List UInt8)) = false from by rw [ba_toList, hb2]; rfl]
        exact hy
      · exact evn c2 hy
    · exact evn c1 hy
  have j0 : Ev (fun k => spileref19_heat.j0 k (ba b) false) ((numR 5 b).1, (numR 5 b).2) := Ev.step (fun k => spileref19_heat.j0.eq_2 ..) (evn (by simp) (evb nb (Ev.now _)))
  by_cases h45 : b.head? = some 45
  case neg =>
    refine ⟨_, plain _ j0 (.inl h45), fun v h => ?_, fun h => ?_⟩
    · unfold heatP at h
      rw [if_neg h45] at h
      unfold natP at h
      cases hn : numP 5 b with
      | none => rw [hn] at h; cases h
      | some x => rw [hn] at h; rw [← Option.some.inj h]; simp [numR, hn]
    · unfold heatP at h
      rw [if_neg h45] at h
      unfold natP at h
      cases hn : numP 5 b with
      | none => simp [numR, hn]
      | some x => rw [hn] at h; cases h
  case pos =>
    have hnone : numP 5 b = none := by
      cases hn : numP 5 b with
      | none => rfl
      | some x => exact absurd h45 (canon_head (numP_text hn).2.1)
    cases b with
    | nil => cases h45
    | cons q t =>
      obtain rfl : q = 45 := by simpa using h45
      have hh : heatP (45 :: t) = match numP 5 t with
        | none => none
        | some v => if v = 0 then none else some (-(v : Int)) := by
        unfold heatP; rw [if_pos (show (45 :: t : List UInt8).head? = some 45 from rfl)]; rfl
      by_cases c1 : 1 < (45 :: t : List UInt8).length ∧ (45 :: t : List UInt8) ≠ [45, 48]
      · have nt := number_ev (ba t) 5 (by omega)
        rw [ba_list] at nt
        have ex : (ba (45 :: t)).extract 1 (ba (45 :: t)).size = ba t := by rw [ba_ex, ba_list, ba_size, List.take_length]; rfl
        obtain ⟨q, e1, _, e3⟩ := byte_at (ba (45 :: t)) (i := 0) (by omega) (by rw [ba_size]; simp only [List.length_cons]; omega)
        rw [show (0 : Int).toNat = 0 from rfl, List.drop_zero, ba_list] at e1
        have hq : q = 45 := by injection e1 with a b; exact a.symm
        refine ⟨(wrap64 (-(numR 5 t).1), (numR 5 t).2), ?_, fun v h => ?_, fun h => ?_⟩
        · refine evp (by rw [ba_size]; have := c1.1; omega) (evp (by rw [ba_size]; simp only [List.length_cons]; omega) ?_)
          rw [e3]
          refine evp (by rw [hq]; rfl) ?_
          rw [show ((ba (45 :: t)).toList != ([45, 48] : List UInt8)) = true from by rw [ba_toList]; exact bne_iff_ne.2 c1.2]
          refine Ev.step (fun k => spileref19_heat.j0.eq_2 ..) (evp rfl (evp (by rw [ba_size]; simp only [List.length_cons]; omega) ?_))
          rw [ex]
          exact evb nt (Ev.now _)
        · rw [hh] at h
          cases hn : numP 5 t with
          | none => rw [hn] at h; cases h
          | some x =>
            rw [hn] at h
            simp only [] at h
            by_cases hx : x = 0
            · rw [if_pos hx] at h; cases h
            · rw [if_neg hx] at h
              have := numP_lt hn
              rw [← Option.some.inj h]
              simp only [numR, hn]
              rw [w64 (by omega) (by omega)]
        · rw [hh] at h
          cases hn : numP 5 t with
          | none => simp [numR, hn]
          | some x =>
            rw [hn] at h
            simp only [] at h
            by_cases hx : x = 0
            · exfalso
              have hd := (numP_text hn).1
              rw [hx] at hd
              have : Lib.decDigits 0 = [48] := by rw [digits_small (by omega)]; rfl
              rw [this] at hd
              exact c1.2 (by rw [← hd])
            · rw [if_neg hx] at h; cases h
      · refine ⟨_, plain _ j0 (.inr ?_), fun v h => ?_, fun _ => by simp [numR, hnone]⟩
        · by_cases c2 : 1 < (45 :: t : List UInt8).length
          · exact .inr (Classical.byContradiction fun q => c1 ⟨c2, q⟩)
          · exact .inl c2
        · exfalso
          rw [hh] at h
          by_cases c2 : 1 < (45 :: t : List UInt8).length
          · have : (45 :: t : List UInt8) = [45, 48] := Classical.byContradiction fun q => c1 ⟨c2, q⟩
            injection this with _ ht
            rw [ht] at h
            rw [show numP 5 [48] = some 0 from by decide] at h
            cases h
          · have : t = [] := by cases t with | nil => rfl | cons a b => simp at c2
            rw [this, show numP 5 [] = none from by decide] at h
            cases h
end Go.Proofs.YtmdfnambaedllaaDoor.PL
namespace Go.Proofs.YtmdfnambaedllaaDoor.Pure
open Go Go.RowKit Go.Proofs.YtmdfnambaedllaaDoorW.PrintWords Go.Proofs.YtmdfnambaedllaaDoorW.PrintLast Go.Proofs.YtmdfnambaedllaaDoorW.PrintMore Go.Proofs.YtmdfnambaedllaaDoor.Pr Go.Proofs.YtmdfnambaedllaaDoor.PL
theorem contains_of_index {g : Nat → Option Int} {n : Int} {Q : Int → Prop}
    (h : ∃ r, Ev g r ∧ ((0 ≤ r ∧ 0 ≤ r ∧ r < n ∧ Q r ∧ ∀ j, 0 ≤ j → j < r → ¬ Q j) ∨ (r = -1 ∧ ∀ j, 0 ≤ j → j < n → ¬ Q j))) :
    EvB (fun k => (g k).bind fun t => some (decide (t ≥ 0))) (∃ j, 0 ≤ j ∧ j < n ∧ Q j) := by
  obtain ⟨r, hr, ⟨a, _, b, c, _⟩ | ⟨rfl, a⟩⟩ := h
  · exact ⟨fun _ => Ev.bind hr (evr (by simp [a])), fun hn => absurd ⟨r, a, b, c⟩ hn⟩
  · exact ⟨fun ⟨j, h0, h1, h2⟩ => absurd h2 (a j h0 h1), fun _ => Ev.bind hr (evr (by simp))⟩
abbrev Out (lo hi x : Int) : Prop := x < lo ∨ hi < x
theorem strange_eq (x : Int) : correct_strange.f x = some (decide (Out 0 10000 x)) := by
  unfold correct_strange.f Out
  by_cases h : x < 0
  · rw [if_pos h]; simp [h]
  · rw [if_neg h]; simp [h]
theorem heat_eq (x : Int) : correct_Check_2.f x = some (decide (Out (-400) 600 x)) := by
  unfold correct_Check_2.f Out
  by_cases h : x < -400
  · rw [if_pos h]; simp [h]
  · rw [if_neg h]; simp [h]
theorem any27 (l : List Int) (hl : l.length ≤ maxLen) : EvB (fun k => slices_ContainsFunc_int_int_36_at_27.f k l) (∃ j, 0 ≤ j ∧ j < (l.length : Int) ∧ Out 0 10000 (rd l j)) := by
  have hm := len_le hl
  refine contains_of_index (g := fun k => slices_IndexFunc_int_int_57_at_27.l0 k l (l.length : Int) 0) (index_ev (l.length : Int) (fun j => Out 0 10000 (rd l j)) (fun i k => slices_IndexFunc_int_int_57_at_27.l0 k l (l.length : Int) i) ?_ ?_ ?_ 0 (by omega) (by omega))
  · exact Ev.step (fun k => slices_IndexFunc_int_int_57_at_27.l0.eq_2 ..) (evn (by omega) (Ev.now _))
  · intro i h0 h1 hq
    refine Ev.step (fun k => slices_IndexFunc_int_int_57_at_27.l0.eq_2 ..) (evp h1 (evp h0 (evp h1 (evb (evc (fun _ => rfl) (strange_eq _)) ?_))))
    rw [decide_eq_true hq]
    exact evp rfl (Ev.now _)
  · intro i h0 h1 hq r hr
    refine Ev.step (fun k => slices_IndexFunc_int_int_57_at_27.l0.eq_2 ..) (evp h1 (evp h0 (evp h1 (evb (evc (fun _ => rfl) (strange_eq _)) ?_))))
    rw [decide_eq_false hq, w64_succ h0 h1 hm]
    exact evn (by simp) hr
theorem any37 (l : List Int) (hl : l.length ≤ maxLen) : EvB (fun k => slices_ContainsFunc_int_int_36_at_37.f k l) (∃ j, 0 ≤ j ∧ j < (l.length : Int) ∧ Out (-400) 600 (rd l j)) := by
  have hm := len_le hl
  refine contains_of_index (g := fun k => slices_IndexFunc_int_int_57_at_37.l0 k l (l.length : Int) 0) (index_ev (l.length : Int) (fun j => Out (-400) 600 (rd l j)) (fun i k => slices_IndexFunc_int_int_57_at_37.l0 k l (l.length : Int) i) ?_ ?_ ?_ 0 (by omega) (by omega))
  · exact Ev.step (fun k => slices_IndexFunc_int_int_57_at_37.l0.eq_2 ..) (evn (by omega) (Ev.now _))
  · intro i h0 h1 hq
    refine Ev.step (fun k => slices_IndexFunc_int_int_57_at_37.l0.eq_2 ..) (evp h1 (evp h0 (evp h1 (evb (evc (fun _ => rfl) (heat_eq _)) ?_))))
    rw [decide_eq_true hq]
    exact evp rfl (Ev.now _)
  · intro i h0 h1 hq r hr
    refine Ev.step (fun k => slices_IndexFunc_int_int_57_at_37.l0.eq_2 ..) (evp h1 (evp h0 (evp h1 (evb (evc (fun _ => rfl) (heat_eq _)) ?_))))
    rw [decide_eq_false hq, w64_succ h0 h1 hm]
    exact evn (by simp) hr
theorem any35 (ts : List (List Int)) (m : Int) (hl : ts.length ≤ maxLen) : EvB (fun k => slices_ContainsFunc_int_int_34_at_35.f k ts m) (∃ j, 0 ≤ j ∧ j < (ts.length : Int) ∧ ¬ ((rd_L1 ts j).length : Int) = m) := by
  have hm := len_le hl
  refine contains_of_index (g := fun k => slices_IndexFunc_int_int_56_at_35.l0 k ts (ts.length : Int) 0 m) (index_ev (ts.length : Int) (fun j => ¬ ((rd_L1 ts j).length : Int) = m) (fun i k => slices_IndexFunc_int_int_56_at_35.l0 k ts (ts.length : Int) i m) ?_ ?_ ?_ 0 (by omega) (by omega))
  · exact Ev.step (fun k => slices_IndexFunc_int_int_56_at_35.l0.eq_2 ..) (evn (by omega) (Ev.now _))
  · intro i h0 h1 hq
    refine Ev.step (fun k => slices_IndexFunc_int_int_56_at_35.l0.eq_2 ..) (evp h1 (evp h0 (evp h1 (evb (a := true) (evc (fun _ => rfl) (by unfold correct_Check_1.f; simpa using hq)) ?_))))
    exact evp rfl (Ev.now _)
  · intro i h0 h1 hq r hr
    refine Ev.step (fun k => slices_IndexFunc_int_int_56_at_35.l0.eq_2 ..) (evp h1 (evp h0 (evp h1 (evb (a := false) (evc (fun _ => rfl) (by unfold correct_Check_1.f; simpa using hq)) ?_))))
    rw [w64_succ h0 h1 hm]
    exact evn (by simp) hr
def OutRow (l : List Int) : Prop := ∃ j, 0 ≤ j ∧ j < (l.length : Int) ∧ Out 0 10000 (rd l j)
theorem any38 (ts : List (List Int)) (hl : ts.length ≤ maxLen) (hr : ∀ i, 0 ≤ i → i < (ts.length : Int) → (rd_L1 ts i).length ≤ maxLen) :
    EvB (fun k => slices_ContainsFunc_int_int_34_at_38.f k ts) (∃ i, 0 ≤ i ∧ i < (ts.length : Int) ∧ OutRow (rd_L1 ts i)) := by
  have hm := len_le hl
  have row : ∀ i, 0 ≤ i → i < (ts.length : Int) → EvB (fun k => correct_Check_3.f k (rd_L1 ts i)) (OutRow (rd_L1 ts i)) := fun i h0 h1 => by
    have h := any27 (rd_L1 ts i) (hr i h0 h1)
    exact h.map (fun p => ⟨fun _ => Ev.now _, fun q => absurd p q⟩) (fun p => ⟨fun q => absurd q p, fun _ => Ev.now _⟩)
  refine contains_of_index (g := fun k => slices_IndexFunc_int_int_56_at_38.l0 k ts (ts.length : Int) 0) (index_ev (ts.length : Int) (fun j => OutRow (rd_L1 ts j)) (fun i k => slices_IndexFunc_int_int_56_at_38.l0 k ts (ts.length : Int) i) ?_ ?_ ?_ 0 (by omega) (by omega))
  · exact Ev.step (fun k => slices_IndexFunc_int_int_56_at_38.l0.eq_2 ..) (evn (by omega) (Ev.now _))
  · intro i h0 h1 hq
    exact Ev.step (fun k => slices_IndexFunc_int_int_56_at_38.l0.eq_2 ..) (evp h1 (evp h0 (evp h1 (evb ((row i h0 h1).1 hq) (evp rfl (Ev.now _))))))
  · intro i h0 h1 hq r hr
    refine Ev.step (fun k => slices_IndexFunc_int_int_56_at_38.l0.eq_2 ..) (evp h1 (evp h0 (evp h1 (evb ((row i h0 h1).2 hq) ?_))))
    rw [w64_succ h0 h1 hm]
    exact evn (by simp) hr
/-- The numbers rise. -/
def Ris (l : List Int) : Prop := ∀ j, 0 ≤ j → j < (l.length : Int) - 1 → rd l j < rd l (j + 1)
theorem rising_ev (l : List Int) (hl : l.length ≤ maxLen) (h2 : 2 ≤ l.length) : EvB (fun k => correct_rising.f k l) (Ris l) := by
  have hm := len_le hl
  have e : wrap64 ((l.length : Int) - 1) = (l.length : Int) - 1 := w64 (by omega) (by omega)
  have h := evB_all 0 ((l.length : Int) - 1) (fun j => rd l j < rd l (j + 1)) (fun i k => correct_rising.l0 k l ((l.length : Int) - 1) i) ?_ ?_ ?_ 0 (by omega) (by omega)
  · unfold correct_rising.f
    rw [e]
    exact h
  · exact Ev.step (fun k => correct_rising.l0.eq_2 ..) (evn (by omega) (Ev.now _))
  · intro i h0 h1 hq
    have e1 := w64_succ h0 h1 (by omega)
    refine Ev.step (fun k => correct_rising.l0.eq_2 ..) ?_
    rw [e1]
    exact evp h1 (evp h0 (evp (by omega) (evp (by omega) (evp (by omega) (evp (by omega) (Ev.now _))))))
  · intro i h0 h1 hq b hb
    have e1 := w64_succ h0 h1 (by omega)
    refine Ev.step (fun k => correct_rising.l0.eq_2 ..) ?_
    rw [e1]
    exact evp h1 (evp h0 (evp (by omega) (evp (by omega) (evp (by omega) (evn (by omega) hb)))))
theorem rises_ev (l : List Int) (hl : l.length ≤ maxLen) (h2 : 2 ≤ l.length) : EvB (fun k => spileref19_rises.f k l) (Ris l) := by
  have hm := len_le hl
  have h := evB_all 1 (l.length : Int) (fun j => rd l (j - 1) < rd l j) (fun i k => spileref19_rises.l0 k l i) ?_ ?_ ?_ 1 (by omega) (by omega)
  · refine EvB.iff (P := ∀ j, 1 ≤ j → j < (l.length : Int) → rd l (j - 1) < rd l j) h ⟨fun h j h0 h1 => ?_, fun h j h0 h1 => ?_⟩
    · have := h (j + 1) (by omega) (by omega)
      rwa [show j + 1 - 1 = j from by omega] at this
    · have := h (j - 1) (by omega) (by omega)
      rwa [show j - 1 + 1 = j from by omega] at this
  · exact Ev.step (fun k => spileref19_rises.l0.eq_2 ..) (evn (by omega) (Ev.now _))
  · intro i h0 h1 hq
    have e1 : wrap64 (i - 1) = i - 1 := w64_pred (by omega) (by omega) hm
    refine Ev.step (fun k => spileref19_rises.l0.eq_2 ..) ?_
    rw [e1]
    exact evp h1 (evp (by omega) (evp (by omega) (evp (by omega) (evp (by omega) (Ev.now _)))))
  · intro i h0 h1 hq b hb
    have e1 : wrap64 (i - 1) = i - 1 := w64_pred (by omega) (by omega) hm
    have e2 := w64_succ (show 0 ≤ i by omega) h1 hm
    refine Ev.step (fun k => spileref19_rises.l0.eq_2 ..) ?_
    rw [e1, e2]
    exact evp h1 (evp (by omega) (evp (by omega) (evp (by omega) (evn (by omega) hb))))
theorem within_ev (l : List Int) (lo hi : Int) (hl : l.length ≤ maxLen) : EvB (fun k => spileref19_within.f k l lo hi) (¬ ∃ j, 0 ≤ j ∧ j < (l.length : Int) ∧ Out lo hi (rd l j)) := by
  have hm := len_le hl
  have h := evB_all 0 (l.length : Int) (fun j => ¬ Out lo hi (rd l j)) (fun i k => spileref19_within.l0 k l lo hi i) ?_ ?_ ?_ 0 (by omega) (by omega)
  · exact EvB.iff (P := ∀ j, 0 ≤ j → j < (l.length : Int) → ¬ Out lo hi (rd l j)) h ⟨fun h ⟨j, h0, h1, h2⟩ => h j h0 h1 h2, fun h j h0 h1 h2 => h ⟨j, h0, h1, h2⟩⟩
  · exact Ev.step (fun k => spileref19_within.l0.eq_2 ..) (evn (by omega) (Ev.now _))
  · intro i h0 h1 hq
    refine Ev.step (fun k => spileref19_within.l0.eq_2 ..) (evp h1 (evp h0 ?_))
    by_cases h : rd l i < lo
    · exact evp h (Ev.now _)
    · exact evn h (evp (by simp only [Out] at hq; omega) (Ev.now _))
  · intro i h0 h1 hq b hb
    simp only [Out] at hq
    refine Ev.step (fun k => spileref19_within.l0.eq_2 ..) (evp h1 (evp h0 (evn (by omega) (evn (by omega) ?_))))
    rw [w64_succ h0 h1 hm]
    exact hb
/-- Two numbers of a table contradict each other at a place. -/
def Conf (ts : List (List Int)) (i j : Int) : Prop := (0 < j ∧ rd (rd_L1 ts i) j < rd (rd_L1 ts i) (j - 1)) ∨ (0 < i ∧ rd (rd_L1 ts (i - 1)) j < rd (rd_L1 ts i) j)
def Rect (ts : List (List Int)) (m : Int) : Prop := ∀ i, 0 ≤ i → i < (ts.length : Int) → ((rd_L1 ts i).length : Int) = m
/-- A conflict at a place or behind it. -/
def BadFrom (ts : List (List Int)) (m i j : Int) : Prop := ∃ i2 j2, ((i2 = i ∧ j ≤ j2) ∨ i < i2) ∧ 0 ≤ j2 ∧ j2 < m ∧ i2 < (ts.length : Int) ∧ Conf ts i2 j2
def Says (g : Nat → Option Int) (P : Prop) : Prop := (P → Ev g 18) ∧ (¬ P → Ev g 0)
theorem says_step {g h : Nat → Option Int} {P Q : Prop} (hs : Says h Q) (e : P ↔ Q) (hg : ∀ r, Ev h r → Ev g r) : Says g P := ⟨fun p => hg _ (hs.1 (e.1 p)), fun p => hg _ (hs.2 (fun q => p (e.2 q)))⟩
theorem bad_end {ts : List (List Int)} {m i : Int} : BadFrom ts m i m ↔ BadFrom ts m (i + 1) 0 := by
  constructor
  · rintro ⟨i2, j2, h | h, h0, h1, h2, hc⟩
    · omega
    · exact ⟨i2, j2, by omega, h0, h1, h2, hc⟩
  · rintro ⟨i2, j2, h, h0, h1, h2, hc⟩
    exact ⟨i2, j2, by omega, h0, h1, h2, hc⟩
theorem bad_next {ts : List (List Int)} {m i j : Int} (h : ¬ Conf ts i j) : BadFrom ts m i j ↔ BadFrom ts m i (j + 1) := by
  constructor
  · rintro ⟨i2, j2, h | h', h0, h1, h2, hc⟩
    · by_cases e : j2 = j
      · obtain ⟨rfl, _⟩ := h
        subst e
        exact absurd hc ‹_›
      · exact ⟨i2, j2, by omega, h0, h1, h2, hc⟩
    · exact ⟨i2, j2, by omega, h0, h1, h2, hc⟩
  · rintro ⟨i2, j2, h, h0, h1, h2, hc⟩
    exact ⟨i2, j2, by omega, h0, h1, h2, hc⟩
theorem bad_none {ts : List (List Int)} {m : Int} : ¬ BadFrom ts m (ts.length : Int) 0 := by
  rintro ⟨i2, j2, h, h0, h1, h2, hc⟩
  omega
theorem bad_here {ts : List (List Int)} {m i j : Int} (h0 : 0 ≤ j) (h1 : j < m) (h2 : i < (ts.length : Int)) (h : Conf ts i j) : BadFrom ts m i j := ⟨i, j, .inl ⟨rfl, Int.le_refl _⟩, h0, h1, h2, h⟩
theorem conf_prog (hs as_ : List Int) (ts : List (List Int)) (m : Int) (hr : Rect ts m) (hl : ts.length ≤ maxLen) (hm0 : 0 ≤ m) (hm1 : m ≤ 9223372036854775807) :
    ∀ i, 0 ≤ i → i ≤ (ts.length : Int) → Says (fun k => correct_Check.l0 k ts (ts.length : Int) i hs as_ ts) (BadFrom ts m i 0) := by
  have hm := len_le hl
  refine count_up 0 (ts.length : Int) _ ⟨fun h => absurd h bad_none, fun _ => Ev.step (fun k => correct_Check.l0.eq_2 ..) (evn (by omega) (Ev.now _))⟩ ?_
  intro i h0 h1 ih
  have hrow := hr i h0 h1
  have inner := count_up 0 m (fun j => Says (fun k => correct_Check.l1 k i (rd_L1 ts i) ts (ts.length : Int) i (rd_L1 ts i) ((rd_L1 ts i).length : Int) j hs as_ ts) (BadFrom ts m i j)) ?_ ?_ 0 (by omega) hm0
  · exact says_step inner Iff.rfl (fun r h => Ev.step (fun k => correct_Check.l0.eq_2 ..) (evp h1 (evp h0 (evp h1 h))))
  · refine says_step ih bad_end (fun r h => Ev.step (fun k => correct_Check.l1.eq_2 ..) (evn (by omega) ?_))
    rw [w64_succ h0 h1 hm]
    exact h
  · intro j j0 j1 jh
    have e1 : wrap64 (j - 1) = j - 1 := w64_pred (by omega) (by omega) hm1
    have e2 := w64_succ j0 j1 hm1
    have e3 : wrap64 (i - 1) = i - 1 := w64_pred (by omega) (by omega) hm
    by_cases c1 : 0 < j ∧ rd (rd_L1 ts i) j < rd (rd_L1 ts i) (j - 1)
    · refine ⟨fun _ => Ev.step (fun k => correct_Check.l1.eq_2 ..) ?_, fun h => absurd (bad_here j0 j1 h1 (.inl c1)) h⟩
      rw [e1, e2, e3]
      exact evp (by omega) (evp j0 (evp (by omega) (evp c1.1 (evp (by omega) (evp (by omega) (evp c1.2 (Ev.now _)))))))
    · by_cases c2 : 0 < i ∧ rd (rd_L1 ts (i - 1)) j < rd (rd_L1 ts i) j
      · refine ⟨fun _ => Ev.step (fun k => correct_Check.l1.eq_2 ..) ?_, fun h => absurd (bad_here j0 j1 h1 (.inr c2)) h⟩
        have hp := hr (i - 1) (by omega) (by omega)
        have fin : Ev (fun k => if i > 0 then (if 0 ≤ i - 1 then (if i - 1 < (ts.length : Int) then (if j < ((rd_L1 ts (i - 1)).length : Int) then (if rd (rd_L1 ts i) j > rd (rd_L1 ts (i - 1)) j then some 18 else correct_Check.l1 k i (rd_L1 ts i) ts (ts.length : Int) i (rd_L1 ts i) ((rd_L1 ts i).length : Int) (j + 1) hs as_ ts) else none) else none) else none) else correct_Check.l1 k i (rd_L1 ts i) ts (ts.length : Int) i (rd_L1 ts i) ((rd_L1 ts i).length : Int) (j + 1) hs as_ ts) (18 : Int) :=
          evp c2.1 (evp (by omega) (evp (by omega) (evp (by omega) (evp c2.2 (Ev.now _)))))
        rw [e1, e2, e3]
        refine evp (by omega) (evp j0 (evp (by omega) ?_))
        by_cases jp : j > 0
        · exact evp jp (evp (by omega) (evp (by omega) (evn (fun h => c1 ⟨jp, h⟩) fin)))
        · exact evn jp fin
      · refine says_step jh (bad_next (fun h => h.elim c1 c2)) (fun r h => Ev.step (fun k => correct_Check.l1.eq_2 ..) ?_)
        have fin : Ev (fun k => if i > 0 then (if 0 ≤ i - 1 then (if i - 1 < (ts.length : Int) then (if j < ((rd_L1 ts (i - 1)).length : Int) then (if rd (rd_L1 ts i) j > rd (rd_L1 ts (i - 1)) j then some 18 else correct_Check.l1 k i (rd_L1 ts i) ts (ts.length : Int) i (rd_L1 ts i) ((rd_L1 ts i).length : Int) (j + 1) hs as_ ts) else none) else none) else none) else correct_Check.l1 k i (rd_L1 ts i) ts (ts.length : Int) i (rd_L1 ts i) ((rd_L1 ts i).length : Int) (j + 1) hs as_ ts) r := by
          by_cases ip : i > 0
          · have hp := hr (i - 1) (by omega) (by omega)
            exact evp ip (evp (by omega) (evp (by omega) (evp (by omega) (evn (fun h => c2 ⟨ip, h⟩) h))))
          · exact evn ip h
        rw [e1, e2, e3]
        refine evp (by omega) (evp j0 (evp (by omega) ?_))
        by_cases jp : j > 0
        · exact evp jp (evp (by omega) (evp (by omega) (evn (fun h => c1 ⟨jp, h⟩) fin)))
        · exact evn jp fin
end Go.Proofs.YtmdfnambaedllaaDoor.Pure
namespace Go.Proofs.YtmdfnambaedllaaDoor.Pure
open Go Go.RowKit Go.Proofs.YtmdfnambaedllaaDoorW.PrintWords Go.Proofs.YtmdfnambaedllaaDoorW.PrintLast Go.Proofs.YtmdfnambaedllaaDoorW.PrintMore Go.Proofs.YtmdfnambaedllaaDoor.Pr Go.Proofs.YtmdfnambaedllaaDoor.PL
theorem conf_ref (hs as_ : List Int) (ts : List (List Int)) (hr : Rect ts (as_.length : Int)) (hl : ts.length ≤ maxLen) (hla : as_.length ≤ maxLen) :
    ∀ i, 0 ≤ i → i ≤ (ts.length : Int) → Says (fun k => spileref19_Check.l1 k i hs as_ ts) (BadFrom ts (as_.length : Int) i 0) := by
  have hm := len_le hl
  have hm1 := len_le hla
  refine count_up 0 (ts.length : Int) _ ⟨fun h => absurd h bad_none, fun _ => Ev.step (fun k => spileref19_Check.l1.eq_2 ..) (evn (by omega) (Ev.now _))⟩ ?_
  intro i h0 h1 ih
  have hrow := hr i h0 h1
  have inner := count_up 0 (as_.length : Int) (fun j => Says (fun k => spileref19_Check.l2 k i j hs as_ ts) (BadFrom ts (as_.length : Int) i j)) ?_ ?_ 0 (by omega) (by omega)
  · exact says_step inner Iff.rfl (fun r h => Ev.step (fun k => spileref19_Check.l1.eq_2 ..) (evp h1 h))
  · refine says_step ih bad_end (fun r h => Ev.step (fun k => spileref19_Check.l2.eq_2 ..) (evn (by omega) ?_))
    rw [w64_succ h0 h1 hm]
    exact h
  · intro j j0 j1 jh
    have e1 : wrap64 (j - 1) = j - 1 := w64_pred (by omega) (by omega) hm1
    have e2 := w64_succ j0 j1 hm1
    have e3 : wrap64 (i - 1) = i - 1 := w64_pred (by omega) (by omega) hm
    by_cases c1 : 0 < j ∧ rd (rd_L1 ts i) j < rd (rd_L1 ts i) (j - 1)
    · refine ⟨fun _ => Ev.step (fun k => spileref19_Check.l2.eq_2 ..) ?_, fun h => absurd (bad_here j0 j1 h1 (.inl c1)) h⟩
      rw [e1, e2, e3]
      exact evp j1 (evp c1.1 (evp h0 (evp h1 (evp j0 (evp (by omega) (evp (by omega) (evp (by omega) (evp c1.2 (Ev.now _)))))))))
    · by_cases c2 : 0 < i ∧ rd (rd_L1 ts (i - 1)) j < rd (rd_L1 ts i) j
      · refine ⟨fun _ => Ev.step (fun k => spileref19_Check.l2.eq_2 ..) ?_, fun h => absurd (bad_here j0 j1 h1 (.inr c2)) h⟩
        have hp := hr (i - 1) (by omega) (by omega)
        rw [e1, e2, e3]
        refine evp j1 ?_
        by_cases jp : j > 0
        · exact evp jp (evp h0 (evp h1 (evp j0 (evp (by omega) (evp (by omega) (evp (by omega) (evn (fun h => c1 ⟨jp, h⟩) (evp c2.1 (evp (by omega) (evp (by omega) (evp (by omega) (evp c2.2 (Ev.now _)))))))))))))
        · exact evn jp (evp c2.1 (evp h0 (evp h1 (evp j0 (evp (by omega) (evp (by omega) (evp (by omega) (evp (by omega) (evp c2.2 (Ev.now _))))))))))
      · refine says_step jh (bad_next (fun h => h.elim c1 c2)) (fun r h => Ev.step (fun k => spileref19_Check.l2.eq_2 ..) ?_)
        rw [e1, e2, e3]
        refine evp j1 ?_
        by_cases jp : j > 0
        · refine evp jp (evp h0 (evp h1 (evp j0 (evp (by omega) (evp (by omega) (evp (by omega) (evn (fun h => c1 ⟨jp, h⟩) ?_)))))))
          by_cases ip : i > 0
          · have hp := hr (i - 1) (by omega) (by omega)
            exact evp ip (evp (by omega) (evp (by omega) (evp (by omega) (evn (fun h => c2 ⟨ip, h⟩) h))))
          · exact evn ip h
        · refine evn jp ?_
          by_cases ip : i > 0
          · have hp := hr (i - 1) (by omega) (by omega)
            exact evp ip (evp h0 (evp h1 (evp j0 (evp (by omega) (evp (by omega) (evp (by omega) (evp (by omega) (evn (fun h => c2 ⟨ip, h⟩) h))))))))
          · exact evn ip h
theorem shape_rect (hs as_ : List Int) (ts : List (List Int)) (hl : ts.length ≤ maxLen) :
    (Rect ts (as_.length : Int) → Ev (fun k => spileref19_shape.l0 k 0 hs as_ ts) 0) ∧ (¬ Rect ts (as_.length : Int) → Ev (fun k => spileref19_shape.l0 k 0 hs as_ ts) 10) := by
  have hm := len_le hl
  have h := count_up 0 (ts.length : Int) (fun i => ((∀ j, i ≤ j → j < (ts.length : Int) → ((rd_L1 ts j).length : Int) = (as_.length : Int)) → Ev (fun k => spileref19_shape.l0 k i hs as_ ts) 0) ∧ (¬ (∀ j, i ≤ j → j < (ts.length : Int) → ((rd_L1 ts j).length : Int) = (as_.length : Int)) → Ev (fun k => spileref19_shape.l0 k i hs as_ ts) 10)) ?_ ?_ 0 (by omega) (by omega)
  · exact h
  · exact ⟨fun _ => Ev.step (fun k => spileref19_shape.l0.eq_2 ..) (evn (by omega) (Ev.now _)), fun h => absurd (fun j h1 h2 => absurd h2 (by omega)) h⟩
  · intro i h0 h1 ih
    by_cases hq : ((rd_L1 ts i).length : Int) = (as_.length : Int)
    · have go : ∀ r, Ev (fun k => spileref19_shape.l0 k (i + 1) hs as_ ts) r → Ev (fun k => spileref19_shape.l0 k i hs as_ ts) r := fun r h => by
        refine Ev.step (fun k => spileref19_shape.l0.eq_2 ..) (evp h1 (evp h0 (evp hq ?_)))
        rw [w64_succ h0 h1 hm]
        exact h
      refine ⟨fun h => go _ (ih.1 fun j hj hn => h j (by omega) hn), fun h => go _ (ih.2 fun h2 => h fun j hj hn => ?_)⟩
      by_cases e : j = i
      · subst e; exact hq
      · exact h2 j (by omega) hn
    · exact ⟨fun h => absurd (h i (by omega) h1) hq, fun _ => Ev.step (fun k => spileref19_shape.l0.eq_2 ..) (evp h1 (evp h0 (evn hq (Ev.now _))))⟩
/-- A right correction table. -/
structure Valid (hs as_ : List Int) (ts : List (List Int)) : Prop where
  hs2 : 2 ≤ hs.length
  as2 : 2 ≤ as_.length
  hs32 : hs.length ≤ 32
  as32 : as_.length ≤ 32
  rows : ts.length = hs.length
  rect : Rect ts (as_.length : Int)
  heat : ∀ j, 0 ≤ j → j < (hs.length : Int) → -400 ≤ rd hs j ∧ rd hs j ≤ 600
  str : ∀ j, 0 ≤ j → j < (as_.length : Int) → 0 ≤ rd as_ j ∧ rd as_ j ≤ 10000
  num : ∀ i j, 0 ≤ i → i < (ts.length : Int) → 0 ≤ j → j < (as_.length : Int) → 0 ≤ rd (rd_L1 ts i) j ∧ rd (rd_L1 ts i) j ≤ 10000
  hris : Ris hs
  aris : Ris as_
  conf : ∀ i j, 0 ≤ i → i < (ts.length : Int) → 0 ≤ j → j < (as_.length : Int) → ¬ Conf ts i j
theorem row_len {ts : List (List Int)} (h : ∀ x, x ∈ ts → x.length ≤ maxLen) (i : Int) (h0 : 0 ≤ i) (h1 : i < (ts.length : Int)) : (rd_L1 ts i).length ≤ maxLen := by
  refine h _ ?_
  unfold rd_L1
  rw [List.getD_eq_getElem?_getD, List.getElem?_eq_getElem (by omega)]
  exact List.getElem_mem _
theorem check_both (hs as_ : List Int) (ts : List (List Int)) (hh : hs.length ≤ maxLen) (ha : as_.length ≤ maxLen) (ht : ts.length ≤ maxLen) (hrl : ∀ x, x ∈ ts → x.length ≤ maxLen) :
    ∃ r, Ev (fun k => correct_Check.f k hs as_ ts) r ∧ Ev (fun k => spileref19_Check.f k hs as_ ts) r ∧ (r = 0 ↔ Valid hs as_ ts) := by
  have hrl' := row_len hrl
  by_cases a1 : (hs.length : Int) < 2 ∨ (as_.length : Int) < 2
  · refine ⟨9, ?_, ?_, ⟨fun h => absurd h (by decide), fun v => absurd a1 (by have := v.hs2; have := v.as2; omega)⟩⟩
    · unfold correct_Check.f
      by_cases b : (hs.length : Int) < 2
      · exact evp b (Ev.step (fun k => correct_Check.j0.eq_2 ..) (evp rfl (Ev.now _)))
      · exact evn b (Ev.step (fun k => correct_Check.j0.eq_2 ..) (evp (by simp; omega) (Ev.now _)))
    · unfold spileref19_Check.f
      refine evb (a := 9) ?_ (evn (by decide) (Ev.now _))
      unfold spileref19_shape.f
      by_cases b : (hs.length : Int) < 2
      · exact evp b (Ev.step (fun k => spileref19_shape.j0.eq_2 ..) (evp rfl (Ev.now _)))
      · exact evn b (Ev.step (fun k => spileref19_shape.j0.eq_2 ..) (evp (by simp; omega) (Ev.now _)))
  have p1 : ∀ {r}, Ev (fun k => correct_Check.j0 k (hs.length : Int) false hs as_ ts (as_.length : Int)) r → Ev (fun k => correct_Check.f k hs as_ ts) r := fun {r} h => by
    unfold correct_Check.f
    refine evn (by omega) ?_
    rw [show decide ((as_.length : Int) < 2) = false from decide_eq_false (by omega)]
    exact h
  have q1 : ∀ {r}, Ev (fun k => spileref19_shape.j0 k false hs as_ ts) r → Ev (fun k => spileref19_shape.f k hs as_ ts) r := fun {r} h => by
    unfold spileref19_shape.f
    refine evn (by omega) ?_
    rw [show decide ((as_.length : Int) < 2) = false from decide_eq_false (by omega)]
    exact h
  have fail : ∀ {r : Int}, r ≠ 0 → Ev (fun k => spileref19_shape.f k hs as_ ts) r → Ev (fun k => spileref19_Check.f k hs as_ ts) r := fun {r} hr h => by
    unfold spileref19_Check.f
    exact evb h (evn hr (Ev.now _))
  by_cases a2 : (hs.length : Int) > 32 ∨ (as_.length : Int) > 32
  · refine ⟨8, p1 ?_, fail (by decide) (q1 ?_), ⟨fun h => absurd h (by decide), fun v => absurd a2 (by have := v.hs32; have := v.as32; omega)⟩⟩
    · refine Ev.step (fun k => correct_Check.j0.eq_2 ..) (evn (by decide) ?_)
      by_cases b : (hs.length : Int) > 32
      · exact evp b (Ev.step (fun k => correct_Check.j1.eq_2 ..) (evp rfl (Ev.now _)))
      · exact evn b (Ev.step (fun k => correct_Check.j1.eq_2 ..) (evp (by simp; omega) (Ev.now _)))
    · refine Ev.step (fun k => spileref19_shape.j0.eq_2 ..) (evn (by decide) ?_)
      by_cases b : (hs.length : Int) > 32
      · exact evp b (Ev.step (fun k => spileref19_shape.j1.eq_2 ..) (evp rfl (Ev.now _)))
      · exact evn b (Ev.step (fun k => spileref19_shape.j1.eq_2 ..) (evp (by simp; omega) (Ev.now _)))
  have p2 : ∀ {r}, Ev (fun k => correct_Check.j1 k (hs.length : Int) false hs as_ ts (as_.length : Int)) r → Ev (fun k => correct_Check.f k hs as_ ts) r := fun {r} h => by
    refine p1 (Ev.step (fun k => correct_Check.j0.eq_2 ..) (evn (by decide) (evn (by omega) ?_)))
    rw [show decide ((as_.length : Int) > 32) = false from decide_eq_false (by omega)]
    exact h
  have q2 : ∀ {r}, Ev (fun k => spileref19_shape.j1 k false hs as_ ts) r → Ev (fun k => spileref19_shape.f k hs as_ ts) r := fun {r} h => by
    refine q1 (Ev.step (fun k => spileref19_shape.j0.eq_2 ..) (evn (by decide) (evn (by omega) ?_)))
    rw [show decide ((as_.length : Int) > 32) = false from decide_eq_false (by omega)]
    exact h
  have hn35 := any35 ts (as_.length : Int) ht
  by_cases a3 : ¬ ((ts.length : Int) = (hs.length : Int) ∧ Rect ts (as_.length : Int))
  · refine ⟨10, p2 ?_, fail (by decide) (q2 ?_), ⟨fun h => absurd h (by decide), fun v => absurd ⟨by have := v.rows; omega, v.rect⟩ a3⟩⟩
    · refine Ev.step (fun k => correct_Check.j1.eq_2 ..) (evn (by decide) ?_)
      by_cases b : (ts.length : Int) = (hs.length : Int)
      · refine evp b (evb (hn35.1 ?_) (Ev.step (fun k => correct_Check.j2.eq_2 ..) (evp rfl (Ev.now _))))
        exact Classical.byContradiction fun hn => a3 ⟨b, fun i h0 h1 => Classical.byContradiction fun h2 => hn ⟨i, h0, h1, h2⟩⟩
      · exact evn b (Ev.step (fun k => correct_Check.j2.eq_2 ..) (evp rfl (Ev.now _)))
    · refine Ev.step (fun k => spileref19_shape.j1.eq_2 ..) (evn (by decide) ?_)
      by_cases b : (ts.length : Int) = (hs.length : Int)
      · exact evp b ((shape_rect hs as_ ts ht).2 fun h => a3 ⟨b, h⟩)
      · exact evn b (Ev.now _)
  obtain ⟨b3, rect⟩ := Classical.not_not.1 a3
  have p3 : ∀ {r}, Ev (fun k => correct_Check.j2 k false hs as_ ts) r → Ev (fun k => correct_Check.f k hs as_ ts) r := fun {r} h =>
    p2 (Ev.step (fun k => correct_Check.j1.eq_2 ..) (evn (by decide) (evp b3 (evb (hn35.2 fun ⟨i, h0, h1, h2⟩ => h2 (rect i h0 h1)) h))))
  have q3 : Ev (fun k => spileref19_shape.f k hs as_ ts) 0 := q2 (Ev.step (fun k => spileref19_shape.j1.eq_2 ..) (evn (by decide) (evp b3 ((shape_rect hs as_ ts ht).1 rect))))
  have h37 := any37 hs hh
  have h27 := any27 as_ ha
  have wh := within_ev hs (-400) 600 hh
  have wa := within_ev as_ 0 10000 ha
  by_cases a4 : (∃ j, 0 ≤ j ∧ j < (hs.length : Int) ∧ Out (-400) 600 (rd hs j)) ∨ (∃ j, 0 ≤ j ∧ j < (as_.length : Int) ∧ Out 0 10000 (rd as_ j))
  · refine ⟨2, p3 ?_, ?_, ⟨fun h => absurd h (by decide), fun v => ?_⟩⟩
    · refine Ev.step (fun k => correct_Check.j2.eq_2 ..) (evn (by decide) ?_)
      by_cases b : ∃ j, 0 ≤ j ∧ j < (hs.length : Int) ∧ Out (-400) 600 (rd hs j)
      · exact evb (h37.1 b) (evp rfl (Ev.step (fun k => correct_Check.j3.eq_2 ..) (evp rfl (Ev.now _))))
      · exact evb (h37.2 b) (evn (by decide) (evb (h27.1 (a4.resolve_left b)) (Ev.step (fun k => correct_Check.j3.eq_2 ..) (evp rfl (Ev.now _)))))
    · unfold spileref19_Check.f
      refine evb q3 (evp rfl ?_)
      by_cases b : ∃ j, 0 ≤ j ∧ j < (hs.length : Int) ∧ Out (-400) 600 (rd hs j)
      · exact evb (wh.2 fun h => h b) (evn (by decide) (Ev.step (fun k => spileref19_Check.j0.eq_2 ..) (evp rfl (Ev.now _))))
      · exact evb (wh.1 b) (evp rfl (evb (wa.2 fun h => h (a4.resolve_left b)) (Ev.step (fun k => spileref19_Check.j0.eq_2 ..) (evp rfl (Ev.now _)))))
    · rcases a4 with ⟨j, h0, h1, h2⟩ | ⟨j, h0, h1, h2⟩
      · have := v.heat j h0 h1; simp only [Out] at h2; omega
      · have := v.str j h0 h1; simp only [Out] at h2; omega
  have a4' := not_or.1 a4
  have p4 : ∀ {r}, Ev (fun k => correct_Check.j3 k false hs as_ ts) r → Ev (fun k => correct_Check.f k hs as_ ts) r := fun {r} h =>
    p3 (Ev.step (fun k => correct_Check.j2.eq_2 ..) (evn (by decide) (evb (h37.2 a4'.1) (evn (by decide) (evb (h27.2 a4'.2) h)))))
  have q4 : ∀ {r}, Ev (fun k => spileref19_Check.l0 k 0 hs as_ ts) r → Ev (fun k => spileref19_Check.f k hs as_ ts) r := fun {r} h => by
    unfold spileref19_Check.f
    exact evb q3 (evp rfl (evb (wh.1 a4'.1) (evp rfl (evb (wa.1 a4'.2) (Ev.step (fun k => spileref19_Check.j0.eq_2 ..) (evn (by decide) h))))))
  have h38 := any38 ts ht hrl'
  have hm := len_le ht
  have rows : ∀ {r}, (∀ {P : Prop}, (P ↔ ∃ i, 0 ≤ i ∧ i < (ts.length : Int) ∧ OutRow (rd_L1 ts i)) → (P → Ev (fun k => spileref19_Check.l0 k 0 hs as_ ts) 2) ∧ (¬ P → Ev (fun k => spileref19_Check.l0 k (ts.length : Int) hs as_ ts) r → Ev (fun k => spileref19_Check.l0 k 0 hs as_ ts) r)) := fun {r P} hP => by
    have h := count_up 0 (ts.length : Int) (fun i => ((∃ j, i ≤ j ∧ j < (ts.length : Int) ∧ OutRow (rd_L1 ts j)) → Ev (fun k => spileref19_Check.l0 k i hs as_ ts) 2) ∧ (¬ (∃ j, i ≤ j ∧ j < (ts.length : Int) ∧ OutRow (rd_L1 ts j)) → Ev (fun k => spileref19_Check.l0 k (ts.length : Int) hs as_ ts) r → Ev (fun k => spileref19_Check.l0 k i hs as_ ts) r)) ?_ ?_ 0 (by omega) (by omega)
    · exact ⟨fun p => h.1 (hP.1 p), fun p => h.2 (fun q => p (hP.2 q))⟩
    · exact ⟨fun ⟨j, h0, h1, _⟩ => absurd h1 (by omega), fun _ h => h⟩
    · intro i h0 h1 ih
      have w := within_ev (rd_L1 ts i) 0 10000 (hrl' i h0 h1)
      by_cases c : OutRow (rd_L1 ts i)
      · exact ⟨fun _ => Ev.step (fun k => spileref19_Check.l0.eq_2 ..) (evp h1 (evp h0 (evb (w.2 fun h => h c) (evn (by decide) (Ev.now _))))), fun hn => absurd ⟨i, by omega, h1, c⟩ hn⟩
      · have go : ∀ r, Ev (fun k => spileref19_Check.l0 k (i + 1) hs as_ ts) r → Ev (fun k => spileref19_Check.l0 k i hs as_ ts) r := fun r h => by
          refine Ev.step (fun k => spileref19_Check.l0.eq_2 ..) (evp h1 (evp h0 (evb (w.1 c) (evp rfl ?_))))
          rw [w64_succ h0 h1 hm]
          exact h
        refine ⟨fun ⟨j, g0, g1, g2⟩ => go _ (ih.1 ?_), fun hn h => go _ (ih.2 (fun ⟨j, g0, g1, g2⟩ => hn ⟨j, by omega, g1, g2⟩) h)⟩
        by_cases e : j = i
        · subst e; exact absurd g2 c
        · exact ⟨j, by omega, g1, g2⟩
  by_cases a5 : ∃ i, 0 ≤ i ∧ i < (ts.length : Int) ∧ OutRow (rd_L1 ts i)
  · refine ⟨2, p4 (Ev.step (fun k => correct_Check.j3.eq_2 ..) (evn (by decide) (evb (h38.1 a5) (evp rfl (Ev.now _))))), q4 ((rows (r := 0) Iff.rfl).1 a5), ⟨fun h => absurd h (by decide), fun v => ?_⟩⟩
    obtain ⟨i, h0, h1, j, g0, g1, g2⟩ := a5
    have := v.num i j h0 h1 g0 (by have := rect i h0 h1; omega)
    simp only [Out] at g2
    omega
  have q5 : ∀ {r}, Ev (fun k => spileref19_Check.l0 k (ts.length : Int) hs as_ ts) r → Ev (fun k => spileref19_Check.f k hs as_ ts) r := fun {r} h => q4 ((rows Iff.rfl).2 a5 h)
  have r1 := rising_ev hs hh (by omega)
  have r2 := rising_ev as_ ha (by omega)
  have s1 := rises_ev hs hh (by omega)
  have s2 := rises_ev as_ ha (by omega)
  by_cases a6 : ¬ (Ris hs ∧ Ris as_)
  · refine ⟨5, p4 (Ev.step (fun k => correct_Check.j3.eq_2 ..) (evn (by decide) (evb (h38.2 a5) (evn (by decide) ?_)))), q5 (Ev.step (fun k => spileref19_Check.l0.eq_2 ..) (evn (by omega) ?_)), ⟨fun h => absurd h (by decide), fun v => absurd ⟨v.hris, v.aris⟩ a6⟩⟩
    · by_cases b : Ris hs
      · exact evb (r1.1 b) (evp rfl (evb (r2.2 fun h => a6 ⟨b, h⟩) (evn (by decide) (Ev.now _))))
      · exact evb (r1.2 b) (evn (by decide) (Ev.now _))
    · by_cases b : Ris hs
      · exact evb (s1.1 b) (evp rfl (evb (s2.2 fun h => a6 ⟨b, h⟩) (Ev.step (fun k => spileref19_Check.j2.eq_2 ..) (evp rfl (Ev.now _)))))
      · exact evb (s1.2 b) (evn (by decide) (Ev.step (fun k => spileref19_Check.j2.eq_2 ..) (evp rfl (Ev.now _))))
  replace a6 := Classical.not_not.1 a6
  have p6 : ∀ {r}, Ev (fun k => correct_Check.l0 k ts (ts.length : Int) 0 hs as_ ts) r → Ev (fun k => correct_Check.f k hs as_ ts) r := fun {r} h =>
    p4 (Ev.step (fun k => correct_Check.j3.eq_2 ..) (evn (by decide) (evb (h38.2 a5) (evn (by decide) (evb (r1.1 a6.1) (evp rfl (evb (r2.1 a6.2) (evp rfl h))))))))
  have q6 : ∀ {r}, Ev (fun k => spileref19_Check.l1 k 0 hs as_ ts) r → Ev (fun k => spileref19_Check.f k hs as_ ts) r := fun {r} h =>
    q5 (Ev.step (fun k => spileref19_Check.l0.eq_2 ..) (evn (by omega) (evb (s1.1 a6.1) (evp rfl (evb (s2.1 a6.2) (Ev.step (fun k => spileref19_Check.j2.eq_2 ..) (evn (by decide) h)))))))
  have c1 := conf_prog hs as_ ts (as_.length : Int) rect ht (by omega) (by omega) 0 (by omega) (by omega)
  have c2 := conf_ref hs as_ ts rect ht ha 0 (by omega) (by omega)
  by_cases a7 : BadFrom ts (as_.length : Int) 0 0
  · refine ⟨18, p6 (c1.1 a7), q6 (c2.1 a7), ⟨fun h => absurd h (by decide), fun v => ?_⟩⟩
    obtain ⟨i2, j2, h, h0, h1, h2, hc⟩ := a7
    exact absurd hc (v.conf i2 j2 (by omega) h2 h0 h1)
  · refine ⟨0, p6 (c1.2 a7), q6 (c2.2 a7), ⟨fun _ => ?_, fun _ => rfl⟩⟩
    refine ⟨by omega, by omega, by omega, by omega, by omega, rect, fun j h0 h1 => ?_, fun j h0 h1 => ?_, fun i j h0 h1 g0 g1 => ?_, a6.1, a6.2, fun i j h0 h1 g0 g1 hc => a7 ⟨i, j, by omega, g0, g1, h1, hc⟩⟩
    · exact Classical.byContradiction fun h => a4'.1 ⟨j, h0, h1, by simp only [Out]; omega⟩
    · exact Classical.byContradiction fun h => a4'.2 ⟨j, h0, h1, by simp only [Out]; omega⟩
    · exact Classical.byContradiction fun h => a5 ⟨i, h0, h1, j, g0, by have := rect i h0 h1; omega, by simp only [Out]; omega⟩
end Go.Proofs.YtmdfnambaedllaaDoor.Pure
namespace Go.Proofs.YtmdfnambaedllaaDoor.PL
open Go Go.RowKit Go.Proofs.YtmdfnambaedllaaDoorW.PrintWords Go.Proofs.YtmdfnambaedllaaDoorW.PrintLast Go.Proofs.YtmdfnambaedllaaDoorW.PrintMore Go.Proofs.YtmdfnambaedllaaDoor.Pr Go.Proofs.YtmdfnambaedllaaDoor.TX Go.Proofs.YtmdfnambaedllaaDoor.X Go.Proofs.YtmdfnambaedllaaDoor.Pure
def wHeat : List UInt8 := [104, 101, 97, 116]
def wApp : List UInt8 := [97, 112, 112, 97, 114, 101, 110, 116]
/-- The row with a line. -/
def lineW : List (List UInt8) → Option (Int × List Int)
  | [] => none
  | w :: ws => if w = wHeat then rowP ws else none
def lineL (l : List UInt8) : Option (Int × List Int) := lineW (parts 32 l)
/-- The apparent strengths with the first line. -/
def firstW : List (List UInt8) → Option (List Int)
  | [] => none
  | w :: ws => if w = wApp then numsP ws else none
def firstL (l : List UInt8) : Option (List Int) := firstW (parts 32 l)
theorem mem_parts_len {s p : List UInt8} : p ∈ parts 32 s → p.length ≤ s.length := by
  induction s generalizing p with
  | nil => intro h; simp [parts] at h; simp [h]
  | cons b r ih =>
    intro h
    rw [parts_cons] at h
    by_cases c : b = 32
    · rw [if_pos c] at h
      rcases List.mem_cons.1 h with h | h
      · simp [h]
      · have := ih h; simp; omega
    · rw [if_neg c] at h
      cases hp : parts 32 r with
      | nil => exact absurd hp (parts_ne 32 r)
      | cons q t =>
        rw [hp] at h ih
        rcases List.mem_cons.1 h with h | h
        · have := ih (p := q) (by simp); rw [h]; simp; omega
        · have := ih (p := p) (by simp [h]); simp; omega
/-- The words of a line: one ahead, and the others. -/
theorem words_of (l : List UInt8) (hl : l.length ≤ 100000) : ∃ w ws, parts 32 l = w :: ws ∧ ws.length ≤ 1000000 ∧ (∀ b, b ∈ ws → b.length ≤ 1000000) := by
  have hn := parts_len l
  have hm : ∀ p, p ∈ parts 32 l → p.length ≤ l.length := fun p hp => mem_parts_len hp
  cases hp : parts 32 l with
  | nil => exact absurd hp (parts_ne 32 l)
  | cons w ws =>
    rw [hp] at hn hm
    refine ⟨w, ws, rfl, by simp at hn; omega, fun b hb => ?_⟩
    have := hm b (by simp [hb])
    omega
abbrev Res := List Int × List Int × List (List Int) × Int × Int
def failR (i : Int) : Res := ([], [], [], i, 3)
theorem prog_cut {s : List UInt8} (hs : s.length ≤ 70000) (hne : s ≠ []) {n : Int} {hs' ap : List Int} {ts : List (List Int)} {y : Res}
    (h : Ev (fun k => if (cut1 10 s).2.2 = true then ((strings_Split.f (ba (cut1 10 s).1) (⟨#[32]⟩ : ByteArray)).bind fun t146 => (if n = 0 then (if 1 ≤ (t146.length : Int) then ((correct_numbers.f k (t146.drop 1) 0).bind fun bt154 => (if bt154.2 = true then (if 0 < (t146.length : Int) then (if (rdOf ByteArray.empty t146 0).toList = ([97, 112, 112, 97, 114, 101, 110, 116] : List UInt8) then (correct_Parse.l0 k (ba (cut1 10 s).2.1) (wrap64 (n + 1)) hs' bt154.1 ts) else (some (([] : List Int), ([] : List Int), ([] : List (List Int)), n, 3))) else (none)) else (some (([] : List Int), ([] : List Int), ([] : List (List Int)), n, 3)))) else (none)) else (if 1 ≤ (t146.length : Int) then ((correct_numbers.f k (t146.drop 1) 1).bind fun bt164 => (if bt164.2 = true then (if 0 < (t146.length : Int) then (if (rdOf ByteArray.empty t146 0).toList = ([104, 101, 97, 116] : List UInt8) then (if (bt164.1.length : Int) = 0 then (some (([] : List Int), ([] : List Int), ([] : List (List Int)), n, 3)) else (if 0 < (bt164.1.length : Int) then ((some (([rd bt164.1 0] : List Int) : List Int)).bind fun y170 => (if hs'.length + y170.length < 17592186044416 then (if 1 ≤ (bt164.1.length : Int) then ((some (([(bt164.1.drop 1)] : List (List Int)) : List (List Int))).bind fun y181 => (if ts.length + y181.length < 5864062014805 then (correct_Parse.l0 k (ba (cut1 10 s).2.1) (wrap64 (n + 1)) (hs' ++ y170) ap (ts ++ y181)) else (none))) else (none)) else (none))) else (none))) else (some (([] : List Int), ([] : List Int), ([] : List (List Int)), n, 3))) else (none)) else (some (([] : List Int), ([] : List Int), ([] : List (List Int)), n, 3)))) else (none)))) else (some (([] : List Int), ([] : List Int), ([] : List (List Int)), n, 3))) y) :
    Ev (fun k => correct_Parse.j1 k (ba s) n true hs' ap ts) y := by
  refine Ev.step (fun k => correct_Parse.j1.eq_2 ..) (evp rfl ?_)
  have hc := cut_ev (ba s) (by rw [ba_size]; omega)
  rw [ba_list] at hc
  rw [hc]
  exact evb (Ev.now _) h
theorem at_word (w : List UInt8) (ws : List (List UInt8)) : rdOf ByteArray.empty ((w :: ws).map ba) 0 = ba w := rfl
theorem drop_word (w : List UInt8) (ws : List (List UInt8)) : ((w :: ws).map ba).drop 1 = ws.map ba := rfl
theorem len_word (w : List UInt8) (ws : List (List UInt8)) : (((w :: ws).map ba).length : Int) = (ws.length : Int) + 1 := by simp
theorem prog_round {s : List UInt8} (hs : s.length ≤ 70000) (hne : s ≠ []) {n : Int} (hn : 1 ≤ n) (hn2 : n ≤ 1000000) {hs' ap : List Int} {ts : List (List Int)} (hh : hs'.length ≤ 1000000) (ht : ts.length ≤ 1000000) :
    ((cut1 10 s).2.2 = false ∨ lineL (cut1 10 s).1 = none → Ev (fun k => correct_Parse.l0 k (ba s) n hs' ap ts) (failR n)) ∧
    (∀ h l, (cut1 10 s).2.2 = true → lineL (cut1 10 s).1 = some (h, l) → ∀ y, Ev (fun k => correct_Parse.l0 k (ba (cut1 10 s).2.1) (n + 1) (hs' ++ [h]) ap (ts ++ [l])) y → Ev (fun k => correct_Parse.l0 k (ba s) n hs' ap ts) y) := by
  have enter : ∀ y, Ev (fun k => correct_Parse.j1 k (ba s) n true hs' ap ts) y → Ev (fun k => correct_Parse.l0 k (ba s) n hs' ap ts) y := fun y hy => by
    refine Ev.step (fun k => correct_Parse.l0.eq_2 ..) (evn (by omega) ?_)
    rw [show ((ba s).toList != ([] : List UInt8)) = true from by rw [ba_toList]; exact bne_iff_ne.2 hne]
    exact hy
  have hlen : (cut1 10 s).1.length ≤ 100000 := by
    cases c : (cut1 10 s).2.2 with
    | true => have := congrArg List.length (cut1_sum 10 s c); simp at this; omega
    | false => have := cut1_no 10 s c; rw [this.1]; omega
  obtain ⟨w, ws, hp, hw1, hw2⟩ := words_of _ hlen
  have hsp := split_ev (ba (cut1 10 s).1) (by rw [ba_size]; omega)
  rw [ba_list, hp] at hsp
  have w1 : wrap64 (n + 1) = n + 1 := w64 (by omega) (by omega)
  obtain ⟨p, p1, p2, p3, p4⟩ := numbers_1 ws hw1 hw2
  have body : ∀ y, (cut1 10 s).2.2 = true → Ev (fun k => if p.2 = true then (if w = wHeat then (if (p.1.length : Int) = 0 then (some (failR n)) else (if 0 < (p.1.length : Int) then (if hs'.length + 1 < 17592186044416 then (if 1 ≤ (p.1.length : Int) then (if ts.length + 1 < 5864062014805 then (correct_Parse.l0 k (ba (cut1 10 s).2.1) (n + 1) (hs' ++ [rd p.1 0]) ap (ts ++ [p.1.drop 1])) else none) else none) else none) else none)) else some (failR n)) else some (failR n)) y → Ev (fun k => correct_Parse.l0 k (ba s) n hs' ap ts) y := by
    intro y hf hy
    refine enter y (prog_cut hs hne ?_)
    rw [hsp, w1]
    refine evp hf (evb (Ev.now _) (evn (by omega) ?_))
    rw [at_word, drop_word, len_word, ba_toList]
    refine evp (by omega) (evb p1 ?_)
    by_cases c : p.2 = true
    · simp only [if_pos c] at hy
      exact evp c (evp (by omega) hy)
    · simp only [if_neg c] at hy
      exact evn c hy
  have hl : lineL (cut1 10 s).1 = if w = wHeat then rowP ws else none := by unfold lineL; rw [hp]; rfl
  refine ⟨fun h => ?_, fun h l hf hx y hy => ?_⟩
  · by_cases hf : (cut1 10 s).2.2 = true
    · rcases h with h | h
      · rw [hf] at h; cases h
      · rw [hl] at h
        refine body _ hf ?_
        by_cases c : w = wHeat
        · rw [if_pos c] at h
          by_cases hws : ws = []
          · rw [p2 hws]
            exact evp rfl (evp c (evp rfl (Ev.now _)))
          · exact evn (by rw [p3 hws h]; simp) (Ev.now _)
        · by_cases q : p.2 = true
          · exact evp q (evn c (Ev.now _))
          · exact evn q (Ev.now _)
    · exact enter _ (prog_cut hs hne (evn hf (Ev.now _)))
  · rw [hl] at hx
    by_cases c : w = wHeat
    · rw [if_pos c] at hx
      refine body y hf ?_
      rw [p4 h l hx]
      refine evp rfl (evp c (evn (by simp only [List.length_cons]; omega) (evp (by simp only [List.length_cons]; omega) (evp (by omega) (evp (by simp only [List.length_cons]; omega) (evp (by omega) ?_))))))
      exact hy
    · rw [if_neg c] at hx; cases hx
theorem all_at {all : List (List UInt8)} {l : List UInt8} {r : List (List UInt8)} {n : Nat} (h : all.drop n = l :: r) : n < all.length ∧ rdOf ByteArray.empty (all.map ba) (n : Int) = ba l ∧ all.drop (n + 1) = r := by
  have hn : n < all.length := by
    rcases Nat.lt_or_ge n all.length with h' | h'
    · exact h'
    · rw [List.drop_eq_nil_of_le h'] at h; cases h
  refine ⟨hn, ?_, ?_⟩
  · unfold rdOf
    rw [List.getD_eq_getElem?_getD, Int.toNat_natCast, List.getElem?_map]
    have e : all[n]? = some l := by
      have := congrArg (·[0]?) h
      rw [List.getElem?_drop] at this
      simpa using this
    rw [e]; rfl
  · rw [← List.drop_drop, h]; rfl
theorem ref_enter {e : Bool} {all : List (List UInt8)} {l : List UInt8} {r : List (List UInt8)} {n : Nat} {hs ap : List Int} {ts : List (List Int)} (hd : all.drop n = l :: r) (hlen : n + (r.length + 1) = all.length) (hl : l.length ≤ 100000) (ha : all.length ≤ 1000000) {w : List UInt8} {ws : List (List UInt8)} (hp : parts 32 l = w :: ws) {y : Res}
    (h : Ev (fun k => spileref19_Parse.j1 k (all.map ba) e (n : Int) ((w :: ws).map ba) (decide (r = [] ∧ e = false)) hs ap ts) y) : Ev (fun k => spileref19_Parse.l0 k (all.map ba) e (n : Int) hs ap ts) y := by
  obtain ⟨hn, hat, _⟩ := all_at hd
  have hw := words_ev (ba l) (by rw [ba_size]; omega)
  rw [ba_list, hp] at hw
  have hw1 : wrap64 (((all.map ba).length : Int) - 1) = (all.length : Int) - 1 := by rw [List.length_map, w64 (by omega) (by omega)]
  refine Ev.step (fun k => spileref19_Parse.l0.eq_2 ..) ?_
  rw [hat, hw1]
  refine evp (by rw [List.length_map]; omega) (evp (by omega) (evb hw ?_))
  by_cases c : (n : Int) = (all.length : Int) - 1
  · have hr : r = [] := List.eq_nil_of_length_eq_zero (by omega)
    have : decide (r = [] ∧ e = false) = !e := by cases e <;> simp [hr]
    rw [this] at h
    exact evp c h
  · have hr : r ≠ [] := fun q => c (by rw [q] at hlen; simp at hlen; omega)
    have : decide (r = [] ∧ e = false) = false := decide_eq_false (fun q => hr q.1)
    rw [this] at h
    exact evn c h
theorem ref_round (e : Bool) {all : List (List UInt8)} {l : List UInt8} {r : List (List UInt8)} {n : Nat} (hn1 : 1 ≤ n) {hs ap : List Int} {ts : List (List Int)} (hd : all.drop n = l :: r) (hlen : n + (r.length + 1) = all.length) (hl : l.length ≤ 100000) (ha : all.length ≤ 1000000) (hh : hs.length ≤ 1000000) (ht : ts.length ≤ 1000000) :
    (lineL l = none ∨ (r = [] ∧ e = false) → Ev (fun k => spileref19_Parse.l0 k (all.map ba) e (n : Int) hs ap ts) (failR n)) ∧
    (∀ h x, lineL l = some (h, x) → ¬ (r = [] ∧ e = false) → ∀ y, Ev (fun k => spileref19_Parse.l0 k (all.map ba) e ((n : Int) + 1) (hs ++ [h]) ap (ts ++ [x])) y → Ev (fun k => spileref19_Parse.l0 k (all.map ba) e (n : Int) hs ap ts) y) := by
  obtain ⟨w, ws, hp, hw1, hw2⟩ := words_of l hl
  have w1 : wrap64 ((n : Int) + 1) = (n : Int) + 1 := w64 (by omega) (by omega)
  have hll : lineL l = if w = wHeat then rowP ws else none := by unfold lineL; rw [hp]; rfl
  by_cases last : r = [] ∧ e = false
  · refine ⟨fun _ => ref_enter hd hlen hl ha hp ?_, fun h x _ q => absurd last q⟩
    rw [decide_eq_true last]
    exact Ev.step (fun k => spileref19_Parse.j1.eq_2 ..) (evp rfl (Ev.now _))
  · have go : ∀ (b : Bool) y, (ws ≠ [] ∧ b = (w != wHeat) ∨ ws = [] ∧ b = true) → Ev (fun k => spileref19_Parse.j2 k (all.map ba) e (n : Int) ((w :: ws).map ba) b hs ap ts) y → Ev (fun k => spileref19_Parse.l0 k (all.map ba) e (n : Int) hs ap ts) y := by
      intro b y hb hy
      refine ref_enter hd hlen hl ha hp ?_
      rw [decide_eq_false last]
      refine Ev.step (fun k => spileref19_Parse.j1.eq_2 ..) (evn (by simp) (evn (by omega) ?_))
      rw [len_word, at_word, ba_toList]
      rcases hb with ⟨h1, h2⟩ | ⟨h1, h2⟩
      · have : 1 ≤ ws.length := by cases ws with | nil => exact absurd rfl h1 | cons a b => simp
        rw [h2] at hy
        exact evn (by omega) (evp (by omega) hy)
      · rw [h2] at hy
        exact evp (by rw [h1]; decide) hy
    have stop : ∀ y, y = failR n → Ev (fun k => spileref19_Parse.j2 k (all.map ba) e (n : Int) ((w :: ws).map ba) true hs ap ts) y := fun y hy => by
      subst hy; exact Ev.step (fun k => spileref19_Parse.j2.eq_2 ..) (evp rfl (Ev.now _))
    cases ws with
    | nil =>
      refine ⟨fun _ => go true _ (.inr ⟨rfl, rfl⟩) (stop _ rfl), fun h x q => ?_⟩
      rw [hll] at q
      by_cases c : w = wHeat
      · rw [if_pos c] at q; cases q
      · rw [if_neg c] at q; cases q
    | cons b ws =>
      by_cases c : w = wHeat
      case neg =>
        have hb : (w != wHeat) = true := bne_iff_ne.2 c
        exact ⟨fun _ => go true _ (.inl ⟨by simp, hb.symm⟩) (stop _ rfl), fun h x q => by rw [hll, if_neg c] at q; cases q⟩
      rw [if_pos c] at hll
      have hb : (w != wHeat) = false := bne_eq_false_iff_eq.2 c
      obtain ⟨p, p1, p2, p3⟩ := ref_heat b (hw2 b (by simp))
      have q1 := ref_numbers ws (by simp at hw1; omega) (fun z hz => hw2 z (by simp [hz]))
      have body : ∀ y, Ev (fun k => if p.2 = true then (if (numsR [] (numsP ws)).2 = true then (if hs.length < 17592186044416 then (if ts.length < 5864062014805 then (spileref19_Parse.l0 k (all.map ba) e ((n : Int) + 1) (hs ++ [p.1]) ap (ts ++ [(numsR [] (numsP ws)).1])) else none) else none) else some (failR n)) else some (failR n)) y → Ev (fun k => spileref19_Parse.l0 k (all.map ba) e (n : Int) hs ap ts) y := by
        intro y hy
        refine go false y (.inl ⟨by simp, hb.symm⟩) (Ev.step (fun k => spileref19_Parse.j2.eq_2 ..) (evn (by simp) ?_))
        rw [len_word, w1]
        have hl2 : (((b :: ws).length : Nat) : Int) = (ws.length : Int) + 1 := by simp
        have a1 : rdOf ByteArray.empty ((w :: b :: ws).map ba) 1 = ba b := rfl
        have a2 : ((w :: b :: ws).map ba).drop 2 = ws.map ba := rfl
        rw [a1, a2]
        exact evp (by omega) (evb p1 (evp (by omega) (evb q1 hy)))
      refine ⟨fun h => body _ ?_, fun h x q _ y hy => body y ?_⟩
      · rcases h with h | h
        · rw [hll] at h
          simp only [rowP] at h
          cases hv : heatP b with
          | none => exact evn (by rw [p3 hv]; simp) (Ev.now _)
          | some v =>
            rw [p2 v hv]
            rw [hv] at h
            simp only [] at h
            cases hn : numsP ws with
            | none => exact evp rfl (evn (by simp [numsR]) (Ev.now _))
            | some z => rw [hn] at h; cases h
        · exact absurd h last
      · rw [hll] at q
        simp only [rowP] at q
        cases hv : heatP b with
        | none => rw [hv] at q; cases q
        | some v =>
          rw [hv] at q
          simp only [] at q
          cases hn : numsP ws with
          | none => rw [hn] at q; cases q
          | some z =>
            rw [hn] at q
            simp only [Option.some.injEq, Prod.mk.injEq] at q
            obtain ⟨rfl, rfl⟩ := q
            rw [p2 v hv]
            exact evp rfl (evp rfl (evp (by omega) (evp (by omega) hy)))
def hsOf (o : List (Int × List Int)) : List Int := o.map (·.1)
def tsOf (o : List (Int × List Int)) : List (List Int) := o.map (·.2)
def runR (ap : List Int) (r : Res) : List (Int × List Int) × Option Nat → Prop
  | (o, none) => (Valid (hsOf o) ap (tsOf o) → r = (hsOf o, ap, tsOf o, -1, 0)) ∧ (¬ Valid (hsOf o) ap (tsOf o) → ∃ c : Int, c ≠ 0 ∧ r = ([], [], [], -1, c))
  | (_, some i) => r = failR ((i : Int) + 1)
theorem row_small {l : List UInt8} (hl : l.length ≤ 100000) {h : Int} {x : List Int} (q : lineL l = some (h, x)) : x.length ≤ 1000000 := by
  obtain ⟨w, ws, hp, hw1, hw2⟩ := words_of l hl
  unfold lineL at q
  rw [hp] at q
  have len : ∀ ws x, numsP ws = some x → x.length = ws.length := by
    intro ws
    induction ws with
    | nil => intro x h; simp [numsP] at h; simp [← h]
    | cons b r ih =>
      intro x h
      simp only [numsP] at h
      cases hb : natP b with
      | none => rw [hb] at h; cases h
      | some v =>
        rw [hb] at h
        simp only [] at h
        cases hr : numsP r with
        | none => rw [hr] at h; cases h
        | some z =>
          rw [hr] at h
          rw [← Option.some.inj h]
          simp [ih z hr]
  simp only [lineW] at q
  by_cases c : w = wHeat
  · rw [if_pos c] at q
    cases ws with
    | nil => cases q
    | cons b r =>
      simp only [rowP] at q
      cases hv : heatP b with
      | none => rw [hv] at q; cases q
      | some v =>
        rw [hv] at q
        simp only [] at q
        cases hn : numsP r with
        | none => rw [hn] at q; cases q
        | some z =>
          rw [hn] at q
          simp only [Option.some.injEq, Prod.mk.injEq] at q
          rw [← q.2, len r z hn]
          simp at hw1
          omega
  · rw [if_neg c] at q; cases q
theorem parse_loop (e : Bool) (ap : List Int) (hap : ap.length ≤ 1000000) : ∀ (ls : List (List UInt8)) (s : List UInt8) (all : List (List UInt8)) (out : List (Int × List Int)), lin [] s = (ls, e) → s.length ≤ 70000 → all.drop (out.length + 1) = ls → out.length + 1 + ls.length = all.length → all.length ≤ 1000000 → (∀ x, x ∈ out → x.2.length ≤ 1000000) →
    ∃ r, Ev (fun k => correct_Parse.l0 k (ba s) (((out.length + 1 : Nat)) : Int) (hsOf out) ap (tsOf out)) r ∧ Ev (fun k => spileref19_Parse.l0 k (all.map ba) e (((out.length + 1 : Nat)) : Int) (hsOf out) ap (tsOf out)) r ∧ runR ap r (run lineL e ls out) := by
  intro ls
  induction ls with
  | nil =>
    intro s all out h1 h2 h3 h4 h5 h6
    obtain ⟨rfl, rfl⟩ := lin_nil h1
    have big : (1000000 : Nat) ≤ maxLen := by decide
    have l1 : (hsOf out).length = out.length := by simp [hsOf]
    have l2 : (tsOf out).length = out.length := by simp [tsOf]
    simp only [List.length_nil] at h4
    obtain ⟨c, c1, c2, c3⟩ := check_both (hsOf out) ap (tsOf out) (by omega) (by omega) (by omega) (fun x hx => by
      obtain ⟨y, hy, rfl⟩ := List.mem_map.1 hx
      have := h6 y hy
      omega)
    refine ⟨if c = 0 then (hsOf out, ap, tsOf out, -1, 0) else ([], [], [], -1, c), ?_, ?_, ?_⟩
    · refine Ev.step (fun k => correct_Parse.l0.eq_2 ..) (evn (by omega) ?_)
      rw [show ((ba ([] : List UInt8)).toList != ([] : List UInt8)) = false from by rw [ba_toList]; rfl]
      refine Ev.step (fun k => correct_Parse.j1.eq_2 ..) (evn (by simp) (evb c1 ?_))
      by_cases q : c = 0
      · exact evp q (evr (by rw [if_pos q]))
      · exact evn q (evr (by rw [if_neg q]))
    · refine Ev.step (fun k => spileref19_Parse.l0.eq_2 ..) (evn (by rw [List.length_map]; omega) (evb c2 ?_))
      by_cases q : c = 0
      · exact evp q (evr (by rw [if_pos q]))
      · exact evn q (evr (by rw [if_neg q]))
    · exact ⟨fun g => by rw [if_pos (c3.2 g)], fun g => ⟨c, fun q => g (c3.1 q), by rw [if_neg (fun q => g (c3.1 q))]⟩⟩
  | cons l r ih =>
    intro s all out h1 h2 h3 h4 h5 h6
    obtain ⟨e1, e2, hne, hll⟩ := lin_next h1
    have l1 : (hsOf out).length = out.length := by simp [hsOf]
    have l2 : (tsOf out).length = out.length := by simp [tsOf]
    simp only [List.length_cons] at h4
    have hp := prog_round (s := s) (n := ((out.length + 1 : Nat) : Int)) (hs' := hsOf out) (ap := ap) (ts := tsOf out) h2 hne (by omega) (by omega) (by omega) (by omega)
    have hr := ref_round e (n := out.length + 1) (hs := hsOf out) (ap := ap) (ts := tsOf out) (by omega) h3 (by omega) (by omega) h5 (by omega) (by omega)
    rw [e1] at hp
    have en : (((out.length + 1 : Nat) : Int)) = (out.length : Int) + 1 := by omega
    rw [run_cons]
    cases hx : lineL l with
    | none => exact ⟨_, hp.1 (.inr hx), hr.1 (.inl hx), by show failR _ = failR _; rw [en]⟩
    | some x =>
      obtain ⟨h, xs⟩ := x
      simp only []
      rcases e2 with ⟨c, hrest⟩ | ⟨c, _, rfl, rfl⟩
      · have hno : ¬ (r = [] ∧ e = false) := fun h => by
          have := (lin_nil (s := (cut1 10 s).2.1) (e := e) (by rw [hrest, h.1])).2
          rw [h.2] at this; cases this
        rw [if_neg hno]
        have hl2 := cut1_len 10 s c
        have h3' := (all_at h3).2.2
        have lo : (out ++ [(h, xs)]).length = out.length + 1 := by simp
        obtain ⟨y, y1, y2, y3⟩ := ih (cut1 10 s).2.1 all (out ++ [(h, xs)]) hrest (by omega) (by rw [lo]; exact h3') (by rw [lo]; omega) h5 (fun z hz => by
          rcases List.mem_append.1 hz with hz | hz
          · exact h6 z hz
          · rw [List.mem_singleton.1 hz]
            exact row_small (by omega) hx)
        have a1 : hsOf (out ++ [(h, xs)]) = hsOf out ++ [h] := by simp [hsOf]
        have a2 : tsOf (out ++ [(h, xs)]) = tsOf out ++ [xs] := by simp [tsOf]
        have a3 : (((out ++ [(h, xs)]).length + 1 : Nat) : Int) = ((out.length + 1 : Nat) : Int) + 1 := by rw [lo]; omega
        rw [a1, a2, a3] at y1 y2
        exact ⟨y, hp.2 h xs c hx y y1, hr.2 h xs hx hno y y2, y3⟩
      · rw [if_pos ⟨rfl, rfl⟩]
        exact ⟨_, hp.1 (.inl c), hr.1 (.inr ⟨rfl, rfl⟩), by show failR _ = failR _; rw [en]⟩
/-- What a text has. -/
def tabL (s : List UInt8) : Option (List Int × List (Int × List Int)) := match lin [] s with
  | ([], _) => none
  | (l :: r, e) => match firstL l with
    | none => none
    | some ap => if r = [] ∧ e = false then none else match run lineL e r [] with
      | (_, some _) => none
      | (o, none) => some (ap, o)
def parsed (r : Res) (t : Option (List Int × List (Int × List Int))) : Prop :=
  (∀ ap o, t = some (ap, o) → (Valid (hsOf o) ap (tsOf o) → r = (hsOf o, ap, tsOf o, -1, 0)) ∧ (¬ Valid (hsOf o) ap (tsOf o) → ∃ c : Int, c ≠ 0 ∧ r = ([], [], [], -1, c))) ∧
  (t = none → ∃ i c : Int, c ≠ 0 ∧ r = ([], [], [], i, c))
theorem first_small {l : List UInt8} (hl : l.length ≤ 100000) {ap : List Int} (q : firstL l = some ap) : ap.length ≤ 1000000 := by
  obtain ⟨w, ws, hp, hw1, hw2⟩ := words_of l hl
  unfold firstL at q
  rw [hp] at q
  have len : ∀ ws x, numsP ws = some x → x.length = ws.length := by
    intro ws
    induction ws with
    | nil => intro x h; simp [numsP] at h; simp [← h]
    | cons b r ih =>
      intro x h
      simp only [numsP] at h
      cases hb : natP b with
      | none => rw [hb] at h; cases h
      | some v =>
        rw [hb] at h
        simp only [] at h
        cases hr : numsP r with
        | none => rw [hr] at h; cases h
        | some z =>
          rw [hr] at h
          rw [← Option.some.inj h]
          simp [ih z hr]
  simp only [firstW] at q
  by_cases c : w = wApp
  · rw [if_pos c] at q
    rw [len ws ap q]; exact hw1
  · rw [if_neg c] at q; cases q
theorem parse_both (s : List UInt8) (hs : s.length ≤ 65536) : ∃ r, Ev (fun k => correct_Parse.f k (ba s)) r ∧ Ev (fun k => spileref19_Parse.f k (ba s)) r ∧ parsed r (tabL s) := by
  have hL := lines_ev (ba s) (by rw [ba_size]; omega)
  rw [ba_list] at hL
  have hlen := lin_len s []
  unfold correct_Parse.f spileref19_Parse.f
  have prog : ∀ y, Ev (fun k => correct_Parse.l0 k (ba s) 0 [] [] []) y → Ev (fun k => if ((ba s).size : Int) > 65536 then some (([] : List Int), ([] : List Int), ([] : List (List Int)), (-1 : Int), (8 : Int)) else correct_Parse.l0 k (ba s) 0 [] [] []) y := fun y hy => evn (by rw [ba_size]; omega) hy
  have enter : ∀ y, Ev (fun k => correct_Parse.j1 k (ba s) 0 true [] [] []) y → Ev (fun k => correct_Parse.l0 k (ba s) 0 [] [] []) y := fun y hy =>
    Ev.step (fun k => correct_Parse.l0.eq_2 ..) (evp rfl hy)
  cases hlin : lin [] s with
  | mk ls e =>
    rw [hlin] at hL hlen
    cases ls with
    | nil =>
      obtain ⟨rfl, rfl⟩ := lin_nil hlin
      refine ⟨failR 0, prog _ (enter _ (Ev.step (fun k => correct_Parse.j1.eq_2 ..) (evp rfl ?_))), evn (by rw [ba_size]; simp) (evb hL (evp rfl (Ev.now _))), ?_⟩
      · have hc := cut_ev (ba []) (by decide)
        rw [hc]
        exact evb (Ev.now _) (evn (by decide) (Ev.now _))
      · unfold tabL
        rw [hlin]
        exact ⟨(fun ap o h => by cases h), fun _ => ⟨0, 3, by decide, rfl⟩⟩
    | cons l r =>
      obtain ⟨e1, e2, hne, hll⟩ := lin_next hlin
      simp only [List.length_cons] at hlen
      obtain ⟨w, ws, hp, hw1, hw2⟩ := words_of l (by omega)
      have hfl : firstL l = if w = wApp then numsP ws else none := by unfold firstL; rw [hp]; rfl
      have hsp := split_ev (ba l) (by rw [ba_size]; omega)
      rw [ba_list, hp] at hsp
      have q0 := numbers_0 ws hw1 hw2
      have q1 := ref_numbers ws hw1 hw2
      have w1 : wrap64 ((0 : Int) + 1) = 1 := (w64 (by omega) (by omega)).trans (by omega)
      have body : ∀ y, Ev (fun k => if (cut1 10 s).2.2 = true then (if (numsR [] (numsP ws)).2 = true then (if w = wApp then correct_Parse.l0 k (ba (cut1 10 s).2.1) 1 [] (numsR [] (numsP ws)).1 [] else some (failR 0)) else some (failR 0)) else some (failR 0)) y → Ev (fun k => correct_Parse.l0 k (ba s) 0 [] [] []) y := by
        intro y hy
        refine enter y (prog_cut (by omega) hne ?_)
        by_cases hf : (cut1 10 s).2.2 = true
        · simp only [if_pos hf] at hy
          refine evp hf ?_
          rw [e1, hsp, w1]
          refine evb (Ev.now _) (evp rfl ?_)
          rw [at_word, drop_word, len_word, ba_toList]
          refine evp (by omega) (evb q0 ?_)
          by_cases c : (numsR [] (numsP ws)).2 = true
          · simp only [if_pos c] at hy
            exact evp c (evp (by omega) hy)
          · simp only [if_neg c] at hy
            exact evn c hy
        · simp only [if_neg hf] at hy
          exact evn hf hy
      have ref : ∀ y, Ev (fun k => spileref19_Parse.l0 k ((l :: r).map ba) e 0 [] [] []) y → Ev (fun k => if ((ba s).size : Int) > 65536 then some (([] : List Int), ([] : List Int), ([] : List (List Int)), (-1 : Int), (8 : Int)) else (spileref16_Lines.f k (ba s)).bind fun bt159 => if (bt159.1.length : Int) = 0 then some (([] : List Int), ([] : List Int), ([] : List (List Int)), (0 : Int), (3 : Int)) else spileref19_Parse.l0 k bt159.1 bt159.2 0 [] [] []) y := fun y hy =>
        evn (by rw [ba_size]; omega) (evb hL (evn (by first | (simp; done) | (simp only [List.length_cons, List.length_map]; omega) | (simp; omega)) hy))
      have rbody : ∀ y, Ev (fun k => if (r = [] ∧ e = false) then some (failR 0) else (if w = wApp then (if (numsR [] (numsP ws)).2 = true then spileref19_Parse.l0 k ((l :: r).map ba) e 1 [] (numsR [] (numsP ws)).1 [] else some (failR 0)) else some (failR 0))) y → Ev (fun k => spileref19_Parse.l0 k ((l :: r).map ba) e 0 [] [] []) y := by
        intro y hy
        refine ref_enter (n := 0) (all := l :: r) (l := l) (r := r) rfl (by first | (simp; done) | (simp only [List.length_cons, List.length_map]; omega) | (simp; omega)) (by omega) (by first | (simp; done) | (simp only [List.length_cons, List.length_map]; omega) | (simp; omega)) hp ?_
        by_cases last : r = [] ∧ e = false
        · simp only [if_pos last] at hy
          rw [decide_eq_true last]
          exact Ev.step (fun k => spileref19_Parse.j1.eq_2 ..) (evp rfl hy)
        · simp only [if_neg last] at hy
          rw [decide_eq_false last]
          refine Ev.step (fun k => spileref19_Parse.j1.eq_2 ..) (evn (by simp) (evp rfl ?_))
          rw [len_word, at_word, drop_word, ba_toList]
          refine evp (by omega) (evb q1 (evp (by omega) ?_))
          by_cases c : w = wApp
          · simp only [if_pos c] at hy
            refine evp c ?_
            by_cases d : (numsR [] (numsP ws)).2 = true
            · simp only [if_pos d] at hy
              refine evp d ?_
              show Ev (fun k => spileref19_Parse.l0 k ((l :: r).map ba) e (wrap64 (0 + 1)) [] (numsR [] (numsP ws)).1 []) y
              rw [w1]
              exact hy
            · simp only [if_neg d] at hy
              exact evn d hy
          · simp only [if_neg c] at hy
            exact evn c hy
      have bad : tabL s = none → Ev (fun k => correct_Parse.l0 k (ba s) 0 [] [] []) (failR 0) → Ev (fun k => spileref19_Parse.l0 k ((l :: r).map ba) e 0 [] [] []) (failR 0) → _ := fun h1 h2 h3 =>
        (⟨failR 0, prog _ h2, ref _ h3, (fun ap o h => by rw [h1] at h; cases h), fun _ => ⟨0, 3, by decide, rfl⟩⟩ : ∃ r, Ev (fun k => if ((ba s).size : Int) > 65536 then some (([] : List Int), ([] : List Int), ([] : List (List Int)), (-1 : Int), (8 : Int)) else correct_Parse.l0 k (ba s) 0 [] [] []) r ∧ Ev (fun k => if ((ba s).size : Int) > 65536 then some (([] : List Int), ([] : List Int), ([] : List (List Int)), (-1 : Int), (8 : Int)) else (spileref16_Lines.f k (ba s)).bind fun bt159 => if (bt159.1.length : Int) = 0 then some (([] : List Int), ([] : List Int), ([] : List (List Int)), (0 : Int), (3 : Int)) else spileref19_Parse.l0 k bt159.1 bt159.2 0 [] [] []) r ∧ parsed r (tabL s))
      have htab : tabL s = match firstL l with
          | none => none
          | some ap => if r = [] ∧ e = false then none else match run lineL e r [] with
            | (_, some _) => none
            | (o, none) => some (ap, o) := by unfold tabL; rw [hlin]
      cases hfirst : firstL l with
      | none =>
        rw [hfirst] at htab
        refine bad htab (body _ ?_) (rbody _ ?_)
        · by_cases hf : (cut1 10 s).2.2 = true
          · refine evp hf ?_
            rw [hfl] at hfirst
            by_cases c : w = wApp
            · rw [if_pos c] at hfirst
              exact evn (by rw [hfirst]; simp [numsR]) (Ev.now _)
            · by_cases d : (numsR [] (numsP ws)).2 = true
              · exact evp d (evn c (Ev.now _))
              · exact evn d (Ev.now _)
          · exact evn hf (Ev.now _)
        · by_cases last : r = [] ∧ e = false
          · exact evp last (Ev.now _)
          · refine evn last ?_
            rw [hfl] at hfirst
            by_cases c : w = wApp
            · rw [if_pos c] at hfirst
              exact evp c (evn (by rw [hfirst]; simp [numsR]) (Ev.now _))
            · exact evn c (Ev.now _)
      | some ap =>
        have hap := first_small (by omega) hfirst
        rw [hfirst] at htab
        simp only [] at htab
        rw [hfl] at hfirst
        by_cases c : w = wApp
        case neg => rw [if_neg c] at hfirst; cases hfirst
        rw [if_pos c] at hfirst
        rw [hfirst] at body rbody
        rcases e2 with ⟨cf, hrest⟩ | ⟨cf, _, h1, h2⟩
        · have hno : ¬ (r = [] ∧ e = false) := fun h => by
            have := (lin_nil (s := (cut1 10 s).2.1) (e := e) (by rw [hrest, h.1])).2
            rw [h.2] at this; cases this
          rw [if_neg hno] at htab
          have hl2 := cut1_len 10 s cf
          obtain ⟨y, y1, y2, y3⟩ := parse_loop e ap hap r (cut1 10 s).2.1 (l :: r) [] hrest (by omega) rfl (by first | (simp; done) | (simp only [List.length_cons, List.length_map]; omega) | (simp; omega)) (by first | (simp; done) | (simp only [List.length_cons, List.length_map]; omega) | (simp; omega)) (fun x hx => by cases hx)
          refine ⟨y, prog _ (body _ (evp cf (evp rfl (evp c y1)))), ref _ (rbody _ (evn hno (evp c (evp rfl y2)))), ?_⟩
          rw [htab]
          cases hrun : run lineL e r [] with
          | mk o st =>
            rw [hrun] at y3
            cases st with
            | some i => exact ⟨(fun ap o h => by cases h), fun _ => ⟨_, 3, by decide, y3⟩⟩
            | none => exact ⟨fun ap' o' h => by
                simp only [Option.some.injEq, Prod.mk.injEq] at h
                obtain ⟨rfl, rfl⟩ := h
                exact y3, fun h => by cases h⟩
        · have hlast : r = [] ∧ e = false := ⟨h1, h2⟩
          rw [if_pos hlast] at htab
          exact bad htab (body _ (evn (by rw [cf]; simp) (Ev.now _))) (rbody _ (evp hlast (Ev.now _)))
end Go.Proofs.YtmdfnambaedllaaDoor.PL
namespace Go.Proofs.YtmdfnambaedllaaDoor.PL
open Go Go.RowKit Go.Proofs.YtmdfnambaedllaaDoorW.PrintWords Go.Proofs.YtmdfnambaedllaaDoorW.PrintLast Go.Proofs.YtmdfnambaedllaaDoorW.PrintMore Go.Proofs.YtmdfnambaedllaaDoor.Pr Go.Proofs.YtmdfnambaedllaaDoor.TX Go.Proofs.YtmdfnambaedllaaDoor.X Go.Proofs.YtmdfnambaedllaaDoor.Pure
def numsT : List Int → List UInt8
  | [] => []
  | x :: r => 32 :: (Lib.itoa x ++ numsT r)
def lineT (x : Int × List Int) : List UInt8 := wHeat ++ numsT (x.1 :: x.2)
def firstT (ap : List Int) : List UInt8 := wApp ++ numsT ap
def Num (x : Int) : Prop := -99999 ≤ x ∧ x ≤ 99999
theorem num_len {x : Int} (h : Num x) : (Lib.itoa x).length ≤ 6 := by
  obtain ⟨h0, h1⟩ := h
  by_cases c : x < 0
  · rw [neg_itoa c]
    have := digits_length_le (u := x.natAbs) (n := 5) (by omega) (by omega)
    simp only [List.length_cons]
    omega
  · have := itoa_le (n := x) (m := 5) (by omega) (by omega) (by omega)
    omega
theorem num_no {x : Int} {c : UInt8} (hc : isDig c = false) (h45 : c ≠ 45) : c ∉ Lib.itoa x := by
  by_cases k : x < 0
  · rw [neg_itoa k]
    intro h
    rcases List.mem_cons.1 h with h | h
    · exact h45 h
    · exact digit_not (digits_all _) hc h
  · exact itoa_no (by omega) hc
theorem numsT_len : ∀ l : List Int, (∀ x, x ∈ l → Num x) → (numsT l).length ≤ 7 * l.length
  | [], _ => by simp [numsT]
  | x :: r, h => by
    have h1 := num_len (h x (by simp))
    have h2 := numsT_len r (fun y hy => h y (by simp [hy]))
    simp only [numsT, List.length_cons, List.length_append]
    omega
theorem numsT_no {c : UInt8} (hc : isDig c = false) (h45 : c ≠ 45) (h32 : c ≠ 32) : ∀ l : List Int, c ∉ numsT l
  | [] => by simp [numsT]
  | x :: r => by
    simp only [numsT, List.mem_cons, List.mem_append, not_or]
    exact ⟨h32, num_no hc h45, numsT_no hc h45 h32 r⟩
theorem parts_nums : ∀ (l : List Int) (w : List UInt8), (32 : UInt8) ∉ w → parts 32 (w ++ numsT l) = w :: l.map Lib.itoa
  | [], w, h => by simp only [numsT, List.append_nil, List.map_nil]; exact parts_no 32 w h
  | x :: r, w, h => by
    simp only [numsT, List.map_cons]
    rw [parts_app 32 w _ h, parts_nums r _ (num_no rfl (by decide))]
theorem glue_nums : ∀ (l : List Int) (w : List UInt8), glue 32 (w :: l.map Lib.itoa) = w ++ numsT l
  | [], w => by simp [glue, numsT]
  | x :: r, w => by
    show w ++ 32 :: glue 32 (Lib.itoa x :: r.map Lib.itoa) = _
    rw [glue_nums r]
    rfl
theorem numsP_itoa : ∀ l : List Int, (∀ x, x ∈ l → 0 ≤ x ∧ x ≤ 99999) → numsP (l.map Lib.itoa) = some l
  | [], _ => rfl
  | x :: r, h => by
    have h1 := natP_itoa (h x (by simp)).1 (h x (by simp)).2
    simp only [List.map_cons, numsP, h1, numsP_itoa r (fun y hy => h y (by simp [hy]))]
theorem numsP_some : ∀ (ws : List (List UInt8)) (l : List Int), numsP ws = some l → l.map Lib.itoa = ws
  | [], l, h => by simp only [numsP, Option.some.injEq] at h; rw [← h]; rfl
  | b :: r, l, h => by
    simp only [numsP] at h
    cases hb : natP b with
    | none => rw [hb] at h; cases h
    | some v =>
      rw [hb] at h
      simp only [] at h
      cases hr : numsP r with
      | none => rw [hr] at h; cases h
      | some z =>
        rw [hr] at h
        rw [← Option.some.inj h, List.map_cons, (natP_some hb).2.2.1, numsP_some r z hr]
def RowP (x : Int × List Int) : Prop := -400 ≤ x.1 ∧ x.1 ≤ 600 ∧ x.2.length ≤ 32 ∧ ∀ y, y ∈ x.2 → 0 ≤ y ∧ y ≤ 10000
def ApP (ap : List Int) : Prop := ap.length ≤ 32 ∧ ∀ y, y ∈ ap → 0 ≤ y ∧ y ≤ 10000
theorem RowP.nums {x : Int × List Int} (h : RowP x) : ∀ y, y ∈ x.1 :: x.2 → Num y := fun y hy => by
  obtain ⟨h0, h1, h2, h3⟩ := h
  rcases List.mem_cons.1 hy with rfl | hy
  · exact ⟨by omega, by omega⟩
  · have := h3 y hy; exact ⟨by omega, by omega⟩
theorem ApP.nums {ap : List Int} (h : ApP ap) : ∀ y, y ∈ ap → Num y := fun y hy => by
  have := h.2 y hy; exact ⟨by omega, by omega⟩
theorem line_back {x : Int × List Int} (h : RowP x) : lineL (lineT x) = some x := by
  obtain ⟨h0, h1, h2, h3⟩ := h
  unfold lineL lineT
  rw [parts_nums _ wHeat (by decide)]
  simp only [lineW, List.map_cons, rowP, if_true]
  rw [heatP_itoa (by omega) (by omega)]
  simp only []
  rw [numsP_itoa x.2 (fun y hy => by have := h3 y hy; exact ⟨by omega, by omega⟩)]
theorem first_back {ap : List Int} (h : ApP ap) : firstL (firstT ap) = some ap := by
  unfold firstL firstT
  rw [parts_nums _ wApp (by decide)]
  simp only [firstW, if_true]
  exact numsP_itoa ap (fun y hy => by have := h.2 y hy; exact ⟨by omega, by omega⟩)
theorem line_again : ∀ (l : List UInt8) (x : Int × List Int), lineL l = some x → lineT x = l := by
  intro l x h
  unfold lineL at h
  have hg := glue_parts 32 l
  generalize parts 32 l = ws at h hg
  cases ws with
  | nil => cases h
  | cons w ws =>
    simp only [lineW] at h
    by_cases c : w = wHeat
    · rw [if_pos c] at h
      cases ws with
      | nil => cases h
      | cons b r =>
        simp only [rowP] at h
        cases hb : heatP b with
        | none => rw [hb] at h; cases h
        | some v =>
          rw [hb] at h
          simp only [] at h
          cases hr : numsP r with
          | none => rw [hr] at h; cases h
          | some z =>
            rw [hr] at h
            obtain rfl := Option.some.inj h
            rw [← hg, c, ← (heatP_some hb).2.2.1, ← numsP_some r z hr]
            exact (glue_nums (v :: z) wHeat).symm
    · rw [if_neg c] at h; cases h
theorem first_again {l : List UInt8} {ap : List Int} (h : firstL l = some ap) : firstT ap = l := by
  unfold firstL at h
  have hg := glue_parts 32 l
  generalize parts 32 l = ws at h hg
  cases ws with
  | nil => cases h
  | cons w ws =>
    simp only [firstW] at h
    by_cases c : w = wApp
    · rw [if_pos c] at h
      rw [← hg, c, ← numsP_some ws ap h]
      exact (glue_nums ap wApp).symm
    · rw [if_neg c] at h; cases h
theorem lineT_no (x : Int × List Int) : (10 : UInt8) ∉ lineT x := by
  unfold lineT
  rw [List.mem_append, not_or]
  exact ⟨by decide, numsT_no rfl (by decide) (by decide) _⟩
theorem firstT_no (ap : List Int) : (10 : UInt8) ∉ firstT ap := by
  unfold firstT
  rw [List.mem_append, not_or]
  exact ⟨by decide, numsT_no rfl (by decide) (by decide) _⟩
theorem lineT_len {x : Int × List Int} (h : RowP x) : (lineT x).length ≤ 300 := by
  have h1 := numsT_len (x.1 :: x.2) h.nums
  have h2 := h.2.2.1
  unfold lineT
  rw [List.length_append]
  simp only [List.length_cons] at h1
  show 4 + _ ≤ _
  omega
theorem firstT_len {ap : List Int} (h : ApP ap) : (firstT ap).length ≤ 300 := by
  have h1 := numsT_len ap h.nums
  have h2 := h.1
  unfold firstT
  rw [List.length_append]
  show 8 + _ ≤ _
  omega
/-- The text of a table. -/
def tabT (ap : List Int) (o : List (Int × List Int)) : List UInt8 := firstT ap ++ 10 :: printL lineT o
theorem tab_back {ap : List Int} {o : List (Int × List Int)} (h : ApP ap) (ho : ∀ x, x ∈ o → RowP x) : tabL (tabT ap o) = some (ap, o) := by
  have hl : lin [] (tabT ap o) = (firstT ap :: o.map lineT, true) := by
    unfold tabT
    rw [lin_cut, cut1_first 10 _ _ (firstT_no ap)]
    simp only [if_true, List.nil_append]
    rw [lin_print o (fun x _ => lineT_no x)]
  unfold tabL
  rw [hl]
  simp only []
  rw [first_back h]
  simp only []
  rw [if_neg (by simp), run_print o [] (fun x hx => line_back (ho x hx)), List.nil_append]
theorem tab_again {s : List UInt8} {ap : List Int} {o : List (Int × List Int)} (h : tabL s = some (ap, o)) : tabT ap o = s := by
  unfold tabL at h
  cases hl : lin [] s with
  | mk ls e =>
    rw [hl] at h
    cases ls with
    | nil => cases h
    | cons l r =>
      simp only [] at h
      obtain ⟨e1, e2, hne, hll⟩ := lin_next hl
      cases hf : firstL l with
      | none => rw [hf] at h; cases h
      | some ap' =>
        rw [hf] at h
        simp only [] at h
        by_cases c : r = [] ∧ e = false
        · rw [if_pos c] at h; cases h
        · rw [if_neg c] at h
          cases hr : run lineL e r [] with
          | mk o' st =>
            rw [hr] at h
            cases st with
            | some i => cases h
            | none =>
              simp only [Option.some.injEq, Prod.mk.injEq] at h
              obtain ⟨rfl, rfl⟩ := h
              rcases e2 with ⟨cf, hrest⟩ | ⟨_, _, h1, h2⟩
              · obtain ⟨xs, g1, g2⟩ := run_again line_again e r _ [] o' hrest hr
                rw [List.nil_append] at g1
                subst g1
                unfold tabT
                rw [g2, first_again hf, ← e1]
                exact (cut1_sum 10 s cf).symm
              · exact absurd ⟨h1, h2⟩ c
theorem valid_ap {o : List (Int × List Int)} {ap : List Int} (v : Valid (hsOf o) ap (tsOf o)) : ApP ap := by
  refine ⟨v.as32, fun y hy => ?_⟩
  obtain ⟨i, h0, h1, rfl⟩ := rd_of_mem hy
  exact v.str i h0 h1
theorem rdL_at (o : List (Int × List Int)) (n : Nat) (hn : n < o.length) : rd (hsOf o) (n : Int) = o[n].1 ∧ rd_L1 (tsOf o) (n : Int) = o[n].2 := by
  constructor
  · unfold rd hsOf
    rw [List.getD_eq_getElem?_getD, Int.toNat_natCast, List.getElem?_map, List.getElem?_eq_getElem hn]
    rfl
  · unfold rd_L1 tsOf
    rw [List.getD_eq_getElem?_getD, Int.toNat_natCast, List.getElem?_map, List.getElem?_eq_getElem hn]
    rfl
theorem valid_rows {o : List (Int × List Int)} {ap : List Int} (v : Valid (hsOf o) ap (tsOf o)) : ∀ x, x ∈ o → RowP x := fun x hx => by
  obtain ⟨n, hn, rfl⟩ := List.getElem_of_mem hx
  obtain ⟨e1, e2⟩ := rdL_at o n hn
  have l1 : (hsOf o).length = o.length := by simp [hsOf]
  have l2 : (tsOf o).length = o.length := by simp [tsOf]
  have hh := v.heat (n : Int) (by omega) (by omega)
  have hr := v.rect (n : Int) (by omega) (by omega)
  rw [e1] at hh
  rw [e2] at hr
  have h32 := v.as32
  refine ⟨hh.1, hh.2, by omega, fun y hy => ?_⟩
  obtain ⟨j, h0, h1, rfl⟩ := rd_of_mem hy
  have := v.num (n : Int) j (by omega) (by omega) h0 (by omega)
  rw [e2] at this
  exact this
theorem valid_len {o : List (Int × List Int)} {ap : List Int} (v : Valid (hsOf o) ap (tsOf o)) : o.length ≤ 32 := by
  have := v.hs32
  simpa [hsOf] using this
theorem valid_zip {hs ap : List Int} {ts : List (List Int)} (h : ts.length = hs.length) : hsOf (hs.zip ts) = hs ∧ tsOf (hs.zip ts) = ts := by
  constructor
  · exact List.map_fst_zip (by omega)
  · exact List.map_snd_zip (by omega)
theorem drop_rdI {l : List Int} {i : Int} (h0 : 0 ≤ i) (h1 : i < (l.length : Int)) : l.drop i.toNat = rd l i :: l.drop (i + 1).toNat := by
  have hn : i.toNat < l.length := by omega
  have e : rd l i = l[i.toNat] := by
    unfold rd
    rw [List.getD_eq_getElem?_getD, List.getElem?_eq_getElem hn]
    rfl
  rw [e, show (i + 1).toNat = i.toNat + 1 from by omega]
  exact List.drop_eq_getElem_cons hn
theorem drop_row {o : List (Int × List Int)} {i : Int} (h0 : 0 ≤ i) (h1 : i < (o.length : Int)) : ∃ x, x ∈ o ∧ rd (hsOf o) i = x.1 ∧ rd_L1 (tsOf o) i = x.2 ∧ o.drop i.toNat = x :: o.drop (i + 1).toNat := by
  have hn : i.toNat < o.length := by omega
  obtain ⟨e1, e2⟩ := rdL_at o i.toNat hn
  rw [Int.toNat_of_nonneg h0] at e1 e2
  refine ⟨o[i.toNat], List.getElem_mem _, e1, e2, ?_⟩
  rw [show (i + 1).toNat = i.toNat + 1 from by omega]
  exact List.drop_eq_getElem_cons hn
theorem line_ev (w : List UInt8) (l : List Int) (hw : w.length ≤ 100) (hl : l.length ≤ 1000) (hx : ∀ x, x ∈ l → Num x) : Ev (fun k => correct_line.f k (ba w) l) (ba (w ++ numsT l ++ [10])) := by
  have key : ∀ i, 0 ≤ i → i ≤ (l.length : Int) → ∀ acc : List UInt8, (acc.length : Int) ≤ 100 + 7 * i → Ev (fun k => correct_line.l0 k (ba acc) l (l.length : Int) i) (ba (acc ++ numsT (l.drop i.toNat) ++ [10])) := by
    refine count_up 0 (l.length : Int) _ ?_ ?_
    · intro acc ha
      rw [List.drop_eq_nil_of_le (by omega)]
      refine Ev.step (fun k => correct_line.l0.eq_2 ..) (evn (by omega) (evp (by rw [ba_size]; omega) (evr ?_)))
      rw [show (⟨#[10]⟩ : ByteArray) = ba [10] from rfl, ba_app]
      simp [numsT]
    · intro i h0 h1 ih acc ha
      have hn := hx _ (rd_mem h0 h1)
      have hnl := num_len hn
      have q := ih (acc ++ 32 :: Lib.itoa (rd l i)) (by simp only [List.length_append, List.length_cons]; omega)
      refine Ev.step (fun k => correct_line.l0.eq_2 ..) (evp h1 (evp h0 (evp h1 ?_)))
      rw [itoa_f (by have := hn.1; omega) (by have := hn.2; omega), w64_succ h0 h1 (by omega)]
      have e1 : (⟨#[32]⟩ : ByteArray) ++ ba (Lib.itoa (rd l i)) = ba (32 :: Lib.itoa (rd l i)) := ba_app [32] _
      refine evb (Ev.now _) (evp (by rw [ba_size]; omega) ?_)
      rw [e1]
      refine evp (by rw [ba_size, ba_size]; simp only [List.length_cons]; omega) ?_
      rw [ba_app, drop_rdI h0 h1]
      simp only [numsT]
      simp only [List.append_assoc, List.cons_append, List.nil_append] at q ⊢
      exact q
  have h := key 0 (by omega) (by omega) w (by omega)
  rw [show (0 : Int).toNat = 0 from rfl, List.drop_zero] at h
  exact h
theorem print_ev {o : List (Int × List Int)} {ap : List Int} (v : Valid (hsOf o) ap (tsOf o)) (hc : Ev (fun k => correct_Check.f k (hsOf o) ap (tsOf o)) 0) : Ev (fun k => correct_Print.f k (hsOf o) ap (tsOf o)) (ba (tabT ap o), 0) := by
  have hap := valid_ap v
  have hro := valid_rows v
  have h32 := valid_len v
  have l1 : (hsOf o).length = o.length := by simp [hsOf]
  have l2 : (tsOf o).length = o.length := by simp [tsOf]
  have hfl := firstT_len hap
  have first := line_ev wApp ap (by decide) (by have := hap.1; omega) hap.nums
  have e0 : wApp ++ numsT ap ++ [10] = firstT ap ++ [10] := rfl
  rw [e0] at first
  have key : ∀ i, 0 ≤ i → i ≤ (o.length : Int) → ∀ acc : List UInt8, (acc.length : Int) ≤ 301 + 301 * i → Ev (fun k => correct_Print.l0 k (ba acc) (hsOf o) ((hsOf o).length : Int) i (hsOf o) ap (tsOf o)) (ba (acc ++ printL lineT (o.drop i.toNat)), 0) := by
    refine count_up 0 (o.length : Int) _ ?_ ?_
    · intro acc ha
      rw [List.drop_eq_nil_of_le (by omega)]
      exact Ev.step (fun k => correct_Print.l0.eq_2 ..) (evn (by omega) (evr (by simp [printL])))
    · intro i h0 h1 ih acc ha
      obtain ⟨x, hx, e1, e2, e3⟩ := drop_row h0 h1
      have hp := hro x hx
      have hln := lineT_len hp
      have le := line_ev wHeat (x.1 :: x.2) (by decide) (by have := hp.2.2.1; simp only [List.length_cons]; omega) hp.nums
      have e4 : wHeat ++ numsT (x.1 :: x.2) ++ [10] = lineT x ++ [10] := rfl
      rw [e4] at le
      have q := ih (acc ++ (lineT x ++ [10])) (by simp only [List.length_append, List.length_cons, List.length_nil]; omega)
      refine Ev.step (fun k => correct_Print.l0.eq_2 ..) (evp (by omega) (evp h0 (evp (by omega) (evb (Ev.now _) (evp (by omega) ?_)))))
      rw [e1, e2, w64_succ h0 h1 (by omega)]
      refine evp (by have := hp.2.2.1; simp only [List.length_cons, List.length_nil]; omega) (evb le ?_)
      refine evp (by rw [ba_size, ba_size]; simp only [List.length_append, List.length_cons, List.length_nil]; omega) ?_
      rw [ba_app, e3]
      simp only [printL]
      simp only [List.append_assoc, List.cons_append, List.nil_append] at q ⊢
      exact q
  unfold correct_Print.f
  refine evb hc (evp rfl (evb first ?_))
  have h := key 0 (by omega) (by omega) (firstT ap ++ [10]) (by simp only [List.length_append, List.length_cons, List.length_nil]; omega)
  rw [show (0 : Int).toNat = 0 from rfl, List.drop_zero] at h
  unfold tabT
  simp only [List.append_assoc, List.cons_append, List.nil_append] at h
  exact h
theorem signed_ev {x : Int} (h : Num x) : Ev (fun k => spileref19_signed.f k x) (ba (Lib.itoa x)) := by
  obtain ⟨h0, h1⟩ := h
  unfold spileref19_signed.f
  by_cases c : x < 0
  · have hw : wrap64 (-x) = -x := w64 (by omega) (by omega)
    have hl := itoa_le (n := -x) (m := 5) (by omega) (by omega) (by omega)
    refine evp c ?_
    rw [hw]
    refine evb (dec_ev (by omega) (by omega)) (evp (by rw [ba_size]; omega) (evr ?_))
    rw [show (⟨#[45]⟩ : ByteArray) = ba [45] from rfl, ba_app, neg_itoa c, itoa_dig (by omega)]
    show ba (45 :: _) = ba (45 :: _)
    rw [show (-x).toNat = x.natAbs from by omega]
    rfl
  · exact evn c (evb (dec_ev (by omega) (by omega)) (Ev.now _))
theorem rwords_ev (l : List Int) (hl : l.length ≤ 1000) (hx : ∀ x, x ∈ l → Num x) : Ev (fun k => spileref19_words.f k l) (ba (numsT l)) := by
  have key : ∀ i, 0 ≤ i → i ≤ (l.length : Int) → ∀ acc : List UInt8, (acc.length : Int) ≤ 7 * i → Ev (fun k => spileref19_words.l0 k l (ba acc) i) (ba (acc ++ numsT (l.drop i.toNat))) := by
    refine count_up 0 (l.length : Int) _ ?_ ?_
    · intro acc ha
      rw [List.drop_eq_nil_of_le (by omega)]
      exact Ev.step (fun k => spileref19_words.l0.eq_2 ..) (evn (by omega) (evr (by simp [numsT])))
    · intro i h0 h1 ih acc ha
      have hn := hx _ (rd_mem h0 h1)
      have hnl := num_len hn
      have q := ih (acc ++ 32 :: Lib.itoa (rd l i)) (by simp only [List.length_append, List.length_cons]; omega)
      refine Ev.step (fun k => spileref19_words.l0.eq_2 ..) (evp h1 (evp (by rw [ba_size]; omega) (evp h0 (evb (signed_ev hn) ?_))))
      have e1 : ba acc ++ (⟨#[32]⟩ : ByteArray) = ba (acc ++ [32]) := ba_app _ _
      rw [e1]
      refine evp (by rw [ba_size, ba_size]; simp only [List.length_append, List.length_cons, List.length_nil]; omega) ?_
      rw [ba_app, w64_succ h0 h1 (by omega), drop_rdI h0 h1]
      simp only [numsT]
      simp only [List.append_assoc, List.cons_append, List.nil_append] at q ⊢
      exact q
  have h := key 0 (by omega) (by omega) [] (by simp)
  rw [show (0 : Int).toNat = 0 from rfl, List.drop_zero, List.nil_append] at h
  exact h
theorem ref_print_ev {o : List (Int × List Int)} {ap : List Int} (v : Valid (hsOf o) ap (tsOf o)) (hc : Ev (fun k => spileref19_Check.f k (hsOf o) ap (tsOf o)) 0) : Ev (fun k => spileref19_Print.f k (hsOf o) ap (tsOf o)) (ba (tabT ap o), 0) := by
  have hap := valid_ap v
  have hro := valid_rows v
  have h32 := valid_len v
  have l1 : (hsOf o).length = o.length := by simp [hsOf]
  have l2 : (tsOf o).length = o.length := by simp [tsOf]
  have hfl := firstT_len hap
  have hfl2 := numsT_len ap hap.nums
  have hap1 := hap.1
  have first := rwords_ev ap (by omega) hap.nums
  have key : ∀ i, 0 ≤ i → i ≤ (o.length : Int) → ∀ acc : List UInt8, (acc.length : Int) ≤ 301 + 301 * i → Ev (fun k => spileref19_Print.l0 k (ba acc) i (hsOf o) ap (tsOf o)) (ba (acc ++ printL lineT (o.drop i.toNat)), 0) := by
    refine count_up 0 (o.length : Int) _ ?_ ?_
    · intro acc ha
      rw [List.drop_eq_nil_of_le (by omega)]
      exact Ev.step (fun k => spileref19_Print.l0.eq_2 ..) (evn (by omega) (evr (by simp [printL])))
    · intro i h0 h1 ih acc ha
      obtain ⟨x, hx, e1, e2, e3⟩ := drop_row h0 h1
      have hp := hro x hx
      have hln := lineT_len hp
      have hnum := hp.nums
      have s1 := signed_ev (hnum x.1 (by simp))
      have s1l := num_len (hnum x.1 (by simp))
      have s2 := rwords_ev x.2 (by have := hp.2.2.1; omega) (fun y hy => hnum y (by simp [hy]))
      have s2l := numsT_len x.2 (fun y hy => hnum y (by simp [hy]))
      have hx32 := hp.2.2.1
      have q := ih (acc ++ (lineT x ++ [10])) (by simp only [List.length_append, List.length_cons, List.length_nil]; omega)
      refine Ev.step (fun k => spileref19_Print.l0.eq_2 ..) (evp (by omega) (evp (by rw [ba_size]; omega) (evp h0 ?_)))
      rw [e1, e2, w64_succ h0 h1 (by omega)]
      have f1 : ba acc ++ (⟨#[104, 101, 97, 116, 32]⟩ : ByteArray) = ba (acc ++ [104, 101, 97, 116, 32]) := ba_app _ _
      rw [f1]
      refine evb s1 (evp (by rw [ba_size, ba_size]; simp only [List.length_append, List.length_cons, List.length_nil]; omega) (evp (by omega) (evb s2 ?_)))
      rw [ba_app, ba_app]
      refine evp (by rw [ba_size, ba_size]; simp only [List.length_append, List.length_cons, List.length_nil]; omega) (evp (by rw [ba_size]; simp only [List.length_append, List.length_cons, List.length_nil]; omega) ?_)
      have f2 : ∀ z : List UInt8, ba z ++ (⟨#[10]⟩ : ByteArray) = ba (z ++ [10]) := fun z => ba_app _ _
      rw [f2, e3]
      simp only [printL]
      simp only [lineT, wHeat, numsT, List.append_assoc, List.cons_append, List.nil_append] at q ⊢
      exact q
  unfold spileref19_Print.f
  refine evb hc (evp rfl (evb first (evp (by rw [ba_size]; omega) ?_)))
  have f0 : (⟨#[97, 112, 112, 97, 114, 101, 110, 116]⟩ : ByteArray) ++ ba (numsT ap) = ba (firstT ap) := ba_app _ _
  have f2 : ba (firstT ap) ++ (⟨#[10]⟩ : ByteArray) = ba (firstT ap ++ [10]) := ba_app _ _
  rw [f0, f2]
  refine evp (by rw [ba_size]; omega) ?_
  have h := key 0 (by omega) (by omega) (firstT ap ++ [10]) (by simp only [List.length_append, List.length_cons, List.length_nil]; omega)
  rw [show (0 : Int).toNat = 0 from rfl, List.drop_zero] at h
  unfold tabT
  simp only [List.append_assoc, List.cons_append, List.nil_append] at h
  exact h
/-- Both printers: a valid table's text, or the error. -/
theorem print_both (hs ap : List Int) (ts : List (List Int)) (hh : hs.length ≤ maxLen) (ha : ap.length ≤ maxLen) (ht : ts.length ≤ maxLen) (hrl : ∀ x, x ∈ ts → x.length ≤ maxLen) :
    ∃ r : ByteArray × Int, Ev (fun k => correct_Print.f k hs ap ts) r ∧ Ev (fun k => spileref19_Print.f k hs ap ts) r ∧ (Valid hs ap ts → r = (ba (tabT ap (hs.zip ts)), 0)) ∧ (¬ Valid hs ap ts → r = (ba [], 1)) := by
  obtain ⟨c, c1, c2, c3⟩ := check_both hs ap ts hh ha ht hrl
  by_cases v : Valid hs ap ts
  · obtain ⟨z1, z2⟩ := valid_zip (ap := ap) v.rows
    have hc0 := c3.2 v
    rw [hc0] at c1 c2
    have p1 := print_ev (o := hs.zip ts) (ap := ap) (by rw [z1, z2]; exact v) (by rw [z1, z2]; exact c1)
    have p2 := ref_print_ev (o := hs.zip ts) (ap := ap) (by rw [z1, z2]; exact v) (by rw [z1, z2]; exact c2)
    rw [z1, z2] at p1 p2
    exact ⟨_, p1, p2, fun _ => rfl, fun h => absurd v h⟩
  · have hc0 : ¬ c = 0 := fun h => v (c3.1 h)
    refine ⟨(ba [], 1), ?_, ?_, fun h => absurd h v, fun _ => rfl⟩
    · unfold correct_Print.f; exact evb c1 (evn hc0 (Ev.now _))
    · unfold spileref19_Print.f; exact evb c2 (evn hc0 (Ev.now _))
theorem same_ev (l : List Int) (hl : l.length ≤ maxLen) : Ev (fun k => spileref19_same.f k l l) true := by
  have hm := len_le hl
  unfold spileref19_same.f
  refine evp rfl ?_
  refine count_up 0 (l.length : Int) (fun i => Ev (fun k => spileref19_same.l0 k l l i) true) ?_ ?_ 0 (by omega) (by omega)
  · exact Ev.step (fun k => spileref19_same.l0.eq_2 ..) (evn (by omega) (Ev.now _))
  · intro i h0 h1 ih
    refine Ev.step (fun k => spileref19_same.l0.eq_2 ..) (evp h1 (evp h0 (evp h1 (evp rfl ?_))))
    rw [w64_succ h0 h1 hm]
    exact ih
theorem same_self (hs ap : List Int) (ts : List (List Int)) (hh : hs.length ≤ maxLen) (ha : ap.length ≤ maxLen) (ht : ts.length ≤ maxLen) (hrl : ∀ x, x ∈ ts → x.length ≤ maxLen) : Ev (fun k => spileref19_Same.f k hs ap ts hs ap ts) true := by
  have hm := len_le ht
  have hrl' := row_len hrl
  unfold spileref19_Same.f
  refine evb (same_ev hs hh) (evp rfl (evb (same_ev ap ha) (evp rfl ?_)))
  rw [show ((ts.length : Int) != (ts.length : Int)) = false from bne_self_eq_false _]
  refine Ev.step (fun k => spileref19_Same.j0.eq_2 ..) (evn (by simp) ?_)
  refine count_up 0 (ts.length : Int) (fun i => Ev (fun k => spileref19_Same.l0 k i hs ap ts hs ap ts) true) ?_ ?_ 0 (by omega) (by omega)
  · exact Ev.step (fun k => spileref19_Same.l0.eq_2 ..) (evn (by omega) (Ev.now _))
  · intro i h0 h1 ih
    refine Ev.step (fun k => spileref19_Same.l0.eq_2 ..) (evp h1 (evp h0 (evp h1 (evb (same_ev _ (hrl' i h0 h1)) (evp rfl ?_)))))
    rw [w64_succ h0 h1 hm]
    exact ih
theorem small_ev (x : Int) : ∃ b, spileref19_small.f x = some b := by
  unfold spileref19_small.f
  split
  · exact ⟨_, rfl⟩
  · split <;> exact ⟨_, rfl⟩
theorem few_ev (hs as_ : List Int) (ts : List (List Int)) (ht : ts.length ≤ maxLen) : ∃ b, Ev (fun k => spileref19_Few.f k hs as_ ts) b := by
  have hm := len_le ht
  have loop := count_up 0 (ts.length : Int) (fun i => ∃ b, Ev (fun k => spileref19_Few.l0 k i hs as_ ts) b) ⟨true, Ev.step (fun k => spileref19_Few.l0.eq_2 ..) (evn (by omega) (Ev.now _))⟩ (fun i h0 h1 ⟨b, hb⟩ => by
    obtain ⟨s, hs'⟩ := small_ev ((rd_L1 ts i).length : Int)
    cases s with
    | true =>
      refine ⟨b, Ev.step (fun k => spileref19_Few.l0.eq_2 ..) (evp h1 (evp h0 (evb (evc (fun _ => rfl) hs') (evp rfl ?_))))⟩
      rw [w64_succ h0 h1 hm]
      exact hb
    | false => exact ⟨false, Ev.step (fun k => spileref19_Few.l0.eq_2 ..) (evp h1 (evp h0 (evb (evc (fun _ => rfl) hs') (evn (by decide) (Ev.now _)))))⟩) 0 (by omega) (by omega)
  have no : Ev (fun k => spileref19_Few.j0 k true hs as_ ts) false := Ev.step (fun k => spileref19_Few.j0.eq_2 ..) (evp rfl (Ev.now _))
  obtain ⟨s1, e1⟩ := small_ev (hs.length : Int)
  obtain ⟨s2, e2⟩ := small_ev (as_.length : Int)
  obtain ⟨s3, e3⟩ := small_ev (ts.length : Int)
  unfold spileref19_Few.f
  cases s1 with
  | false => exact ⟨false, evb (evc (fun _ => rfl) e1) (evn (by decide) no)⟩
  | true =>
    cases s2 with
    | false => exact ⟨false, evb (evc (fun _ => rfl) e1) (evp rfl (evb (evc (fun _ => rfl) e2) (evn (by decide) no)))⟩
    | true =>
      cases s3 with
      | false => exact ⟨false, evb (evc (fun _ => rfl) e1) (evp rfl (evb (evc (fun _ => rfl) e2) (evp rfl (evb (evc (fun _ => rfl) e3) no))))⟩
      | true =>
        obtain ⟨b, hb⟩ := loop
        exact ⟨b, evb (evc (fun _ => rfl) e1) (evp rfl (evb (evc (fun _ => rfl) e2) (evp rfl (evb (evc (fun _ => rfl) e3) (Ev.step (fun k => spileref19_Few.j0.eq_2 ..) (evn (by decide) hb))))))⟩
end Go.Proofs.YtmdfnambaedllaaDoor.PL
namespace Go.Proofs.YtmdfnambaedllaaDoor.Pure
open Go Go.RowKit Go.Proofs.YtmdfnambaedllaaDoorW.PrintWords Go.Proofs.YtmdfnambaedllaaDoorW.PrintLast Go.Proofs.YtmdfnambaedllaaDoorW.PrintMore Go.Proofs.YtmdfnambaedllaaDoor.Pr Go.Proofs.YtmdfnambaedllaaDoor.Opn Go.Proofs.YtmdfnambaedllaaDoor.X Go.Proofs.YtmdfnambaedllaaDoor.PL Go.Proofs.YtmdfnambaedllaaDoor.TX
theorem valid_small' {o : List (Int × List Int)} {ap : List Int} (v : Valid (hsOf o) ap (tsOf o)) : (hsOf o).length ≤ maxLen ∧ ap.length ≤ maxLen ∧ (tsOf o).length ≤ maxLen ∧ ∀ x, x ∈ tsOf o → x.length ≤ maxLen := by
  have big : (1000000 : Nat) ≤ maxLen := by decide
  have h1 := v.hs32
  have h2 := v.as32
  have h3 := v.rows
  refine ⟨by omega, by omega, by omega, fun x hx => ?_⟩
  obtain ⟨y, hy, rfl⟩ := List.mem_map.1 hx
  have := (valid_rows v y hy).2.2.1
  omega
theorem again_ev (s : ByteArray) (hs : s.size ≤ 65536) : Ev (fun k => spilelaw19_CorrectBack.j1 k s) true := by
  obtain ⟨r, r1, _, r3⟩ := parse_both s.data.toList (by rw [size_data]; exact hs)
  rw [ba_data] at r1
  refine Ev.step (fun k => spilelaw19_CorrectBack.j1.eq_2 ..) (evb r1 ?_)
  have bad : ∀ i c : Int, c ≠ 0 → r = ([], [], [], i, c) → Ev (fun k => if r.2.2.2.2 = 0 then ((correct_Print.f k r.1 r.2.1 r.2.2.1).bind fun bt572 => (if bt572.2 = 0 then (some (bt572.1.toList == s.toList)) else (none))) else (if (r.1.length : Int) = 0 then (some ((r.2.2.1.length : Int) == 0)) else (none))) true := fun i c hc e => by
    rw [e]
    exact evn hc (evp rfl (evr rfl))
  cases ht : tabL s.data.toList with
  | none => obtain ⟨i, c, hc, e⟩ := r3.2 ht; exact bad i c hc e
  | some p =>
    obtain ⟨ap, o⟩ := p
    obtain ⟨h1, h2⟩ := r3.1 ap o ht
    by_cases v : Valid (hsOf o) ap (tsOf o)
    · rw [h1 v]
      obtain ⟨a, b, c, d⟩ := valid_small' v
      obtain ⟨c0, c1, _, c3⟩ := check_both (hsOf o) ap (tsOf o) a b c d
      rw [c3.2 v] at c1
      refine evp rfl (evb (print_ev v c1) (evp rfl (evr ?_)))
      rw [tab_again ht, ba_data]
      simp
    · obtain ⟨c, hc, e⟩ := h2 v
      exact bad _ c hc e
theorem CorrectBack : correctBackPure := by
  intro hs as_ ts s ⟨hh, _⟩ ⟨ha, _⟩ ⟨ht, hr⟩ hsz
  refine Ev.rounds (r := true) ?_
  unfold spilelaw19_CorrectBack.f
  refine evb (a := true) (evc (fun _ => rfl) rfl) (evp rfl ?_)
  obtain ⟨b, hb⟩ := few_ev hs as_ ts ht
  refine evb hb ?_
  cases b with
  | false => exact evn (by simp) (Ev.step (fun k => spilelaw19_CorrectBack.j0.eq_2 ..) (evp rfl (Ev.now _)))
  | true =>
    refine evp rfl ?_
    by_cases c : (s.size : Int) > 1000
    · rw [decide_eq_true c]
      exact Ev.step (fun k => spilelaw19_CorrectBack.j0.eq_2 ..) (evp rfl (Ev.now _))
    · rw [decide_eq_false c]
      have again := again_ev s (by omega)
      have hrl := fun x hx => (hr x hx).1
      obtain ⟨p, p1, _, p3, p4⟩ := print_both hs as_ ts hh ha ht hrl
      refine Ev.step (fun k => spilelaw19_CorrectBack.j0.eq_2 ..) (evn (by simp) (evb p1 ?_))
      by_cases v : Valid hs as_ ts
      · rw [p3 v]
        obtain ⟨z1, z2⟩ := valid_zip (ap := as_) v.rows
        have v' : Valid (hsOf (hs.zip ts)) as_ (tsOf (hs.zip ts)) := by rw [z1, z2]; exact v
        have hap := valid_ap v'
        have hro := valid_rows v'
        have h32 := valid_len v'
        have hlen : (tabT as_ (hs.zip ts)).length ≤ 65536 := by
          have l1 := firstT_len hap
          have l2 := printL_len (lineT := lineT) (m := 300) (hs.zip ts) (fun x hx => lineT_len (hro x hx))
          unfold tabT
          rw [List.length_append, List.length_cons]
          omega
        obtain ⟨r, r1, _, r3⟩ := parse_both (tabT as_ (hs.zip ts)) hlen
        have hr3 := (r3.1 _ _ (tab_back hap hro)).1 v'
        rw [z1, z2] at hr3
        rw [hr3] at r1
        exact evp rfl (evb r1 (evp rfl (evp rfl (evb (same_self hs as_ ts hh ha ht hrl) (evp rfl again)))))
      · rw [p4 v]
        exact evn (by decide) (evp (by rw [ba_toList]) again)
end Go.Proofs.YtmdfnambaedllaaDoor.Pure
namespace Go.Proofs.YtmdfnambaedllaaDoor.X
open Go
variable {H : Type} {enc : TypeId × Value → H}
theorem wrap_shaped {a : Assume} {C : Checked} {os : Os} {f : FuncId} {fn : Func} {s : ChangeSpec} {conds : List PathCond} {apart fresh handsOn again : Bool} {X : World → Array Value → Prop}
    (hX : ∀ (w w' : World) (args : Array Value), w.heap = w'.heap → X w args → X w' args)
    (own : ownKnob C.prog.godebug = none) (started : os.Started) (noInit : C.prog.inits.idxOf? f = none) (hfn : C.prog.funcs[f]? = some fn)
    (witness : ∃ (w : World) (tape : Tape) (i : Input), w.os = os ∧ (w.forCall tape i).Shaped C.prog ∧ i.vars = [] ∧ Input.okWide C.prog (w.forCall tape i) .any w.heap.size f i ∧
      ((s.pre enc C.prog fn conds apart (w.forCall tape i).memory i.args ∧ X (w.forCall tape i).memory i.args) ∧ sizedMet enc C.prog fn (OpenSpec.ofChange s) apart (w.forCall tape i).memory i.args) ∧ a.holds C.prog (lone (Frame.enter C.prog f i.args .normal) [] (w.forCall tape i)))
    (walk : ∀ (W : World) (base : Nat) (args : Array Value) (ds gs : List (DataW H)) (before : List MemPlace),
      (∀ (j : Nat) t v, fn.params[j]? = some t → args[j]? = some v → Value.okWide C.prog W .any base t v) →
      DataW.Whole enc C.prog fn.params.toList s.vars apart W args.toList ds gs before → X W args → W.ShapedOpen C.prog →
      Calls C.prog f args W fun e W' => ∃ v, e = .returned v ∧ s.post enc C.prog fn apart fresh handsOn again W args v W') :
    ReturnsInHanded a C os f .any (fun w args => (s.pre enc C.prog fn conds apart w args ∧ X w args) ∧ sizedMet enc C.prog fn (OpenSpec.ofChange s) apart w args) (s.post enc C.prog fn apart fresh handsOn again) := by
  refine returnsInHanded_of_calls own started noInit witness ?_
  intro w tape i _ hsh _ hok hpre _
  obtain ⟨_, _, _, fn', hfn', _, _, _, _, hval⟩ := hok
  obtain rfl : fn' = fn := Option.some.inj (hfn'.symm.trans hfn)
  obtain ⟨⟨⟨ds, gs, before, hw, _⟩, hx⟩, _⟩ := hpre
  refine (walk (w.forCall tape i) w.heap.size i.args ds gs before hval (DataW.Whole.of_heap (w' := w.forCall tape i) (by rfl) hw) (hX _ _ _ (by rfl) hx) hsh).mono fun e W' ⟨v, he, hp⟩ => ?_
  subst he
  exact ChangeSpec.post_blind hp
end Go.Proofs.YtmdfnambaedllaaDoor.X
namespace Go.Proofs.YtmdfnambaedllaaDoor.correctBack
open Go Go.ChangeShapes Go.WideShapes Go.ChangeAt Go.RowKit
open Go.ChangeMaps (open_string shut_string)
open Go.Proofs.YtmdfnambaedllaaDoorW.PrintWords Go.Proofs.YtmdfnambaedllaaDoor.O Go.Proofs.YtmdfnambaedllaaDoor.Opn Go.Proofs.YtmdfnambaedllaaDoor.Pr Go.Proofs.YtmdfnambaedllaaDoor.X
theorem own : ownKnob Tryd.prog.godebug = none := by kernel_rfl
theorem laidOut : laidOutB Tryd.prog = true := by kernel_rfl
abbrev laidL : List (String × DataW Unit) := [("math/bits.deBruijn32tab", Rows.laid_math_bits_deBruijn32tab), ("math/bits.deBruijn64tab", Rows.laid_math_bits_deBruijn64tab), ("internal/strconv.uint64pow10", Rows.laid_internal_strconv_uint64pow10), ("unicode/utf8.acceptRanges", Rows.laid_unicode_utf8_acceptRanges), ("strconv.ErrRange", Rows.laid_strconv_ErrRange), ("strconv.ErrSyntax", Rows.laid_strconv_ErrSyntax), ("unicode/utf8.first", Rows.laid_unicode_utf8_first)]
set_option maxRecDepth 100000 in
theorem lifted (os : Os) (started : os.Started) (H : Type) (enc : TypeId × Value → H) :
    ReturnsInHanded {} Tryd.checked os 9 .any (fun w args => (Rows.correctBackSpec.pre enc Tryd.prog Tryd.f9 [] false w args ∧ laidMetH Tryd.prog laidL w) ∧ sizedMet enc Tryd.prog Tryd.f9 (OpenSpec.ofChange Rows.correctBackSpec) false w args)
      (Rows.correctBackSpec.post enc Tryd.prog Tryd.f9 false true false false) := by
  refine wrap_shaped (C := Tryd.checked) (X := (fun w _ => laidMetH Tryd.prog laidL w)) (fun _ _ _ hh h => h.of_heap hh) own started (by kernel_rfl) Tryd.func9
    (ChangeSpec.witness_shaped (enc := enc) (C := Tryd.checked) (os := os) (X := (fun w _ => laidMetH Tryd.prog laidL w)) false (World.laidAll Tryd.prog os laidL) #[.agg #[.slice none 0 0, .slice none 0 0, .slice none 0 0], .string ByteArray.empty] 8 (World.laidAll_os _ _ _) (World.shaped_of_ZipB (by kernel_rfl) (by kernel_rfl)) (by kernel_rfl) (by kernel_rfl) (by kernel_rfl) (by rw [MakeChecks.laidMetH_plain _ _ _ (by kernel_rfl)]; exact laidMet_laidAll _ (by kernel_rfl) (by kernel_rfl))) ?_
  intro W base args ds gs before hval0 hW hL hsh
  have hval : ∀ (j : Nat) t v, Tryd.f9.params[j]? = some t → args[j]? = some v → Value.okWide Tryd.prog W .any base t v := hval0
  have hW' := hW
  obtain ⟨p, q, hA0, hV, rfl, hfz, hnd⟩ := hW
  have hA : DataW.TrodAll enc Tryd.prog W 0 (fun _ => true) true Tryd.f9.params.toList args.toList ds p := hA0
  rw [Tryd.params9] at hA hval
  obtain ⟨v0, vs0, d0, ds0, p0, q0, hargs, rfl, rfl, h0, r0⟩ := trodAll_cons hA
  obtain ⟨v1, vs1, d1, ds1, p1, q1, rfl, rfl, rfl, h1, r1⟩ := trodAll_cons r0
  obtain ⟨rfl, rfl, rfl⟩ := trodAll_nil r1
  obtain rfl : args = #[v0, v1] := by cases args; simp_all
  obtain ⟨rfl, rfl⟩ := trodVars_none hV
  obtain ⟨cs0, rfl, _⟩ := okWide_struct Tryd.underlying25 (hval 0 25 v0 rfl rfl)
  have k0 := h0
  have lt0 : ∀ x ∈ p0, x.block < W.heap.size := by obtain ⟨m, hm⟩ := k0; exact DataW.trod_lt m _ _ _ hm
  obtain ⟨x0, K0, ok0⟩ : ∃ x, k25.K W x cs0.toList ∧ ok25 x := by
    obtain ⟨fuel, hf⟩ := h0
    exact opens25.2 _ _ _ _ _ _ _ _ _ hf
  obtain ⟨A0_0, c0_0, A0_1, c0_1, A0_2, c0_2, e0, g0_0, hr0_0, g0_1, hr0_1, g0_2, hr0_2⟩ := k25_open K0
  obtain rfl : cs0 = #[.slice A0_0 (x0.f0).length c0_0, .slice A0_1 (x0.f1).length c0_1, .slice A0_2 (x0.f2).length c0_2] := by cases cs0; simpa using e0
  obtain ⟨a1, rfl, rfl, rfl, y1⟩ := open_string Tryd.underlying9 (hval 1 9 v1 rfl rfl) h1
  clear hA0 hval0
  obtain ⟨k, hp⟩ := Pure.CorrectBack (x0.f0) (x0.f1) (x0.f2) a1 ok0.1 ok0.2.1 ok0.2.2 y1
  have hG : GI W := GI.of_laid laidL (by simp [laidL]) (by simp [laidL]) (by simp [laidL]) hL hsh
  refine (spilelaw19_CorrectBack.calls k _ _ (x0.f0) _ _ (x0.f1) _ _ (x0.f2) a1 true W hr0_0 g0_0 hr0_1 g0_1 hr0_2 g0_2 hG hp).mono fun e W' ⟨he, bel⟩ => ?_
  subst he
  exact ⟨_, rfl, _, _, _, [], _, [], hW', trodAll_mk1 (shut_bool Tryd.underlying4 _), (trodAll_cons_mk (Below.trod laidOut (by kernel_rfl) (of_decide_eq_true (by kernel_rfl)) k0 bel lt0) (trodAll_cons_mk (shut_string Tryd.underlying9 y1) trodAll_mk0)), rfl, bel.frame _, fun h => by cases h⟩
theorem holds : Rows.CorrectBackSaid :=
  OpenClaim.holds_of_wide 9 Tryd.f9 rfl rfl rfl rfl rfl rfl rfl ⟨rfl, rfl, rfl, rfl, rfl⟩ rfl rfl rfl rfl rfl (by kernel_rfl) Tryd.func9 (by kernel_rfl)
    (of_decide_eq_true (by kernel_rfl)) (by unfold Func.isWrapper; first | (rw [if_pos (by decide +kernel)]; kernel_rfl) | (rw [if_neg (by decide +kernel)]; exact ⟨rfl, rfl⟩))
    (fun os started H enc _ => lifted os started H enc)
theorem card : Rows.CorrectBackCardSaid :=
  Claim7.holds_tied_plain_at .later [] [.data, .data, .data, .data, .sentinel, .sentinel, .pinned] true (true, "43761afd2ec77655b7605f986a4f9a4256ebde91a38a7a669bad47d42540965e") true
    holds (fun _ h => by cases h) (by kernel_rfl) (fun _ h => by cases h) correctBack_row_tie rfl ⟨rfl, rfl⟩ (by kernel_rfl) rfl
    (fun f fn hf hfn => by
      obtain rfl : f = 9 := Option.some.inj ((show Tryd.prog.funcNamed "spile/spilelaw19.CorrectBack" = some 9 by kernel_rfl).symm.trans hf) |>.symm
      obtain rfl : fn = Tryd.f9 := (Option.some.inj (Tryd.func9.symm.trans hfn)).symm
      exact ⟨by kernel_rfl, fun j t ht => by
        rw [Tryd.params9] at ht
        have hm : t ∈ [25, 9] := by simpa using Array.mem_of_getElem? ht
        have hall : ([25, 9].all fun u => !Tryd.prog.wantsStandIn u) = true := by kernel_rfl
        exact (show Tryd.prog.wantsStandIn t = false by simpa using List.all_eq_true.1 hall t hm)⟩)
    (by kernel_rfl)
end Go.Proofs.YtmdfnambaedllaaDoor.correctBack
namespace Go.Proofs.YtmdfnambaedllaaDoor
/-- The card, under a short name, for the claim. -/
theorem correctBack_holds : Rows.CorrectBackCardSaid := correctBack.card
#print axioms correctBack_holds
end Go.Proofs.YtmdfnambaedllaaDoor
