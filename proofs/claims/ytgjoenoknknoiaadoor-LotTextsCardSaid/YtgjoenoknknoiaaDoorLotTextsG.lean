/-
A part of what these laws rest on: contracts of the functions that they reach, and plain lemmas.
-/
import Derived.Test.YtgjoenoknknoiaaDoorLotTextsF
set_option linter.unusedVariables false
set_option linter.unusedSimpArgs false
namespace Go.Proofs.YtgjoenoknknoiaaDoor.Pr
open Go.RowKit Go.Proofs.YtgjoenoknknoiaaDoorW.PrintWords Go.Proofs.YtgjoenoknknoiaaDoorW.PrintLast Go.Proofs.YtgjoenoknknoiaaDoorW.PrintMore Go.Proofs.YtgjoenoknknoiaaDoor.X
attribute [local go_sem] max2_int min2_int max_two min_two max_three min_three max_four min_four   -- for this text's walks alone
set_option linter.unusedVariables false
set_option linter.unusedSimpArgs false
mutual
def spileref22_read.j0 : Nat → List ByteArray → Bool → Option (Int × Int × Int × (List (S35)) × Bool)
 | 0, _, _ => none
 | k + 1, x4, x37 => if x37 = true then (some (0, 0, 0, ([] : List (S35)), false)) else (if 1 < (x4.length : Int) then ((spileref16_Number.f k (rdOf ByteArray.empty x4 1) 15).bind fun bt570 => (if 3 < (x4.length : Int) then ((spileref16_Number.f k (rdOf ByteArray.empty x4 3) 15).bind fun bt573 => (spileref22_read.l0 k x4 bt570.2 bt573.2 4 bt570.1 0 bt573.1 ([] : List (S35)))) else (none))) else (none))
def spileref22_read.l0 : Nat → List ByteArray → Bool → Bool → Int → Int → Int → Int → List (S35) → Option (Int × Int × Int × (List (S35)) × Bool)
 | 0, _, _, _, _, _, _, _, _ => none
 | k + 1, x4, x7, x9, x10, x569000, x569001, x569002, x569003 => if x10 < (x4.length : Int) then (if 0 ≤ (wrap64 (x10 + 1)) then (if (wrap64 (x10 + 1)) < (x4.length : Int) then ((spileref16_Number.f k (rdOf ByteArray.empty x4 (wrap64 (x10 + 1))) 15).bind fun bt577 => (if 0 ≤ (wrap64 (x10 + 3)) then (if (wrap64 (x10 + 3)) < (x4.length : Int) then ((spileref16_Number.f k (rdOf ByteArray.empty x4 (wrap64 (x10 + 3))) 15).bind fun bt580 => (if 0 ≤ x10 then (if (rdOf ByteArray.empty x4 x10).toList = ([102, 105, 108, 108] : List UInt8) then (if 0 ≤ (wrap64 (x10 + 2)) then (if (wrap64 (x10 + 2)) < (x4.length : Int) then (if (rdOf ByteArray.empty x4 (wrap64 (x10 + 2))).toList = ([97, 108, 99, 111, 104, 111, 108] : List UInt8) then (if bt577.2 = true then (if bt580.2 = true then (if x569003.length < 8796093022208 then (spileref22_read.l0 k x4 x7 x9 (wrap64 (x10 + 4)) x569000 x569001 x569002 (x569003 ++ [(⟨bt577.1, bt580.1⟩ : S35)])) else (none)) else (some (0, 0, 0, ([] : List (S35)), false))) else (some (0, 0, 0, ([] : List (S35)), false))) else (some (0, 0, 0, ([] : List (S35)), false))) else (none)) else (none)) else (some (0, 0, 0, ([] : List (S35)), false))) else (none))) else (none)) else (none))) else (none)) else (none)) else ((spileref22_Alcohol.f k x569003).bind fun t575 => (if x7 = true then (some (x569000, t575, x569002, x569003, x9)) else (some (x569000, t575, x569002, x569003, false))))
end
def spileref22_read.f (k : Nat) (a0 : ByteArray) : Option (Int × Int × Int × (List (S35)) × Bool) := (spileref16_Words.f k a0).bind fun t563 => (if (t563.length : Int) < 4 then (spileref22_read.j0 k t563 true) else (if ((t563.length : Int) % 4) = 0 then (if 0 < (t563.length : Int) then (if (rdOf ByteArray.empty t563 0).toList = ([108, 111, 116] : List UInt8) then (if 2 < (t563.length : Int) then (spileref22_read.j0 k t563 ((rdOf ByteArray.empty t563 2).toList != ([109, 97, 115, 115] : List UInt8))) else (none)) else (spileref22_read.j0 k t563 true)) else (none)) else (spileref22_read.j0 k t563 true)))
set_option maxHeartbeats 8000000 in
set_option maxRecDepth 100000 in
theorem spileref22_read.calls (k : Nat) (a0 : ByteArray) (r1 : Int) (r2 : Int) (r3 : Int) (r4 : List (S35)) (r5 : Bool) (w : World) (h : spileref22_read.f k a0 = some (r1, r2, r3, r4, r5)) :
  Calls Tryd.prog 56 #[.string a0] w fun e w' => ∃ v3_ : Value, e = .returned (.tuple #[.agg #[.int .i64 r1, .int .i64 r2, .int .i64 r3, v3_], .bool r5]) ∧ Kd.R k35 35 w' w.heap.size (fun _ => True) v3_ r4 ∧ Below w.heap.size w w' := by
 have hu33 := Tryd.underlying33
 have hu35 := Tryd.underlying35
 have HB := Aside0.mk (Below.refl w.heap.size w)
 have H : ((spileref16_Words.f k a0).bind fun t563 => (if (t563.length : Int) < 4 then (spileref22_read.j0 k t563 true) else (if ((t563.length : Int) % 4) = 0 then (if 0 < (t563.length : Int) then (if (rdOf ByteArray.empty t563 0).toList = ([108, 111, 116] : List UInt8) then (if 2 < (t563.length : Int) then (spileref22_read.j0 k t563 ((rdOf ByteArray.empty t563 2).toList != ([109, 97, 115, 115] : List UInt8))) else (none)) else (spileref22_read.j0 k t563 true)) else (none)) else (spileref22_read.j0 k t563 true)))) = some (r1, r2, r3, r4, r5) := h
 clear h
 replace H := Option.bind_eq_some_iff.mp H
 obtain ⟨t563, A20, H⟩ := H
 replace H : (if (t563.length : Int) < 4 then (spileref22_read.j0 k t563 true) else (if ((t563.length : Int) % 4) = 0 then (if 0 < (t563.length : Int) then (if (rdOf ByteArray.empty t563 0).toList = ([108, 111, 116] : List UInt8) then (if 2 < (t563.length : Int) then (spileref22_read.j0 k t563 ((rdOf ByteArray.empty t563 2).toList != ([109, 97, 115, 115] : List UInt8))) else (none)) else (spileref22_read.j0 k t563 true)) else (none)) else (spileref22_read.j0 k t563 true))) = some (r1, r2, r3, r4, r5) := H
 have A2 := Aside0.mk A20
 clear A20
 have HC3 := Aside0.mk H
 clear H
 go_enter Tryd.func56, Tryd.ntmps56
 go_upto_region 2 with (first | ((with_reducible refine gate_dst (N := 2) rfl ?_); (try (refine gate_guard (by rfl) ?_; dsimp only)); refine box_event ?hg (N := 2) ?hd (cs := #[.int .i64 0, .int .i64 0, .int .i64 0, .slice none 0 0]) (t := 33) ?hr ?_; (case hd => rfl); (case hg => rfl); (case hr => first | (go_simp; done) | (go_simp; rfl)); intro gb562 hg w4 hbox hb; have n0_ := Aside0.mk (below_step (by repeat (with_reducible first | exact HB.out | apply below_alloc | apply pw_below_drewN | apply below_drew1)) hb); have n1_ := Aside0.mk (hbox); have n2_ := Aside0.mk ((by rw [hg]; exact (below_size (by repeat (with_reducible first | exact HB.out | apply below_alloc | apply pw_below_drewN | apply below_drew1))) : w.heap.size ≤ gb562)); have n3_ := Aside0.mk ((by rw [hg]; exact (below_size (by repeat (with_reducible first | exact HB.out | apply below_alloc | apply pw_below_drewN | apply below_drew1))) : w.heap.size ≤ gb562)); clear HB; have HB := n0_; have BK562 := n1_; have GW562 := n2_; have GE562 := n3_; clear n0_ n1_ n2_ n3_; clear hb hbox hg) | ((with_reducible refine gate_callee (f := 67) rfl ?_); refine goesL_ (some 16) rfl rfl Tryd.func67 (by kernel_rfl) rfl #[.string a0] rfl (by (try simp only [List.map_toArray, List.map_cons, List.map_nil]); first | done | rfl | (simp only [List.length_drop, List.length_take]; rfl)) ?_; (with_reducible refine (spileref16_Words.calls k a0 t563 _ A2.out).mono ?_); rintro e w5 ⟨v564, rfl, ho0, hb⟩; refine ⟨_, rfl, ?_⟩; have n0_ := Aside0.mk (Kd.R_lower ho0 (below_size (by repeat (with_reducible first | exact HB.out | apply below_alloc | apply pw_below_drewN | apply below_drew1 | refine below_set ?_ GE562.out)))); have n1_ := Aside0.mk (blk_below (g := gb562) (o := .cells #[.int .i64 0, .int .i64 0, .int .i64 0, .slice none 0 0] 33 (0, 0)) (by (with_reducible repeat (first | refine blk_drewN ?_ _ | refine blk_drew ?_ | refine blk_alloc ?_ _)); exact BK562.out) hb); have n2_ := Aside0.mk (below_step (by repeat (with_reducible first | exact HB.out | apply below_alloc | apply pw_below_drewN | apply below_drew1 | refine below_set ?_ GE562.out)) hb); clear BK562; clear HB; have HO565 := n0_; have BK562 := n1_; have HB := n2_; clear n0_ n1_ n2_; (try clear hb); (try clear hb2); (try clear hk); (try clear hi); (try clear ho0)))
 (try simp only [Act.put, List.setIfInBounds_toArray, List.set_cons_zero, List.set_cons_succ])
 go_cut [37] (fun v37 wc => ∃ (kq : Nat) (x37_2 : Bool), v37 = .bool x37_2 ∧ Aside0 (spileref22_read.j0 kq t563 x37_2 = some (r1, r2, r3, r4, r5)) ∧ Aside0 (kq ≤ k) ∧ Aside0 (Kd.R Kd.string 9 wc w.heap.size (fun _ => True) v564 t563) ∧ Aside0 (wc.heap[gb562]? = some (.cells #[.int .i64 0, .int .i64 0, .int .i64 0, (.slice none 0 0)] 33 (0, 0))) ∧ Aside0 (Below w.heap.size w wc))
 case first =>
  have H := HC3.out
  clear HC3
  by_cases c6 : (t563.length : Int) < 4
  ·
   rw [if_pos c6] at H
   have c6b0 : decide ((t563.length : Int) < 4) = true := decide_eq_true c6
   have c6b1 : decide (t563.length < 4) = true := decide_eq_true (by omega)
   clear c6
   (first | rw [c6b0] | (simp only [i64_w, i32_w]; rw [c6b0]) | skip)
   have H' := Aside0.mk H
   clear H
   obtain ⟨Ao7, co7, eo7⟩ := Kd.R_slice HO565.out
   subst eo7
   go_wp2
   go_meet
   case rel => exact ⟨_, (true), (by first | rfl | (simp; done) | (simp [*]; done)), H', ⟨by first | omega | exact Nat.le_refl _⟩, ⟨by (with_reducible repeat (first | apply Kd.R_alloc | apply Kd.R_drewN | apply Kd.R_drew)); exact HO565.out⟩, ⟨by (with_reducible repeat (first | refine blk_drewN ?_ _ | refine blk_drew ?_ | refine blk_alloc ?_ _)); exact BK562.out⟩, ⟨by repeat (first | (with_reducible first | exact HB.out | apply below_alloc | apply pw_below_drewN | apply below_drew1 | refine below_set ?_ GE562.out) | exact HB.out)⟩⟩
  ·
   rw [if_neg c6] at H
   have c6b0 : decide ((t563.length : Int) < 4) = false := decide_eq_false c6
   have c6b1 : decide (t563.length < 4) = false := decide_eq_false (by omega)
   clear c6
   (first | rw [c6b0] | (simp only [i64_w, i32_w]; rw [c6b0]) | skip)
   by_cases c8 : ((t563.length : Int) % 4) = 0
   ·
    rw [if_pos c8] at H
    have c8b0 : (((t563.length : Int) % 4) == 0) = true := beq_iff_eq.mpr c8
    have c8b1 : (((t563.length : Int) % 4) != 0) = false := bne_eq_false_iff_eq.mpr c8
    clear c8
    by_cases c9 : 0 < (t563.length : Int)
    ·
     rw [if_pos c9] at H
     have c9b0 : decide (0 < (t563.length : Int)) = true := decide_eq_true c9
     have c9b1 : decide (0 < t563.length) = true := decide_eq_true (by omega)
     clear c9
     by_cases c10 : (rdOf ByteArray.empty t563 0).toList = ([108, 111, 116] : List UInt8)
     ·
      rw [if_pos c10] at H
      have c10b0 : ((rdOf ByteArray.empty t563 0).toList == ([108, 111, 116] : List UInt8)) = true := beq_iff_eq.mpr c10
      have c10b1 : ((rdOf ByteArray.empty t563 0).toList != ([108, 111, 116] : List UInt8)) = false := bne_eq_false_iff_eq.mpr c10
      clear c10
      by_cases c11 : 2 < (t563.length : Int)
      ·
       rw [if_pos c11] at H
       have c11b0 : decide (2 < (t563.length : Int)) = true := decide_eq_true c11
       have c11b1 : decide (2 < t563.length) = true := decide_eq_true (by omega)
       clear c11
       have H' := Aside0.mk H
       clear H
       obtain ⟨Ao12, co12, eo12⟩ := Kd.R_slice HO565.out
       subst eo12
       have p566 : 0 ≤ (0 : Int) := (by omega)
       have q566 : 0 < (t563.length : Int) := of_decide_eq_true (by first | (with_reducible assumption) | assumption)
       obtain ⟨ad566, e566, hx566_0⟩ := Kd.at_string (Kd.R_reads' HO565.out).2.2 0 p566 q566
       cases e566
       have qi566 : (0 < t563.length) = True := eq_true (by omega)
       (try rw [show ((0 : Int)).toNat = 0 from rfl] at hx566_0)
       (try rw [Addr.add_zero'] at hx566_0)
       replace p566 := eq_true p566
       replace q566 := eq_true q566
       have p567 : 0 ≤ (2 : Int) := (by omega)
       have q567 : 2 < (t563.length : Int) := of_decide_eq_true (by first | (with_reducible assumption) | assumption)
       obtain ⟨ad567, e567, hx567_0⟩ := Kd.at_string (Kd.R_reads' HO565.out).2.2 2 p567 q567
       obtain rfl : ad566 = ad567 := (by injection e567)
       (try simp only [show (2 : Int).toNat = 2 from rfl, Nat.reduceMul, Nat.reduceEqDiff, Go.Addr.add, ↓reduceIte] at hx567_0)
       have qi567 : (2 < t563.length) = True := eq_true (by omega)
       (try rw [show ((2 : Int)).toNat = 2 from rfl] at hx567_0)
       replace p567 := eq_true p567
       replace q567 := eq_true q567
       go_wp2
       go_meet
       case rel => exact ⟨_, (((rdOf ByteArray.empty t563 2).toList != ([109, 97, 115, 115] : List UInt8))), (by first | rfl | (simp; done) | (simp [*]; done)), H', ⟨by first | omega | exact Nat.le_refl _⟩, ⟨by (with_reducible repeat (first | apply Kd.R_alloc | apply Kd.R_drewN | apply Kd.R_drew)); exact HO565.out⟩, ⟨by (with_reducible repeat (first | refine blk_drewN ?_ _ | refine blk_drew ?_ | refine blk_alloc ?_ _)); exact BK562.out⟩, ⟨by repeat (first | (with_reducible first | exact HB.out | apply below_alloc | apply pw_below_drewN | apply below_drew1 | refine below_set ?_ GE562.out) | exact HB.out)⟩⟩
      ·
       rw [if_neg c11] at H
       exact absurd H (by simp)
     ·
      rw [if_neg c10] at H
      have c10b0 : ((rdOf ByteArray.empty t563 0).toList == ([108, 111, 116] : List UInt8)) = false := beq_eq_false_iff_ne.mpr c10
      have c10b1 : ((rdOf ByteArray.empty t563 0).toList != ([108, 111, 116] : List UInt8)) = true := bne_iff_ne.mpr c10
      have H' := Aside0.mk H
      clear H
      obtain ⟨Ao13, co13, eo13⟩ := Kd.R_slice HO565.out
      subst eo13
      have p566 : 0 ≤ (0 : Int) := (by omega)
      have q566 : 0 < (t563.length : Int) := of_decide_eq_true (by first | (with_reducible assumption) | assumption)
      obtain ⟨ad566, e566, hx566_0⟩ := Kd.at_string (Kd.R_reads' HO565.out).2.2 0 p566 q566
      cases e566
      have qi566 : (0 < t563.length) = True := eq_true (by omega)
      (try rw [show ((0 : Int)).toNat = 0 from rfl] at hx566_0)
      (try rw [Addr.add_zero'] at hx566_0)
      replace p566 := eq_true p566
      replace q566 := eq_true q566
      go_wp2
      go_meet
      case rel => exact ⟨_, (true), (by first | rfl | (simp; done) | (simp [*]; done)), H', ⟨by first | omega | exact Nat.le_refl _⟩, ⟨by (with_reducible repeat (first | apply Kd.R_alloc | apply Kd.R_drewN | apply Kd.R_drew)); exact HO565.out⟩, ⟨by (with_reducible repeat (first | refine blk_drewN ?_ _ | refine blk_drew ?_ | refine blk_alloc ?_ _)); exact BK562.out⟩, ⟨by repeat (first | (with_reducible first | exact HB.out | apply below_alloc | apply pw_below_drewN | apply below_drew1 | refine below_set ?_ GE562.out) | exact HB.out)⟩⟩
    ·
     rw [if_neg c9] at H
     exact absurd H (by simp)
   ·
    rw [if_neg c8] at H
    have c8b0 : (((t563.length : Int) % 4) == 0) = false := beq_eq_false_iff_ne.mpr c8
    have c8b1 : (((t563.length : Int) % 4) != 0) = true := bne_iff_ne.mpr c8
    have H' := Aside0.mk H
    clear H
    obtain ⟨Ao14, co14, eo14⟩ := Kd.R_slice HO565.out
    subst eo14
    go_wp2
    go_meet
    case rel => exact ⟨_, (true), (by first | rfl | (simp; done) | (simp [*]; done)), H', ⟨by first | omega | exact Nat.le_refl _⟩, ⟨by (with_reducible repeat (first | apply Kd.R_alloc | apply Kd.R_drewN | apply Kd.R_drew)); exact HO565.out⟩, ⟨by (with_reducible repeat (first | refine blk_drewN ?_ _ | refine blk_drew ?_ | refine blk_alloc ?_ _)); exact BK562.out⟩, ⟨by repeat (first | (with_reducible first | exact HB.out | apply below_alloc | apply pw_below_drewN | apply below_drew1 | refine below_set ?_ GE562.out) | exact HB.out)⟩⟩
 case rest =>
  clear HC3
  repeat first | clear c1 | clear p2 | clear c5 | clear p5 | clear q5 | clear hx5 | clear qi5 | clear c6 | clear c6b0 | clear c6b1 | clear c8 | clear c8b0 | clear c8b1 | clear c9 | clear c9b0 | clear c9b1 | clear c10 | clear c10b0 | clear c10b1 | clear c11 | clear c11b0 | clear c11b1 | clear hx566_0 | clear hx567_0 | clear p566 | clear p567 | clear q566 | clear q567
  obtain ⟨kq, x37_2, rfl, HA, HJ2, HO_4, BK562, HB⟩ := hcut
  cases kq with
  | zero => exact absurd HA.out (by simp [spileref22_read.j0])
  | succ kj2 =>
   have H := HA.out
   clear HA
   simp only [spileref22_read.j0] at H
   by_cases c15 : x37_2 = true
   ·
    subst c15
    replace H : (some (0, 0, 0, ([] : List (S35)), false)) = some (r1, r2, r3, r4, r5) := by rw [if_pos rfl] at H; exact H
    simp only [Option.some.injEq, Prod.mk.injEq] at H
    obtain ⟨rfl, rfl, rfl, rfl, rfl⟩ := H
    have hcz16_0 : wc.cell? ⟨gb562, 0, none⟩ = some (.int .i64 0) := (blk_cell BK562.out 0).trans rfl
    have hcz16_1 : wc.cell? ⟨gb562, 1, none⟩ = some (.int .i64 0) := (blk_cell BK562.out 1).trans rfl
    have hcz16_2 : wc.cell? ⟨gb562, 2, none⟩ = some (.int .i64 0) := (blk_cell BK562.out 2).trans rfl
    have hcz16_3 : wc.cell? ⟨gb562, 3, none⟩ = some (.slice none 0 0) := (blk_cell BK562.out 3).trans rfl
    have hfz16_0 := blk_frozen BK562.out 0
    have hfz16_1 := blk_frozen BK562.out 1
    have hfz16_2 := blk_frozen BK562.out 2
    have hfz16_3 := blk_frozen BK562.out 3
    go_wp2
    refine bodyPost_ret (results_ct rfl _ _ gb562 33 #[.int .i64 0, .int .i64 0, .int .i64 0, .slice none 0 0] (0, 0) _ rfl (by (with_reducible repeat (first | refine blk_drewN ?_ _ | refine blk_drew ?_ | refine blk_alloc ?_ _)); refine blk_put (cs := #[.int .i64 0, .int .i64 0, .int .i64 0, .slice none 0 0]) ?_ 3 _ rfl; (with_reducible repeat (first | refine blk_drewN ?_ _ | refine blk_drew ?_ | refine blk_alloc ?_ _)); refine blk_put (cs := #[.int .i64 0, .int .i64 0, .int .i64 0, .slice none 0 0]) ?_ 2 _ rfl; (with_reducible repeat (first | refine blk_drewN ?_ _ | refine blk_drew ?_ | refine blk_alloc ?_ _)); refine blk_put (cs := #[.int .i64 0, .int .i64 0, .int .i64 0, .slice none 0 0]) ?_ 1 _ rfl; (with_reducible repeat (first | refine blk_drewN ?_ _ | refine blk_drew ?_ | refine blk_alloc ?_ _)); refine blk_put (cs := #[.int .i64 0, .int .i64 0, .int .i64 0, .slice none 0 0]) ?_ 0 _ rfl; (with_reducible repeat (first | refine blk_drewN ?_ _ | refine blk_drew ?_ | refine blk_alloc ?_ _)); exact BK562.out) Tryd.underlying33 rfl (by kernel_rfl)) rfl ?_
    exact ⟨_, by first | rfl | (simp [errW_none, errW_some] <;> rfl) | (simp [*, errW_none, errW_some] <;> rfl), by first | exact Kd.R_nil _ _ _ _ _ | exact Kd.N_nil _ _ _ _ _ | exact Kd.V_nil _ _ _ _ _ | exact Kd.Q_nil _ _ _ _ _ | exact Kd.S_nil _ _ _ _ _, by repeat (first | (with_reducible first | exact HB.out | apply below_alloc | apply pw_below_drewN | apply below_drew1 | refine below_set ?_ GE562.out) | exact HB.out)⟩
   ·
    replace c15 := Bool.eq_false_iff.mpr c15
    subst c15
    replace H : (if 1 < (t563.length : Int) then ((spileref16_Number.f kj2 (rdOf ByteArray.empty t563 1) 15).bind fun bt570 => (if 3 < (t563.length : Int) then ((spileref16_Number.f kj2 (rdOf ByteArray.empty t563 3) 15).bind fun bt573 => (spileref22_read.l0 kj2 t563 bt570.2 bt573.2 4 bt570.1 0 bt573.1 ([] : List (S35)))) else (none))) else (none)) = some (r1, r2, r3, r4, r5) := by rw [if_neg (show ¬ (false = true) by decide)] at H; exact H
    by_cases c17 : 1 < (t563.length : Int)
    ·
     rw [if_pos c17] at H
     have c17b0 : decide (1 < (t563.length : Int)) = true := decide_eq_true c17
     have c17b1 : decide (1 < t563.length) = true := decide_eq_true (by omega)
     clear c17
     replace H := Option.bind_eq_some_iff.mp H
     obtain ⟨⟨t570, t571⟩, A180, H⟩ := H
     replace H : (if 3 < (t563.length : Int) then ((spileref16_Number.f kj2 (rdOf ByteArray.empty t563 3) 15).bind fun bt573 => (spileref22_read.l0 kj2 t563 t571 bt573.2 4 t570 0 bt573.1 ([] : List (S35)))) else (none)) = some (r1, r2, r3, r4, r5) := H
     have A18 := Aside0.mk A180
     clear A180
     by_cases c19 : 3 < (t563.length : Int)
     ·
      rw [if_pos c19] at H
      have c19b0 : decide (3 < (t563.length : Int)) = true := decide_eq_true c19
      have c19b1 : decide (3 < t563.length) = true := decide_eq_true (by omega)
      clear c19
      replace H := Option.bind_eq_some_iff.mp H
      obtain ⟨⟨t573, t574⟩, A200, H⟩ := H
      replace H : (spileref22_read.l0 kj2 t563 t571 t574 4 t570 0 t573 ([] : List (S35))) = some (r1, r2, r3, r4, r5) := H
      have A20 := Aside0.mk A200
      clear A200
      have H' := Aside0.mk H
      clear H
      go_wp2_with (first | ((with_reducible refine gate_dst (N := 5) rfl ?_); (try (refine gate_guard (by rfl) ?_; dsimp only)); refine box_event ?hg (N := 5) ?hd (cs := #[.int .i64 0, .int .i64 0, .int .i64 0, .slice none 0 0]) (t := 33) ?hr ?_; (case hd => rfl); (case hg => rfl); (case hr => first | (go_simp; done) | (go_simp; rfl)); intro gb568 hg w21 hbox hb; have n0_ := Aside0.mk (Kd.R_below (by (with_reducible repeat (first | apply Kd.R_alloc | apply Kd.R_drewN | apply Kd.R_drew)); exact HO_4.out) hb); have n1_ := Aside0.mk (blk_below (g := gb562) (o := .cells #[.int .i64 0, .int .i64 0, .int .i64 0, .slice none 0 0] 33 (0, 0)) (by (with_reducible repeat (first | refine blk_drewN ?_ _ | refine blk_drew ?_ | refine blk_alloc ?_ _)); exact BK562.out) hb); have n2_ := Aside0.mk (below_step (by repeat (with_reducible first | exact HB.out | apply below_alloc | apply pw_below_drewN | apply below_drew1 | refine below_set ?_ GE562.out)) hb); have n3_ := Aside0.mk (hbox); have n4_ := Aside0.mk ((by rw [hg]; exact (below_size (by repeat (with_reducible first | exact HB.out | apply below_alloc | apply pw_below_drewN | apply below_drew1 | refine below_set ?_ GE562.out))) : w.heap.size ≤ gb568)); have n5_ := Aside0.mk ((by rw [hg]; exact (below_size (by repeat (with_reducible first | exact HB.out | apply below_alloc | apply pw_below_drewN | apply below_drew1 | refine below_set ?_ GE562.out))) : w.heap.size ≤ gb568)); have n6_ := Aside0.mk ((by rw [hg]; exact Nat.ne_of_lt (blk_lt (g := gb562) (o := .cells #[.int .i64 0, .int .i64 0, .int .i64 0, .slice none 0 0] 33 (0, 0)) (by (with_reducible repeat (first | refine blk_drewN ?_ _ | refine blk_drew ?_ | refine blk_alloc ?_ _)); exact BK562.out)) : gb562 ≠ gb568)); have n7_ := Aside0.mk ((by rw [hg]; exact Nat.ne_of_gt (blk_lt (g := gb562) (o := .cells #[.int .i64 0, .int .i64 0, .int .i64 0, .slice none 0 0] 33 (0, 0)) (by (with_reducible repeat (first | refine blk_drewN ?_ _ | refine blk_drew ?_ | refine blk_alloc ?_ _)); exact BK562.out)) : gb568 ≠ gb562)); clear HO_4; clear BK562; clear HB; have HO_4 := n0_; have BK562 := n1_; have HB := n2_; have BK568 := n3_; have GW568 := n4_; have GE568 := n5_; have NB562_568 := n6_; have NB568_562 := n7_; clear n0_ n1_ n2_ n3_ n4_ n5_ n6_ n7_; clear hb hbox hg; have hnb22 := NB568_562.out; have hnc22 := NB562_568.out; have hcz23_0 : w21.cell? ⟨gb568, 0, none⟩ = some (.int .i64 0) := (blk_cell BK568.out 0).trans rfl; have hcz23_1 : w21.cell? ⟨gb568, 1, none⟩ = some (.int .i64 0) := (blk_cell BK568.out 1).trans rfl; have hcz23_2 : w21.cell? ⟨gb568, 2, none⟩ = some (.int .i64 0) := (blk_cell BK568.out 2).trans rfl; have hcz23_3 : w21.cell? ⟨gb568, 3, none⟩ = some (.slice none 0 0) := (blk_cell BK568.out 3).trans rfl; have hfz23_0 := blk_frozen BK568.out 0; have hfz23_1 := blk_frozen BK568.out 1; have hfz23_2 := blk_frozen BK568.out 2; have hfz23_3 := blk_frozen BK568.out 3; obtain ⟨Ao24, co24, eo24⟩ := Kd.R_slice HO_4.out; subst eo24; have p569 : 0 ≤ (1 : Int) := (by omega); have q569 : 1 < (t563.length : Int) := of_decide_eq_true (by first | (with_reducible assumption) | assumption); obtain ⟨ad569, e569, hx569_0⟩ := Kd.at_string (Kd.R_reads' HO_4.out).2.2 1 p569 q569; cases e569; (try simp only [show (1 : Int).toNat = 1 from rfl, Nat.reduceMul, Nat.reduceEqDiff, Go.Addr.add, ↓reduceIte] at hx569_0); have qi569 : (1 < t563.length) = True := eq_true (by omega); (try rw [show ((1 : Int)).toNat = 1 from rfl] at hx569_0); have hn569_0 : ad569.block ≠ gb568 := Kd.own_blk (Kd.R_ne HO_4.out BK568.out (by decide)); have hn569_1 : ad569.block ≠ gb568 := Kd.own_blk (Kd.R_ne HO_4.out BK568.out (by decide)); have hn569_2 : ad569.block ≠ gb568 := Kd.own_blk (Kd.R_ne HO_4.out BK568.out (by decide)); have hn569_3 : ad569.block ≠ gb568 := Kd.own_blk (Kd.R_ne HO_4.out BK568.out (by decide)); replace hx569_0 := (cell_far (p := ⟨gb568, 0, none⟩) (by first | (rw [add_block]; exact hn569_0) | (show (Addr.add _ _).block ≠ _; rw [add_block]; exact hn569_0) | exact hn569_0) (.int .i64 0)).trans hx569_0; replace hx569_0 := (cell_far (p := ⟨gb568, 1, none⟩) (by first | (rw [add_block]; exact hn569_1) | (show (Addr.add _ _).block ≠ _; rw [add_block]; exact hn569_1) | exact hn569_1) (.int .i64 0)).trans hx569_0; replace hx569_0 := (cell_far (p := ⟨gb568, 2, none⟩) (by first | (rw [add_block]; exact hn569_2) | (show (Addr.add _ _).block ≠ _; rw [add_block]; exact hn569_2) | exact hn569_2) (.int .i64 0)).trans hx569_0; replace hx569_0 := (cell_far (p := ⟨gb568, 3, none⟩) (by first | (rw [add_block]; exact hn569_3) | (show (Addr.add _ _).block ≠ _; rw [add_block]; exact hn569_3) | exact hn569_3) (.slice none 0 0)).trans hx569_0; clear hn569_0; clear hn569_1; clear hn569_2; clear hn569_3; replace p569 := eq_true p569; replace q569 := eq_true q569) | ((with_reducible refine gate_callee (f := 68) rfl ?_); refine goesL_ (some 44) rfl rfl Tryd.func68 (by kernel_rfl) rfl #[.string (rdOf ByteArray.empty t563 1), .int .i64 15] rfl (by (try simp only [List.map_toArray, List.map_cons, List.map_nil]); first | done | rfl | (simp only [List.length_drop, List.length_take]; rfl)) ?_; (with_reducible refine (spileref16_Number.calls kj2 (rdOf ByteArray.empty t563 1) 15 t570 t571 _ A18.out).mono ?_); rintro e w' ⟨rfl, ⟨nd, rfl⟩⟩; refine ⟨_, rfl, ?_⟩; have p572 : 0 ≤ (3 : Int) := (by omega); have q572 : 3 < (t563.length : Int) := of_decide_eq_true (by first | (with_reducible assumption) | assumption); obtain ⟨ad572, e572, hx572_0⟩ := Kd.at_string (Kd.R_reads' HO_4.out).2.2 3 p572 q572; obtain rfl : ad569 = ad572 := (by injection e572); (try simp only [show (3 : Int).toNat = 3 from rfl, Nat.reduceMul, Nat.reduceEqDiff, Go.Addr.add, ↓reduceIte] at hx572_0); have qi572 : (3 < t563.length) = True := eq_true (by omega); (try rw [show ((3 : Int)).toNat = 3 from rfl] at hx572_0); have hn572_0 : ad569.block ≠ gb568 := Kd.own_blk (Kd.R_ne HO_4.out BK568.out (by decide)); have hn572_1 : ad569.block ≠ gb568 := Kd.own_blk (Kd.R_ne HO_4.out BK568.out (by decide)); have hn572_2 : ad569.block ≠ gb568 := Kd.own_blk (Kd.R_ne HO_4.out BK568.out (by decide)); have hn572_3 : ad569.block ≠ gb568 := Kd.own_blk (Kd.R_ne HO_4.out BK568.out (by decide)); replace hx572_0 := (cell_far (p := ⟨gb568, 0, none⟩) (by first | (rw [add_block]; exact hn572_0) | (show (Addr.add _ _).block ≠ _; rw [add_block]; exact hn572_0) | exact hn572_0) (.int .i64 0)).trans hx572_0; replace hx572_0 := (cell_far (p := ⟨gb568, 1, none⟩) (by first | (rw [add_block]; exact hn572_1) | (show (Addr.add _ _).block ≠ _; rw [add_block]; exact hn572_1) | exact hn572_1) (.int .i64 0)).trans hx572_0; replace hx572_0 := (cell_far (p := ⟨gb568, 2, none⟩) (by first | (rw [add_block]; exact hn572_2) | (show (Addr.add _ _).block ≠ _; rw [add_block]; exact hn572_2) | exact hn572_2) (.int .i64 0)).trans hx572_0; replace hx572_0 := (cell_far (p := ⟨gb568, 3, none⟩) (by first | (rw [add_block]; exact hn572_3) | (show (Addr.add _ _).block ≠ _; rw [add_block]; exact hn572_3) | exact hn572_3) (.slice none 0 0)).trans hx572_0; clear hn572_0; clear hn572_1; clear hn572_2; clear hn572_3; replace p572 := eq_true p572; replace q572 := eq_true q572) | ((with_reducible refine gate_callee (f := 68) rfl ?_); refine goesL_ (some 51) rfl rfl Tryd.func68 (by kernel_rfl) rfl #[.string (rdOf ByteArray.empty t563 3), .int .i64 15] rfl (by (try simp only [List.map_toArray, List.map_cons, List.map_nil]); first | done | rfl | (simp only [List.length_drop, List.length_take]; rfl)) ?_; (with_reducible refine (spileref16_Number.calls kj2 (rdOf ByteArray.empty t563 3) 15 t573 t574 _ A20.out).mono ?_); rintro e w' ⟨rfl, ⟨nd, rfl⟩⟩; refine ⟨_, rfl, ?_⟩))
      go_loopg [10] kj2 (fun kq v10 w' => ∃ (x10_2 : Int) (x563000_2 : Int) (x563001_2 : Int) (x563002_2 : Int) (x569003_2 : List (S35)) (u569003 : Value), v10 = .int .i64 x10_2 ∧ Aside0 (spileref22_read.l0 kq t563 t571 t574 x10_2 t570 0 t573 x569003_2 = some (r1, r2, r3, r4, r5)) ∧ Aside0 (kq ≤ kj2) ∧ Aside0 (Kd.R Kd.string 9 w' w.heap.size (fun _ => True) (.slice (some ad569) t563.length co24) t563) ∧ Aside0 (Kd.R k35 35 w' w.heap.size (fun _ => True) u569003 x569003_2) ∧ Aside0 (w'.heap[gb562]? = some (.cells #[.int .i64 x563000_2, .int .i64 x563001_2, .int .i64 x563002_2, (.slice none 0 0)] 33 (0, 0))) ∧ Aside0 (w'.heap[gb568]? = some (.cells #[.int .i64 t570, .int .i64 0, .int .i64 t573, u569003] 33 (0, 0))) ∧ Aside0 (Below w.heap.size w w'))
      case atStart => exact ⟨(4), (0), (0), (0), (([] : List (S35))), (.slice none 0 0), (by first | rfl | (simp; done) | (simp [*]; done)), H', ⟨Nat.le_refl _⟩, ⟨by (with_reducible repeat (first | apply Kd.R_alloc | apply Kd.R_drewN | apply Kd.R_drew)); exact Kd.R_mono (Kd.R_far (p := ⟨gb568, 2, none⟩) (Kd.R_far (p := ⟨gb568, 0, none⟩) (Kd.R_far (p := ⟨gb568, 3, none⟩) (Kd.R_far (p := ⟨gb568, 2, none⟩) (Kd.R_far (p := ⟨gb568, 1, none⟩) (Kd.R_far (p := ⟨gb568, 0, none⟩) (Kd.R_types HO_4.out BK568.out (by decide)) (fun _ hk => hk.2) (.int .i64 0)) (fun _ hk => hk.2) (.int .i64 0)) (fun _ hk => hk.2) (.int .i64 0)) (fun _ hk => hk.2) (.slice none 0 0)) (fun _ hk => hk.2) (.int .i64 t570)) (fun _ hk => hk.2) (.int .i64 t573)) (fun _ hk => trivial)⟩, ⟨by first | exact Kd.R_nil _ _ _ _ _ | exact Kd.N_nil _ _ _ _ _ | exact Kd.V_nil _ _ _ _ _ | exact Kd.Q_nil _ _ _ _ _ | exact Kd.S_nil _ _ _ _ _⟩, ⟨by (with_reducible repeat (first | refine blk_drewN ?_ _ | refine blk_drew ?_ | refine blk_alloc ?_ _)); refine blk_far ?_ NB562_568.out _; (with_reducible repeat (first | refine blk_drewN ?_ _ | refine blk_drew ?_ | refine blk_alloc ?_ _)); refine blk_far ?_ NB562_568.out _; (with_reducible repeat (first | refine blk_drewN ?_ _ | refine blk_drew ?_ | refine blk_alloc ?_ _)); refine blk_far ?_ NB562_568.out _; (with_reducible repeat (first | refine blk_drewN ?_ _ | refine blk_drew ?_ | refine blk_alloc ?_ _)); refine blk_far ?_ NB562_568.out _; (with_reducible repeat (first | refine blk_drewN ?_ _ | refine blk_drew ?_ | refine blk_alloc ?_ _)); refine blk_far ?_ NB562_568.out _; (with_reducible repeat (first | refine blk_drewN ?_ _ | refine blk_drew ?_ | refine blk_alloc ?_ _)); refine blk_far ?_ NB562_568.out _; (with_reducible repeat (first | refine blk_drewN ?_ _ | refine blk_drew ?_ | refine blk_alloc ?_ _)); exact BK562.out⟩, ⟨by (with_reducible repeat (first | refine blk_drewN ?_ _ | refine blk_drew ?_ | refine blk_alloc ?_ _)); refine blk_put (cs := #[.int .i64 t570, .int .i64 0, .int .i64 0, .slice none 0 0]) ?_ 2 _ rfl; (with_reducible repeat (first | refine blk_drewN ?_ _ | refine blk_drew ?_ | refine blk_alloc ?_ _)); refine blk_put (cs := #[.int .i64 0, .int .i64 0, .int .i64 0, .slice none 0 0]) ?_ 0 _ rfl; (with_reducible repeat (first | refine blk_drewN ?_ _ | refine blk_drew ?_ | refine blk_alloc ?_ _)); refine blk_put (cs := #[.int .i64 0, .int .i64 0, .int .i64 0, .slice none 0 0]) ?_ 3 _ rfl; (with_reducible repeat (first | refine blk_drewN ?_ _ | refine blk_drew ?_ | refine blk_alloc ?_ _)); refine blk_put (cs := #[.int .i64 0, .int .i64 0, .int .i64 0, .slice none 0 0]) ?_ 2 _ rfl; (with_reducible repeat (first | refine blk_drewN ?_ _ | refine blk_drew ?_ | refine blk_alloc ?_ _)); refine blk_put (cs := #[.int .i64 0, .int .i64 0, .int .i64 0, .slice none 0 0]) ?_ 1 _ rfl; (with_reducible repeat (first | refine blk_drewN ?_ _ | refine blk_drew ?_ | refine blk_alloc ?_ _)); refine blk_put (cs := #[.int .i64 0, .int .i64 0, .int .i64 0, .slice none 0 0]) ?_ 0 _ rfl; (with_reducible repeat (first | refine blk_drewN ?_ _ | refine blk_drew ?_ | refine blk_alloc ?_ _)); exact BK568.out⟩, ⟨by repeat (first | (with_reducible first | exact HB.out | apply below_alloc | apply pw_below_drewN | apply below_drew1 | refine below_set ?_ GE562.out | refine below_set ?_ GE568.out) | exact HB.out)⟩⟩
      case round =>
       clear H'
       repeat first | clear c1 | clear c2 | clear p2 | clear c5 | clear p5 | clear q5 | clear hx5 | clear qi5 | clear c6 | clear c6b0 | clear c6b1 | clear c8 | clear c8b0 | clear c8b1 | clear c9 | clear c9b0 | clear c9b1 | clear c10 | clear c10b0 | clear c10b1 | clear c11 | clear c11b0 | clear c11b1 | clear c15 | clear c17 | clear c17b0 | clear c17b1 | clear c19 | clear c19b0 | clear c19b1 | clear c22 | clear hcz16_0 | clear hcz16_1 | clear hcz16_2 | clear hcz16_3 | clear hcz23_0 | clear hcz23_1 | clear hcz23_2 | clear hcz23_3 | clear hfz16_0 | clear hfz16_1 | clear hfz16_2 | clear hfz16_3 | clear hfz23_0 | clear hfz23_1 | clear hfz23_2 | clear hfz23_3 | clear hx566_0 | clear hx567_0 | clear hx569_0 | clear hx572_0 | clear p2 | clear p5 | clear p566 | clear p567 | clear p569 | clear p572 | clear q5 | clear q566 | clear q567 | clear q569 | clear q572
       obtain ⟨x10_2, x563000_2, x563001_2, x563002_2, x569003_2, u569003, rfl, HA, HK2, HO_4, HO_569003, BK562, BK568, HB⟩ := hrel
       cases gk with
       | zero => exact absurd HA.out (by simp [spileref22_read.l0])
       | succ k2 =>
        have H := HA.out
        clear HA
        simp only [spileref22_read.l0] at H
        by_cases c25 : x10_2 < (t563.length : Int)
        ·
         rw [if_pos c25] at H
         have c25b0 : decide (x10_2 < (t563.length : Int)) = true := decide_eq_true c25
         clear c25
         obtain ⟨ji26, hji26⟩ : ∃ j_ : Int, (wrap64 (x10_2 + 1)) = j_ := ⟨_, rfl⟩
         replace H : (if 0 ≤ (ji26) then (if (ji26) < (t563.length : Int) then ((spileref16_Number.f k2 (rdOf ByteArray.empty t563 (ji26)) 15).bind fun bt577 => (if 0 ≤ (wrap64 (x10_2 + 3)) then (if (wrap64 (x10_2 + 3)) < (t563.length : Int) then ((spileref16_Number.f k2 (rdOf ByteArray.empty t563 (wrap64 (x10_2 + 3))) 15).bind fun bt580 => (if 0 ≤ x10_2 then (if (rdOf ByteArray.empty t563 x10_2).toList = ([102, 105, 108, 108] : List UInt8) then (if 0 ≤ (wrap64 (x10_2 + 2)) then (if (wrap64 (x10_2 + 2)) < (t563.length : Int) then (if (rdOf ByteArray.empty t563 (wrap64 (x10_2 + 2))).toList = ([97, 108, 99, 111, 104, 111, 108] : List UInt8) then (if bt577.2 = true then (if bt580.2 = true then (if x569003_2.length < 8796093022208 then (spileref22_read.l0 k2 t563 t571 t574 (wrap64 (x10_2 + 4)) t570 0 t573 (x569003_2 ++ [(⟨bt577.1, bt580.1⟩ : S35)])) else (none)) else (some (0, 0, 0, ([] : List (S35)), false))) else (some (0, 0, 0, ([] : List (S35)), false))) else (some (0, 0, 0, ([] : List (S35)), false))) else (none)) else (none)) else (some (0, 0, 0, ([] : List (S35)), false))) else (none))) else (none)) else (none))) else (none)) else (none)) = some (r1, r2, r3, r4, r5) := by first | (rw [hji26] at H; exact H) | (simp only [hji26] at H ⊢; exact H)
         have hji26w : (IntKind.i64.wrap (x10_2 + 1)) = ji26 := (i64_w _).trans hji26
         by_cases c27 : 0 ≤ (ji26)
         ·
          rw [if_pos c27] at H
          have c27b0 : decide (0 ≤ (ji26)) = true := decide_eq_true c27
          clear c27
          by_cases c28 : (ji26) < (t563.length : Int)
          ·
           rw [if_pos c28] at H
           have c28b0 : decide ((ji26) < (t563.length : Int)) = true := decide_eq_true c28
           clear c28
           replace H := Option.bind_eq_some_iff.mp H
           obtain ⟨⟨t577, t578⟩, A290, H⟩ := H
           replace H : (if 0 ≤ (wrap64 (x10_2 + 3)) then (if (wrap64 (x10_2 + 3)) < (t563.length : Int) then ((spileref16_Number.f k2 (rdOf ByteArray.empty t563 (wrap64 (x10_2 + 3))) 15).bind fun bt580 => (if 0 ≤ x10_2 then (if (rdOf ByteArray.empty t563 x10_2).toList = ([102, 105, 108, 108] : List UInt8) then (if 0 ≤ (wrap64 (x10_2 + 2)) then (if (wrap64 (x10_2 + 2)) < (t563.length : Int) then (if (rdOf ByteArray.empty t563 (wrap64 (x10_2 + 2))).toList = ([97, 108, 99, 111, 104, 111, 108] : List UInt8) then (if t578 = true then (if bt580.2 = true then (if x569003_2.length < 8796093022208 then (spileref22_read.l0 k2 t563 t571 t574 (wrap64 (x10_2 + 4)) t570 0 t573 (x569003_2 ++ [(⟨t577, bt580.1⟩ : S35)])) else (none)) else (some (0, 0, 0, ([] : List (S35)), false))) else (some (0, 0, 0, ([] : List (S35)), false))) else (some (0, 0, 0, ([] : List (S35)), false))) else (none)) else (none)) else (some (0, 0, 0, ([] : List (S35)), false))) else (none))) else (none)) else (none)) = some (r1, r2, r3, r4, r5) := H
           have A29 := Aside0.mk A290
           clear A290
           obtain ⟨ji30, hji30⟩ : ∃ j_ : Int, (wrap64 (x10_2 + 3)) = j_ := ⟨_, rfl⟩
           replace H : (if 0 ≤ (ji30) then (if (ji30) < (t563.length : Int) then ((spileref16_Number.f k2 (rdOf ByteArray.empty t563 (ji30)) 15).bind fun bt580 => (if 0 ≤ x10_2 then (if (rdOf ByteArray.empty t563 x10_2).toList = ([102, 105, 108, 108] : List UInt8) then (if 0 ≤ (wrap64 (x10_2 + 2)) then (if (wrap64 (x10_2 + 2)) < (t563.length : Int) then (if (rdOf ByteArray.empty t563 (wrap64 (x10_2 + 2))).toList = ([97, 108, 99, 111, 104, 111, 108] : List UInt8) then (if t578 = true then (if bt580.2 = true then (if x569003_2.length < 8796093022208 then (spileref22_read.l0 k2 t563 t571 t574 (wrap64 (x10_2 + 4)) t570 0 t573 (x569003_2 ++ [(⟨t577, bt580.1⟩ : S35)])) else (none)) else (some (0, 0, 0, ([] : List (S35)), false))) else (some (0, 0, 0, ([] : List (S35)), false))) else (some (0, 0, 0, ([] : List (S35)), false))) else (none)) else (none)) else (some (0, 0, 0, ([] : List (S35)), false))) else (none))) else (none)) else (none)) = some (r1, r2, r3, r4, r5) := by first | (rw [hji30] at H; exact H) | (simp only [hji30] at H ⊢; exact H)
           (try rw [hji30] at A29)
           have hji30w : (IntKind.i64.wrap (x10_2 + 3)) = ji30 := (i64_w _).trans hji30
           by_cases c31 : 0 ≤ (ji30)
           ·
            rw [if_pos c31] at H
            have c31b0 : decide (0 ≤ (ji30)) = true := decide_eq_true c31
            clear c31
            by_cases c32 : (ji30) < (t563.length : Int)
            ·
             rw [if_pos c32] at H
             have c32b0 : decide ((ji30) < (t563.length : Int)) = true := decide_eq_true c32
             clear c32
             replace H := Option.bind_eq_some_iff.mp H
             obtain ⟨⟨t580, t581⟩, A330, H⟩ := H
             replace H : (if 0 ≤ x10_2 then (if (rdOf ByteArray.empty t563 x10_2).toList = ([102, 105, 108, 108] : List UInt8) then (if 0 ≤ (wrap64 (x10_2 + 2)) then (if (wrap64 (x10_2 + 2)) < (t563.length : Int) then (if (rdOf ByteArray.empty t563 (wrap64 (x10_2 + 2))).toList = ([97, 108, 99, 111, 104, 111, 108] : List UInt8) then (if t578 = true then (if t581 = true then (if x569003_2.length < 8796093022208 then (spileref22_read.l0 k2 t563 t571 t574 (wrap64 (x10_2 + 4)) t570 0 t573 (x569003_2 ++ [(⟨t577, t580⟩ : S35)])) else (none)) else (some (0, 0, 0, ([] : List (S35)), false))) else (some (0, 0, 0, ([] : List (S35)), false))) else (some (0, 0, 0, ([] : List (S35)), false))) else (none)) else (none)) else (some (0, 0, 0, ([] : List (S35)), false))) else (none)) = some (r1, r2, r3, r4, r5) := H
             have A33 := Aside0.mk A330
             clear A330
             by_cases c34 : 0 ≤ x10_2
             ·
              rw [if_pos c34] at H
              have c34b0 : decide (0 ≤ x10_2) = true := decide_eq_true c34
              clear c34
              by_cases c35 : (rdOf ByteArray.empty t563 x10_2).toList = ([102, 105, 108, 108] : List UInt8)
              ·
               rw [if_pos c35] at H
               have c35b0 : ((rdOf ByteArray.empty t563 x10_2).toList == ([102, 105, 108, 108] : List UInt8)) = true := beq_iff_eq.mpr c35
               have c35b1 : ((rdOf ByteArray.empty t563 x10_2).toList != ([102, 105, 108, 108] : List UInt8)) = false := bne_eq_false_iff_eq.mpr c35
               clear c35
               obtain ⟨ji36, hji36⟩ : ∃ j_ : Int, (wrap64 (x10_2 + 2)) = j_ := ⟨_, rfl⟩
               replace H : (if 0 ≤ (ji36) then (if (ji36) < (t563.length : Int) then (if (rdOf ByteArray.empty t563 (ji36)).toList = ([97, 108, 99, 111, 104, 111, 108] : List UInt8) then (if t578 = true then (if t581 = true then (if x569003_2.length < 8796093022208 then (spileref22_read.l0 k2 t563 t571 t574 (wrap64 (x10_2 + 4)) t570 0 t573 (x569003_2 ++ [(⟨t577, t580⟩ : S35)])) else (none)) else (some (0, 0, 0, ([] : List (S35)), false))) else (some (0, 0, 0, ([] : List (S35)), false))) else (some (0, 0, 0, ([] : List (S35)), false))) else (none)) else (none)) = some (r1, r2, r3, r4, r5) := by first | (rw [hji36] at H; exact H) | (simp only [hji36] at H ⊢; exact H)
               (try rw [hji36] at A29)
               (try rw [hji36] at A33)
               have hji36w : (IntKind.i64.wrap (x10_2 + 2)) = ji36 := (i64_w _).trans hji36
               by_cases c37 : 0 ≤ (ji36)
               ·
                rw [if_pos c37] at H
                have c37b0 : decide (0 ≤ (ji36)) = true := decide_eq_true c37
                clear c37
                by_cases c38 : (ji36) < (t563.length : Int)
                ·
                 rw [if_pos c38] at H
                 have c38b0 : decide ((ji36) < (t563.length : Int)) = true := decide_eq_true c38
                 clear c38
                 by_cases c39 : (rdOf ByteArray.empty t563 (ji36)).toList = ([97, 108, 99, 111, 104, 111, 108] : List UInt8)
                 ·
                  rw [if_pos c39] at H
                  have c39b0 : ((rdOf ByteArray.empty t563 (ji36)).toList == ([97, 108, 99, 111, 104, 111, 108] : List UInt8)) = true := beq_iff_eq.mpr c39
                  have c39b1 : ((rdOf ByteArray.empty t563 (ji36)).toList != ([97, 108, 99, 111, 104, 111, 108] : List UInt8)) = false := bne_eq_false_iff_eq.mpr c39
                  clear c39
                  by_cases c40 : t578 = true
                  ·
                   subst c40
                   replace H : (if t581 = true then (if x569003_2.length < 8796093022208 then (spileref22_read.l0 k2 t563 t571 t574 (wrap64 (x10_2 + 4)) t570 0 t573 (x569003_2 ++ [(⟨t577, t580⟩ : S35)])) else (none)) else (some (0, 0, 0, ([] : List (S35)), false))) = some (r1, r2, r3, r4, r5) := by rw [if_pos rfl] at H; exact H
                   by_cases c41 : t581 = true
                   ·
                    subst c41
                    replace H : (if x569003_2.length < 8796093022208 then (spileref22_read.l0 k2 t563 t571 t574 (wrap64 (x10_2 + 4)) t570 0 t573 (x569003_2 ++ [(⟨t577, t580⟩ : S35)])) else (none)) = some (r1, r2, r3, r4, r5) := by rw [if_pos rfl] at H; exact H
                    by_cases c42 : x569003_2.length < 8796093022208
                    ·
                     rw [if_pos c42] at H
                     have LMc42 := Aside0.mk c42
                     clear c42
                     obtain ⟨y584, hy584⟩ : ∃ y_ : List (S35), y_ = (x569003_2 ++ [(⟨t577, t580⟩ : S35)]) := ⟨_, rfl⟩
                     replace H : (spileref22_read.l0 k2 t563 t571 t574 (wrap64 (x10_2 + 4)) t570 0 t573 y584) = some (r1, r2, r3, r4, r5) := by first | (rw [hy584]; with_reducible exact H) | (have H2_ := (Option.bind_some _ _).symm.trans H; rw [hy584]; with_reducible exact H2_) | (have H2_ := (Option.bind_some _ _).symm.trans H; with_reducible exact H2_) | with_reducible exact H | (rw [hy584]; exact H) | exact H
                     have Ny584 := Aside0.mk hy584
                     clear hy584
                     have H' := Aside0.mk H
                     clear H
                     have p576 : 0 ≤ ((ji26) : Int) := of_decide_eq_true (by first | (with_reducible assumption) | assumption)
                     have q576 : (ji26) < (t563.length : Int) := of_decide_eq_true (by first | (with_reducible assumption) | assumption)
                     obtain ⟨ad576, e576, hx576_0⟩ := Kd.at_string (Kd.R_reads' HO_4.out).2.2 (ji26) p576 q576
                     obtain rfl : ad569 = ad576 := (by injection e576)
                     replace p576 := eq_true p576
                     replace q576 := eq_true q576
                     go_wp2_with (first | ((with_reducible refine gate_callee (f := 68) rfl ?_); refine goesL_ (some 71) rfl rfl Tryd.func68 (by kernel_rfl) rfl #[.string (rdOf ByteArray.empty t563 (ji26)), .int .i64 15] rfl (by (try simp only [List.map_toArray, List.map_cons, List.map_nil]); first | done | (simp only [hji26]; rfl) | rfl | (simp only [List.length_drop, List.length_take]; rfl)) ?_; (with_reducible refine (spileref16_Number.calls k2 (rdOf ByteArray.empty t563 (ji26)) 15 t577 true _ A29.out).mono ?_); rintro e w' ⟨rfl, ⟨nd, rfl⟩⟩; refine ⟨_, rfl, ?_⟩; (try (rw [drewN_self wr]; generalize hq_ : World.drewN wr _ = wr; have n0_ : Aside0 (Kd.R Kd.string 9 wr w.heap.size (fun _ => True) (.slice (some ad569) t563.length co24) t563) := ⟨by rw [← hq_]; exact (by (with_reducible repeat (first | apply Kd.R_alloc | apply Kd.R_drewN | apply Kd.R_drew)); exact HO_4.out)⟩; have n1_ : Aside0 (Kd.R k35 35 wr w.heap.size (fun _ => True) u569003 x569003_2) := ⟨by rw [← hq_]; exact (by (with_reducible repeat (first | apply Kd.R_alloc | apply Kd.R_drewN | apply Kd.R_drew)); exact HO_569003.out)⟩; have n2_ : Aside0 (wr.heap[gb562]? = some (.cells #[.int .i64 x563000_2, .int .i64 x563001_2, .int .i64 x563002_2, .slice none 0 0] 33 (0, 0))) := ⟨by rw [← hq_]; exact (by (with_reducible repeat (first | refine blk_drewN ?_ _ | refine blk_drew ?_ | refine blk_alloc ?_ _)); exact BK562.out)⟩; have n3_ : Aside0 (wr.heap[gb568]? = some (.cells #[.int .i64 t570, .int .i64 0, .int .i64 t573, u569003] 33 (0, 0))) := ⟨by rw [← hq_]; exact (by (with_reducible repeat (first | refine blk_drewN ?_ _ | refine blk_drew ?_ | refine blk_alloc ?_ _)); exact BK568.out)⟩; have n4_ : Aside0 (Below w.heap.size w wr) := ⟨by rw [← hq_]; exact (by repeat (with_reducible first | exact HB.out | apply below_alloc | apply pw_below_drewN | apply below_drew1 | refine below_set ?_ GE562.out | refine below_set ?_ GE568.out))⟩; clear HO_4 HO_569003 BK562 BK568 HB hq_; have HO_4 := n0_; have HO_569003 := n1_; have BK562 := n2_; have BK568 := n3_; have HB := n4_; clear n0_ n1_ n2_ n3_ n4_)); have p579 : 0 ≤ ((ji30) : Int) := of_decide_eq_true (by first | (with_reducible assumption) | assumption); have q579 : (ji30) < (t563.length : Int) := of_decide_eq_true (by first | (with_reducible assumption) | assumption); obtain ⟨ad579, e579, hx579_0⟩ := Kd.at_string (Kd.R_reads' HO_4.out).2.2 (ji30) p579 q579; obtain rfl : ad569 = ad579 := (by injection e579); replace p579 := eq_true p579; replace q579 := eq_true q579) | ((with_reducible refine gate_callee (f := 68) rfl ?_); refine goesL_ (some 80) rfl rfl Tryd.func68 (by kernel_rfl) rfl #[.string (rdOf ByteArray.empty t563 (ji30)), .int .i64 15] rfl (by (try simp only [List.map_toArray, List.map_cons, List.map_nil]); first | done | (simp only [hji30]; rfl) | rfl | (simp only [List.length_drop, List.length_take]; rfl)) ?_; (with_reducible refine (spileref16_Number.calls k2 (rdOf ByteArray.empty t563 (ji30)) 15 t580 true _ A33.out).mono ?_); rintro e w' ⟨rfl, ⟨nd, rfl⟩⟩; refine ⟨_, rfl, ?_⟩; (try (rw [drewN_self wr]; generalize hq_ : World.drewN wr _ = wr; have n0_ : Aside0 (Kd.R Kd.string 9 wr w.heap.size (fun _ => True) (.slice (some ad569) t563.length co24) t563) := ⟨by rw [← hq_]; exact (by (with_reducible repeat (first | apply Kd.R_alloc | apply Kd.R_drewN | apply Kd.R_drew)); exact HO_4.out)⟩; have n1_ : Aside0 (Kd.R k35 35 wr w.heap.size (fun _ => True) u569003 x569003_2) := ⟨by rw [← hq_]; exact (by (with_reducible repeat (first | apply Kd.R_alloc | apply Kd.R_drewN | apply Kd.R_drew)); exact HO_569003.out)⟩; have n2_ : Aside0 (wr.heap[gb562]? = some (.cells #[.int .i64 x563000_2, .int .i64 x563001_2, .int .i64 x563002_2, .slice none 0 0] 33 (0, 0))) := ⟨by rw [← hq_]; exact (by (with_reducible repeat (first | refine blk_drewN ?_ _ | refine blk_drew ?_ | refine blk_alloc ?_ _)); exact BK562.out)⟩; have n3_ : Aside0 (wr.heap[gb568]? = some (.cells #[.int .i64 t570, .int .i64 0, .int .i64 t573, u569003] 33 (0, 0))) := ⟨by rw [← hq_]; exact (by (with_reducible repeat (first | refine blk_drewN ?_ _ | refine blk_drew ?_ | refine blk_alloc ?_ _)); exact BK568.out)⟩; have n4_ : Aside0 (Below w.heap.size w wr) := ⟨by rw [← hq_]; exact (by repeat (with_reducible first | exact HB.out | apply below_alloc | apply pw_below_drewN | apply below_drew1 | refine below_set ?_ GE562.out | refine below_set ?_ GE568.out))⟩; clear HO_4 HO_569003 BK562 BK568 HB hq_; have HO_4 := n0_; have HO_569003 := n1_; have BK562 := n2_; have BK568 := n3_; have HB := n4_; clear n0_ n1_ n2_ n3_ n4_)); have p582 : 0 ≤ (x10_2 : Int) := of_decide_eq_true (by first | (with_reducible assumption) | assumption); have q582 : x10_2 < (t563.length : Int) := of_decide_eq_true (by first | (with_reducible assumption) | assumption); obtain ⟨ad582, e582, hx582_0⟩ := Kd.at_string (Kd.R_reads' HO_4.out).2.2 x10_2 p582 q582; obtain rfl : ad569 = ad582 := (by injection e582); replace p582 := eq_true p582; replace q582 := eq_true q582; have p583 : 0 ≤ ((ji36) : Int) := of_decide_eq_true (by first | (with_reducible assumption) | assumption); have q583 : (ji36) < (t563.length : Int) := of_decide_eq_true (by first | (with_reducible assumption) | assumption); obtain ⟨ad583, e583, hx583_0⟩ := Kd.at_string (Kd.R_reads' HO_4.out).2.2 (ji36) p583 q583; obtain rfl : ad569 = ad583 := (by injection e583); replace p583 := eq_true p583; replace q583 := eq_true q583; have hnb43 := NB568_562.out; have hnc43 := NB562_568.out; have hcz44_0 : wr.cell? ⟨gb568, 0, none⟩ = some (.int .i64 t570) := (blk_cell BK568.out 0).trans rfl; have hcz44_1 : wr.cell? ⟨gb568, 1, none⟩ = some (.int .i64 0) := (blk_cell BK568.out 1).trans rfl; have hcz44_2 : wr.cell? ⟨gb568, 2, none⟩ = some (.int .i64 t573) := (blk_cell BK568.out 2).trans rfl; have hcz44_3 : wr.cell? ⟨gb568, 3, none⟩ = some (u569003) := (blk_cell BK568.out 3).trans rfl; have hfz44_0 := blk_frozen BK568.out 0; have hfz44_1 := blk_frozen BK568.out 1; have hfz44_2 := blk_frozen BK568.out 2; have hfz44_3 := blk_frozen BK568.out 3) | ((with_reducible refine gate_builtin (b := .append) (xs := #[.tmp 106, .tmp 110]) rfl ?_); (try (refine gate_guard (by rfl) ?_; dsimp only)); at_builtin; refine Kd.R_append k35 (w0 := w) w.heap.size rfl (.tmp 106) (.tmp 110) 31 35 (.agg #[(.int .i64 0), (.int .i64 0)]) 16 rfl Tryd.underlying31 info35 rfl (by decide) (by omega) u569003 x569003_2 (⟨t577, t580⟩ : S35) [.int .i64 t577, .int .i64 t580] (fun _ => True) (fun _ => False) rfl rfl ?aP (fun _ hk => hk.elim) ?aF ?aO ?aB ?aS ?aL ?_; (case aP => exact k35_mkM _ _ _ (⟨t577, t580⟩ : S35)); (case aB => exact (by repeat (with_reducible first | exact HB.out | apply below_alloc | apply pw_below_drewN | apply below_drew1 | refine below_set ?_ GE562.out | refine below_set ?_ GE568.out))); (case aF => exact (fun _ _ => trivial)); (case aO => exact (by (with_reducible repeat (first | apply Kd.R_alloc | apply Kd.R_drewN | apply Kd.R_drew)); exact HO_569003.out)); (case aS => exact (below_size (by repeat (with_reducible first | exact HB.out | apply below_alloc | apply pw_below_drewN | apply below_drew1 | refine below_set ?_ GE562.out | refine below_set ?_ GE568.out)))); (case aL => have := LMc42.out; omega); intro v585 w45 ho hb hg hat; rw [← Ny584.out] at ho; have n0_ := Aside0.mk (Kd.R_over' (by (with_reducible repeat (first | apply Kd.R_alloc | apply Kd.R_drewN | apply Kd.R_drew)); exact HO_4.out) (Kd.R_typed (by (with_reducible repeat (first | apply Kd.R_alloc | apply Kd.R_drewN | apply Kd.R_drew)); exact HO_569003.out)) (by decide) hg); have n1_ := Aside0.mk (blk_grown (g := gb562) (o := .cells #[.int .i64 x563000_2, .int .i64 x563001_2, .int .i64 x563002_2, .slice none 0 0] 33 (0, 0)) (by (with_reducible repeat (first | refine blk_drewN ?_ _ | refine blk_drew ?_ | refine blk_alloc ?_ _)); exact BK562.out) hg (Kd.R_ne HO_569003.out BK562.out (by decide))); have n2_ := Aside0.mk (blk_grown (g := gb568) (o := .cells #[.int .i64 t570, .int .i64 0, .int .i64 t573, u569003] 33 (0, 0)) (by (with_reducible repeat (first | refine blk_drewN ?_ _ | refine blk_drew ?_ | refine blk_alloc ?_ _)); exact BK568.out) hg (Kd.R_ne HO_569003.out BK568.out (by decide))); have n3_ := Aside0.mk (hb); have n4_ := Aside0.mk (ho); clear HO_4; clear BK562; clear BK568; clear HB; clear HO_569003; have HO_4 := n0_; have BK562 := n1_; have BK568 := n2_; have HB := n3_; have HO586 := n4_; clear n0_ n1_ n2_ n3_ n4_; clear ho hb hg hat; obtain ⟨Ao46, co46, eo46⟩ := Kd.R_slice HO586.out; subst eo46; have hcz47_0 : w45.cell? ⟨gb568, 0, none⟩ = some (.int .i64 t570) := (blk_cell BK568.out 0).trans rfl; have hcz47_1 : w45.cell? ⟨gb568, 1, none⟩ = some (.int .i64 0) := (blk_cell BK568.out 1).trans rfl; have hcz47_2 : w45.cell? ⟨gb568, 2, none⟩ = some (.int .i64 t573) := (blk_cell BK568.out 2).trans rfl; have hcz47_3 : w45.cell? ⟨gb568, 3, none⟩ = some (u569003) := (blk_cell BK568.out 3).trans rfl; have hfz47_0 := blk_frozen BK568.out 0; have hfz47_1 := blk_frozen BK568.out 1; have hfz47_2 := blk_frozen BK568.out 2; have hfz47_3 := blk_frozen BK568.out 3))
                     go_roundg k2
                     case measure => have := HJ2.out; have := HK2.out; omega
                     case rel => exact ⟨(wrap64 (x10_2 + 4)), (x563000_2), (x563001_2), (x563002_2), (y584), (.slice Ao46 y584.length co46), (by first | rfl | (simp; done) | (simp [*]; done)), H', ⟨by have := HJ2.out; have := HK2.out; omega⟩, ⟨by (with_reducible repeat (first | apply Kd.R_alloc | apply Kd.R_drewN | apply Kd.R_drew)); exact Kd.R_mono (Kd.R_far (p := ⟨gb568, 3, none⟩) (Kd.R_types HO_4.out BK568.out (by decide)) (fun _ hk => hk.2) (.slice Ao46 y584.length co46)) (fun _ hk => trivial)⟩, ⟨by (with_reducible repeat (first | apply Kd.R_alloc | apply Kd.R_drewN | apply Kd.R_drew)); exact Kd.R_mono (Kd.R_far (p := ⟨gb568, 3, none⟩) (Kd.R_types HO586.out BK568.out (by decide)) (fun _ hk => hk.2) (.slice Ao46 y584.length co46)) (fun _ hk => trivial)⟩, ⟨by (with_reducible repeat (first | refine blk_drewN ?_ _ | refine blk_drew ?_ | refine blk_alloc ?_ _)); refine blk_far ?_ NB562_568.out _; (with_reducible repeat (first | refine blk_drewN ?_ _ | refine blk_drew ?_ | refine blk_alloc ?_ _)); exact BK562.out⟩, ⟨by (with_reducible repeat (first | refine blk_drewN ?_ _ | refine blk_drew ?_ | refine blk_alloc ?_ _)); refine blk_put (cs := #[.int .i64 t570, .int .i64 0, .int .i64 t573, u569003]) ?_ 3 _ rfl; (with_reducible repeat (first | refine blk_drewN ?_ _ | refine blk_drew ?_ | refine blk_alloc ?_ _)); exact BK568.out⟩, ⟨by repeat (first | (with_reducible first | exact HB.out | apply below_alloc | apply pw_below_drewN | apply below_drew1 | refine below_set ?_ GE562.out | refine below_set ?_ GE568.out) | exact HB.out)⟩⟩
                    ·
                     rw [if_neg c42] at H
                     exact absurd H (by simp)
                   ·
                    replace c41 := Bool.eq_false_iff.mpr c41
                    subst c41
                    replace H : (some (0, 0, 0, ([] : List (S35)), false)) = some (r1, r2, r3, r4, r5) := by rw [if_neg (show ¬ (false = true) by decide)] at H; exact H
                    simp only [Option.some.injEq, Prod.mk.injEq] at H
                    obtain ⟨rfl, rfl, rfl, rfl, rfl⟩ := H
                    have p576 : 0 ≤ ((ji26) : Int) := of_decide_eq_true (by first | (with_reducible assumption) | assumption)
                    have q576 : (ji26) < (t563.length : Int) := of_decide_eq_true (by first | (with_reducible assumption) | assumption)
                    obtain ⟨ad576, e576, hx576_0⟩ := Kd.at_string (Kd.R_reads' HO_4.out).2.2 (ji26) p576 q576
                    obtain rfl : ad569 = ad576 := (by injection e576)
                    replace p576 := eq_true p576
                    replace q576 := eq_true q576
                    go_wp2_with (first | ((with_reducible refine gate_callee (f := 68) rfl ?_); refine goesL_ (some 71) rfl rfl Tryd.func68 (by kernel_rfl) rfl #[.string (rdOf ByteArray.empty t563 (ji26)), .int .i64 15] rfl (by (try simp only [List.map_toArray, List.map_cons, List.map_nil]); first | done | (simp only [hji26]; rfl) | rfl | (simp only [List.length_drop, List.length_take]; rfl)) ?_; (with_reducible refine (spileref16_Number.calls k2 (rdOf ByteArray.empty t563 (ji26)) 15 t577 true _ A29.out).mono ?_); rintro e w' ⟨rfl, ⟨nd, rfl⟩⟩; refine ⟨_, rfl, ?_⟩; (try (rw [drewN_self wr]; generalize hq_ : World.drewN wr _ = wr; have n0_ : Aside0 (Kd.R Kd.string 9 wr w.heap.size (fun _ => True) (.slice (some ad569) t563.length co24) t563) := ⟨by rw [← hq_]; exact (by (with_reducible repeat (first | apply Kd.R_alloc | apply Kd.R_drewN | apply Kd.R_drew)); exact HO_4.out)⟩; have n1_ : Aside0 (Kd.R k35 35 wr w.heap.size (fun _ => True) u569003 x569003_2) := ⟨by rw [← hq_]; exact (by (with_reducible repeat (first | apply Kd.R_alloc | apply Kd.R_drewN | apply Kd.R_drew)); exact HO_569003.out)⟩; have n2_ : Aside0 (wr.heap[gb562]? = some (.cells #[.int .i64 x563000_2, .int .i64 x563001_2, .int .i64 x563002_2, .slice none 0 0] 33 (0, 0))) := ⟨by rw [← hq_]; exact (by (with_reducible repeat (first | refine blk_drewN ?_ _ | refine blk_drew ?_ | refine blk_alloc ?_ _)); exact BK562.out)⟩; have n3_ : Aside0 (wr.heap[gb568]? = some (.cells #[.int .i64 t570, .int .i64 0, .int .i64 t573, u569003] 33 (0, 0))) := ⟨by rw [← hq_]; exact (by (with_reducible repeat (first | refine blk_drewN ?_ _ | refine blk_drew ?_ | refine blk_alloc ?_ _)); exact BK568.out)⟩; have n4_ : Aside0 (Below w.heap.size w wr) := ⟨by rw [← hq_]; exact (by repeat (with_reducible first | exact HB.out | apply below_alloc | apply pw_below_drewN | apply below_drew1 | refine below_set ?_ GE562.out | refine below_set ?_ GE568.out))⟩; clear HO_4 HO_569003 BK562 BK568 HB hq_; have HO_4 := n0_; have HO_569003 := n1_; have BK562 := n2_; have BK568 := n3_; have HB := n4_; clear n0_ n1_ n2_ n3_ n4_)); have p579 : 0 ≤ ((ji30) : Int) := of_decide_eq_true (by first | (with_reducible assumption) | assumption); have q579 : (ji30) < (t563.length : Int) := of_decide_eq_true (by first | (with_reducible assumption) | assumption); obtain ⟨ad579, e579, hx579_0⟩ := Kd.at_string (Kd.R_reads' HO_4.out).2.2 (ji30) p579 q579; obtain rfl : ad569 = ad579 := (by injection e579); replace p579 := eq_true p579; replace q579 := eq_true q579) | ((with_reducible refine gate_callee (f := 68) rfl ?_); refine goesL_ (some 80) rfl rfl Tryd.func68 (by kernel_rfl) rfl #[.string (rdOf ByteArray.empty t563 (ji30)), .int .i64 15] rfl (by (try simp only [List.map_toArray, List.map_cons, List.map_nil]); first | done | (simp only [hji30]; rfl) | rfl | (simp only [List.length_drop, List.length_take]; rfl)) ?_; (with_reducible refine (spileref16_Number.calls k2 (rdOf ByteArray.empty t563 (ji30)) 15 t580 false _ A33.out).mono ?_); rintro e w' ⟨rfl, ⟨nd, rfl⟩⟩; refine ⟨_, rfl, ?_⟩; (try (rw [drewN_self wr]; generalize hq_ : World.drewN wr _ = wr; have n0_ : Aside0 (Kd.R Kd.string 9 wr w.heap.size (fun _ => True) (.slice (some ad569) t563.length co24) t563) := ⟨by rw [← hq_]; exact (by (with_reducible repeat (first | apply Kd.R_alloc | apply Kd.R_drewN | apply Kd.R_drew)); exact HO_4.out)⟩; have n1_ : Aside0 (Kd.R k35 35 wr w.heap.size (fun _ => True) u569003 x569003_2) := ⟨by rw [← hq_]; exact (by (with_reducible repeat (first | apply Kd.R_alloc | apply Kd.R_drewN | apply Kd.R_drew)); exact HO_569003.out)⟩; have n2_ : Aside0 (wr.heap[gb562]? = some (.cells #[.int .i64 x563000_2, .int .i64 x563001_2, .int .i64 x563002_2, .slice none 0 0] 33 (0, 0))) := ⟨by rw [← hq_]; exact (by (with_reducible repeat (first | refine blk_drewN ?_ _ | refine blk_drew ?_ | refine blk_alloc ?_ _)); exact BK562.out)⟩; have n3_ : Aside0 (wr.heap[gb568]? = some (.cells #[.int .i64 t570, .int .i64 0, .int .i64 t573, u569003] 33 (0, 0))) := ⟨by rw [← hq_]; exact (by (with_reducible repeat (first | refine blk_drewN ?_ _ | refine blk_drew ?_ | refine blk_alloc ?_ _)); exact BK568.out)⟩; have n4_ : Aside0 (Below w.heap.size w wr) := ⟨by rw [← hq_]; exact (by repeat (with_reducible first | exact HB.out | apply below_alloc | apply pw_below_drewN | apply below_drew1 | refine below_set ?_ GE562.out | refine below_set ?_ GE568.out))⟩; clear HO_4 HO_569003 BK562 BK568 HB hq_; have HO_4 := n0_; have HO_569003 := n1_; have BK562 := n2_; have BK568 := n3_; have HB := n4_; clear n0_ n1_ n2_ n3_ n4_)); have p582 : 0 ≤ (x10_2 : Int) := of_decide_eq_true (by first | (with_reducible assumption) | assumption); have q582 : x10_2 < (t563.length : Int) := of_decide_eq_true (by first | (with_reducible assumption) | assumption); obtain ⟨ad582, e582, hx582_0⟩ := Kd.at_string (Kd.R_reads' HO_4.out).2.2 x10_2 p582 q582; obtain rfl : ad569 = ad582 := (by injection e582); replace p582 := eq_true p582; replace q582 := eq_true q582; have p583 : 0 ≤ ((ji36) : Int) := of_decide_eq_true (by first | (with_reducible assumption) | assumption); have q583 : (ji36) < (t563.length : Int) := of_decide_eq_true (by first | (with_reducible assumption) | assumption); obtain ⟨ad583, e583, hx583_0⟩ := Kd.at_string (Kd.R_reads' HO_4.out).2.2 (ji36) p583 q583; obtain rfl : ad569 = ad583 := (by injection e583); replace p583 := eq_true p583; replace q583 := eq_true q583; have hnb48 := NB562_568.out; have hnc48 := NB568_562.out; have hcz49_0 : wr.cell? ⟨gb562, 0, none⟩ = some (.int .i64 x563000_2) := (blk_cell BK562.out 0).trans rfl; have hcz49_1 : wr.cell? ⟨gb562, 1, none⟩ = some (.int .i64 x563001_2) := (blk_cell BK562.out 1).trans rfl; have hcz49_2 : wr.cell? ⟨gb562, 2, none⟩ = some (.int .i64 x563002_2) := (blk_cell BK562.out 2).trans rfl; have hcz49_3 : wr.cell? ⟨gb562, 3, none⟩ = some (.slice none 0 0) := (blk_cell BK562.out 3).trans rfl; have hfz49_0 := blk_frozen BK562.out 0; have hfz49_1 := blk_frozen BK562.out 1; have hfz49_2 := blk_frozen BK562.out 2; have hfz49_3 := blk_frozen BK562.out 3))
                    refine bodyPost_ret (results_ct rfl _ _ gb562 33 #[.int .i64 0, .int .i64 0, .int .i64 0, .slice none 0 0] (0, 0) _ rfl (by (with_reducible repeat (first | refine blk_drewN ?_ _ | refine blk_drew ?_ | refine blk_alloc ?_ _)); refine blk_put (cs := #[.int .i64 0, .int .i64 0, .int .i64 0, .slice none 0 0]) ?_ 3 _ rfl; (with_reducible repeat (first | refine blk_drewN ?_ _ | refine blk_drew ?_ | refine blk_alloc ?_ _)); refine blk_put (cs := #[.int .i64 0, .int .i64 0, .int .i64 x563002_2, .slice none 0 0]) ?_ 2 _ rfl; (with_reducible repeat (first | refine blk_drewN ?_ _ | refine blk_drew ?_ | refine blk_alloc ?_ _)); refine blk_put (cs := #[.int .i64 0, .int .i64 x563001_2, .int .i64 x563002_2, .slice none 0 0]) ?_ 1 _ rfl; (with_reducible repeat (first | refine blk_drewN ?_ _ | refine blk_drew ?_ | refine blk_alloc ?_ _)); refine blk_put (cs := #[.int .i64 x563000_2, .int .i64 x563001_2, .int .i64 x563002_2, .slice none 0 0]) ?_ 0 _ rfl; (with_reducible repeat (first | refine blk_drewN ?_ _ | refine blk_drew ?_ | refine blk_alloc ?_ _)); exact BK562.out) Tryd.underlying33 rfl (by kernel_rfl)) rfl ?_
                    exact ⟨_, by first | rfl | (simp [errW_none, errW_some] <;> rfl) | (simp only [← hji26, ← hji30, ← hji36]; first | rfl | (simp [errW_none, errW_some] <;> rfl)) | (simp [*, errW_none, errW_some] <;> rfl), by first | exact Kd.R_nil _ _ _ _ _ | exact Kd.N_nil _ _ _ _ _ | exact Kd.V_nil _ _ _ _ _ | exact Kd.Q_nil _ _ _ _ _ | exact Kd.S_nil _ _ _ _ _, by repeat (first | (with_reducible first | exact HB.out | apply below_alloc | apply pw_below_drewN | apply below_drew1 | refine below_set ?_ GE562.out | refine below_set ?_ GE568.out) | exact HB.out)⟩
                  ·
                   replace c40 := Bool.eq_false_iff.mpr c40
                   subst c40
                   replace H : (some (0, 0, 0, ([] : List (S35)), false)) = some (r1, r2, r3, r4, r5) := by rw [if_neg (show ¬ (false = true) by decide)] at H; exact H
                   simp only [Option.some.injEq, Prod.mk.injEq] at H
                   obtain ⟨rfl, rfl, rfl, rfl, rfl⟩ := H
                   have p576 : 0 ≤ ((ji26) : Int) := of_decide_eq_true (by first | (with_reducible assumption) | assumption)
                   have q576 : (ji26) < (t563.length : Int) := of_decide_eq_true (by first | (with_reducible assumption) | assumption)
                   obtain ⟨ad576, e576, hx576_0⟩ := Kd.at_string (Kd.R_reads' HO_4.out).2.2 (ji26) p576 q576
                   obtain rfl : ad569 = ad576 := (by injection e576)
                   replace p576 := eq_true p576
                   replace q576 := eq_true q576
                   go_wp2_with (first | ((with_reducible refine gate_callee (f := 68) rfl ?_); refine goesL_ (some 71) rfl rfl Tryd.func68 (by kernel_rfl) rfl #[.string (rdOf ByteArray.empty t563 (ji26)), .int .i64 15] rfl (by (try simp only [List.map_toArray, List.map_cons, List.map_nil]); first | done | (simp only [hji26]; rfl) | rfl | (simp only [List.length_drop, List.length_take]; rfl)) ?_; (with_reducible refine (spileref16_Number.calls k2 (rdOf ByteArray.empty t563 (ji26)) 15 t577 false _ A29.out).mono ?_); rintro e w' ⟨rfl, ⟨nd, rfl⟩⟩; refine ⟨_, rfl, ?_⟩; (try (rw [drewN_self wr]; generalize hq_ : World.drewN wr _ = wr; have n0_ : Aside0 (Kd.R Kd.string 9 wr w.heap.size (fun _ => True) (.slice (some ad569) t563.length co24) t563) := ⟨by rw [← hq_]; exact (by (with_reducible repeat (first | apply Kd.R_alloc | apply Kd.R_drewN | apply Kd.R_drew)); exact HO_4.out)⟩; have n1_ : Aside0 (Kd.R k35 35 wr w.heap.size (fun _ => True) u569003 x569003_2) := ⟨by rw [← hq_]; exact (by (with_reducible repeat (first | apply Kd.R_alloc | apply Kd.R_drewN | apply Kd.R_drew)); exact HO_569003.out)⟩; have n2_ : Aside0 (wr.heap[gb562]? = some (.cells #[.int .i64 x563000_2, .int .i64 x563001_2, .int .i64 x563002_2, .slice none 0 0] 33 (0, 0))) := ⟨by rw [← hq_]; exact (by (with_reducible repeat (first | refine blk_drewN ?_ _ | refine blk_drew ?_ | refine blk_alloc ?_ _)); exact BK562.out)⟩; have n3_ : Aside0 (wr.heap[gb568]? = some (.cells #[.int .i64 t570, .int .i64 0, .int .i64 t573, u569003] 33 (0, 0))) := ⟨by rw [← hq_]; exact (by (with_reducible repeat (first | refine blk_drewN ?_ _ | refine blk_drew ?_ | refine blk_alloc ?_ _)); exact BK568.out)⟩; have n4_ : Aside0 (Below w.heap.size w wr) := ⟨by rw [← hq_]; exact (by repeat (with_reducible first | exact HB.out | apply below_alloc | apply pw_below_drewN | apply below_drew1 | refine below_set ?_ GE562.out | refine below_set ?_ GE568.out))⟩; clear HO_4 HO_569003 BK562 BK568 HB hq_; have HO_4 := n0_; have HO_569003 := n1_; have BK562 := n2_; have BK568 := n3_; have HB := n4_; clear n0_ n1_ n2_ n3_ n4_)); have p579 : 0 ≤ ((ji30) : Int) := of_decide_eq_true (by first | (with_reducible assumption) | assumption); have q579 : (ji30) < (t563.length : Int) := of_decide_eq_true (by first | (with_reducible assumption) | assumption); obtain ⟨ad579, e579, hx579_0⟩ := Kd.at_string (Kd.R_reads' HO_4.out).2.2 (ji30) p579 q579; obtain rfl : ad569 = ad579 := (by injection e579); replace p579 := eq_true p579; replace q579 := eq_true q579) | ((with_reducible refine gate_callee (f := 68) rfl ?_); refine goesL_ (some 80) rfl rfl Tryd.func68 (by kernel_rfl) rfl #[.string (rdOf ByteArray.empty t563 (ji30)), .int .i64 15] rfl (by (try simp only [List.map_toArray, List.map_cons, List.map_nil]); first | done | (simp only [hji30]; rfl) | rfl | (simp only [List.length_drop, List.length_take]; rfl)) ?_; (with_reducible refine (spileref16_Number.calls k2 (rdOf ByteArray.empty t563 (ji30)) 15 t580 t581 _ A33.out).mono ?_); rintro e w' ⟨rfl, ⟨nd, rfl⟩⟩; refine ⟨_, rfl, ?_⟩; (try (rw [drewN_self wr]; generalize hq_ : World.drewN wr _ = wr; have n0_ : Aside0 (Kd.R Kd.string 9 wr w.heap.size (fun _ => True) (.slice (some ad569) t563.length co24) t563) := ⟨by rw [← hq_]; exact (by (with_reducible repeat (first | apply Kd.R_alloc | apply Kd.R_drewN | apply Kd.R_drew)); exact HO_4.out)⟩; have n1_ : Aside0 (Kd.R k35 35 wr w.heap.size (fun _ => True) u569003 x569003_2) := ⟨by rw [← hq_]; exact (by (with_reducible repeat (first | apply Kd.R_alloc | apply Kd.R_drewN | apply Kd.R_drew)); exact HO_569003.out)⟩; have n2_ : Aside0 (wr.heap[gb562]? = some (.cells #[.int .i64 x563000_2, .int .i64 x563001_2, .int .i64 x563002_2, .slice none 0 0] 33 (0, 0))) := ⟨by rw [← hq_]; exact (by (with_reducible repeat (first | refine blk_drewN ?_ _ | refine blk_drew ?_ | refine blk_alloc ?_ _)); exact BK562.out)⟩; have n3_ : Aside0 (wr.heap[gb568]? = some (.cells #[.int .i64 t570, .int .i64 0, .int .i64 t573, u569003] 33 (0, 0))) := ⟨by rw [← hq_]; exact (by (with_reducible repeat (first | refine blk_drewN ?_ _ | refine blk_drew ?_ | refine blk_alloc ?_ _)); exact BK568.out)⟩; have n4_ : Aside0 (Below w.heap.size w wr) := ⟨by rw [← hq_]; exact (by repeat (with_reducible first | exact HB.out | apply below_alloc | apply pw_below_drewN | apply below_drew1 | refine below_set ?_ GE562.out | refine below_set ?_ GE568.out))⟩; clear HO_4 HO_569003 BK562 BK568 HB hq_; have HO_4 := n0_; have HO_569003 := n1_; have BK562 := n2_; have BK568 := n3_; have HB := n4_; clear n0_ n1_ n2_ n3_ n4_)); have p582 : 0 ≤ (x10_2 : Int) := of_decide_eq_true (by first | (with_reducible assumption) | assumption); have q582 : x10_2 < (t563.length : Int) := of_decide_eq_true (by first | (with_reducible assumption) | assumption); obtain ⟨ad582, e582, hx582_0⟩ := Kd.at_string (Kd.R_reads' HO_4.out).2.2 x10_2 p582 q582; obtain rfl : ad569 = ad582 := (by injection e582); replace p582 := eq_true p582; replace q582 := eq_true q582; have p583 : 0 ≤ ((ji36) : Int) := of_decide_eq_true (by first | (with_reducible assumption) | assumption); have q583 : (ji36) < (t563.length : Int) := of_decide_eq_true (by first | (with_reducible assumption) | assumption); obtain ⟨ad583, e583, hx583_0⟩ := Kd.at_string (Kd.R_reads' HO_4.out).2.2 (ji36) p583 q583; obtain rfl : ad569 = ad583 := (by injection e583); replace p583 := eq_true p583; replace q583 := eq_true q583; have hnb50 := NB562_568.out; have hnc50 := NB568_562.out; have hcz51_0 : wr.cell? ⟨gb562, 0, none⟩ = some (.int .i64 x563000_2) := (blk_cell BK562.out 0).trans rfl; have hcz51_1 : wr.cell? ⟨gb562, 1, none⟩ = some (.int .i64 x563001_2) := (blk_cell BK562.out 1).trans rfl; have hcz51_2 : wr.cell? ⟨gb562, 2, none⟩ = some (.int .i64 x563002_2) := (blk_cell BK562.out 2).trans rfl; have hcz51_3 : wr.cell? ⟨gb562, 3, none⟩ = some (.slice none 0 0) := (blk_cell BK562.out 3).trans rfl; have hfz51_0 := blk_frozen BK562.out 0; have hfz51_1 := blk_frozen BK562.out 1; have hfz51_2 := blk_frozen BK562.out 2; have hfz51_3 := blk_frozen BK562.out 3))
                   refine bodyPost_ret (results_ct rfl _ _ gb562 33 #[.int .i64 0, .int .i64 0, .int .i64 0, .slice none 0 0] (0, 0) _ rfl (by (with_reducible repeat (first | refine blk_drewN ?_ _ | refine blk_drew ?_ | refine blk_alloc ?_ _)); refine blk_put (cs := #[.int .i64 0, .int .i64 0, .int .i64 0, .slice none 0 0]) ?_ 3 _ rfl; (with_reducible repeat (first | refine blk_drewN ?_ _ | refine blk_drew ?_ | refine blk_alloc ?_ _)); refine blk_put (cs := #[.int .i64 0, .int .i64 0, .int .i64 x563002_2, .slice none 0 0]) ?_ 2 _ rfl; (with_reducible repeat (first | refine blk_drewN ?_ _ | refine blk_drew ?_ | refine blk_alloc ?_ _)); refine blk_put (cs := #[.int .i64 0, .int .i64 x563001_2, .int .i64 x563002_2, .slice none 0 0]) ?_ 1 _ rfl; (with_reducible repeat (first | refine blk_drewN ?_ _ | refine blk_drew ?_ | refine blk_alloc ?_ _)); refine blk_put (cs := #[.int .i64 x563000_2, .int .i64 x563001_2, .int .i64 x563002_2, .slice none 0 0]) ?_ 0 _ rfl; (with_reducible repeat (first | refine blk_drewN ?_ _ | refine blk_drew ?_ | refine blk_alloc ?_ _)); exact BK562.out) Tryd.underlying33 rfl (by kernel_rfl)) rfl ?_
                   exact ⟨_, by first | rfl | (simp [errW_none, errW_some] <;> rfl) | (simp only [← hji26, ← hji30, ← hji36]; first | rfl | (simp [errW_none, errW_some] <;> rfl)) | (simp [*, errW_none, errW_some] <;> rfl), by first | exact Kd.R_nil _ _ _ _ _ | exact Kd.N_nil _ _ _ _ _ | exact Kd.V_nil _ _ _ _ _ | exact Kd.Q_nil _ _ _ _ _ | exact Kd.S_nil _ _ _ _ _, by repeat (first | (with_reducible first | exact HB.out | apply below_alloc | apply pw_below_drewN | apply below_drew1 | refine below_set ?_ GE562.out | refine below_set ?_ GE568.out) | exact HB.out)⟩
                 ·
                  rw [if_neg c39] at H
                  have c39b0 : ((rdOf ByteArray.empty t563 (ji36)).toList == ([97, 108, 99, 111, 104, 111, 108] : List UInt8)) = false := beq_eq_false_iff_ne.mpr c39
                  have c39b1 : ((rdOf ByteArray.empty t563 (ji36)).toList != ([97, 108, 99, 111, 104, 111, 108] : List UInt8)) = true := bne_iff_ne.mpr c39
                  simp only [Option.some.injEq, Prod.mk.injEq] at H
                  obtain ⟨rfl, rfl, rfl, rfl, rfl⟩ := H
                  have p576 : 0 ≤ ((ji26) : Int) := of_decide_eq_true (by first | (with_reducible assumption) | assumption)
                  have q576 : (ji26) < (t563.length : Int) := of_decide_eq_true (by first | (with_reducible assumption) | assumption)
                  obtain ⟨ad576, e576, hx576_0⟩ := Kd.at_string (Kd.R_reads' HO_4.out).2.2 (ji26) p576 q576
                  obtain rfl : ad569 = ad576 := (by injection e576)
                  replace p576 := eq_true p576
                  replace q576 := eq_true q576
                  go_wp2_with (first | ((with_reducible refine gate_callee (f := 68) rfl ?_); refine goesL_ (some 71) rfl rfl Tryd.func68 (by kernel_rfl) rfl #[.string (rdOf ByteArray.empty t563 (ji26)), .int .i64 15] rfl (by (try simp only [List.map_toArray, List.map_cons, List.map_nil]); first | done | (simp only [hji26]; rfl) | rfl | (simp only [List.length_drop, List.length_take]; rfl)) ?_; (with_reducible refine (spileref16_Number.calls k2 (rdOf ByteArray.empty t563 (ji26)) 15 t577 t578 _ A29.out).mono ?_); rintro e w' ⟨rfl, ⟨nd, rfl⟩⟩; refine ⟨_, rfl, ?_⟩; (try (rw [drewN_self wr]; generalize hq_ : World.drewN wr _ = wr; have n0_ : Aside0 (Kd.R Kd.string 9 wr w.heap.size (fun _ => True) (.slice (some ad569) t563.length co24) t563) := ⟨by rw [← hq_]; exact (by (with_reducible repeat (first | apply Kd.R_alloc | apply Kd.R_drewN | apply Kd.R_drew)); exact HO_4.out)⟩; have n1_ : Aside0 (Kd.R k35 35 wr w.heap.size (fun _ => True) u569003 x569003_2) := ⟨by rw [← hq_]; exact (by (with_reducible repeat (first | apply Kd.R_alloc | apply Kd.R_drewN | apply Kd.R_drew)); exact HO_569003.out)⟩; have n2_ : Aside0 (wr.heap[gb562]? = some (.cells #[.int .i64 x563000_2, .int .i64 x563001_2, .int .i64 x563002_2, .slice none 0 0] 33 (0, 0))) := ⟨by rw [← hq_]; exact (by (with_reducible repeat (first | refine blk_drewN ?_ _ | refine blk_drew ?_ | refine blk_alloc ?_ _)); exact BK562.out)⟩; have n3_ : Aside0 (wr.heap[gb568]? = some (.cells #[.int .i64 t570, .int .i64 0, .int .i64 t573, u569003] 33 (0, 0))) := ⟨by rw [← hq_]; exact (by (with_reducible repeat (first | refine blk_drewN ?_ _ | refine blk_drew ?_ | refine blk_alloc ?_ _)); exact BK568.out)⟩; have n4_ : Aside0 (Below w.heap.size w wr) := ⟨by rw [← hq_]; exact (by repeat (with_reducible first | exact HB.out | apply below_alloc | apply pw_below_drewN | apply below_drew1 | refine below_set ?_ GE562.out | refine below_set ?_ GE568.out))⟩; clear HO_4 HO_569003 BK562 BK568 HB hq_; have HO_4 := n0_; have HO_569003 := n1_; have BK562 := n2_; have BK568 := n3_; have HB := n4_; clear n0_ n1_ n2_ n3_ n4_)); have p579 : 0 ≤ ((ji30) : Int) := of_decide_eq_true (by first | (with_reducible assumption) | assumption); have q579 : (ji30) < (t563.length : Int) := of_decide_eq_true (by first | (with_reducible assumption) | assumption); obtain ⟨ad579, e579, hx579_0⟩ := Kd.at_string (Kd.R_reads' HO_4.out).2.2 (ji30) p579 q579; obtain rfl : ad569 = ad579 := (by injection e579); replace p579 := eq_true p579; replace q579 := eq_true q579) | ((with_reducible refine gate_callee (f := 68) rfl ?_); refine goesL_ (some 80) rfl rfl Tryd.func68 (by kernel_rfl) rfl #[.string (rdOf ByteArray.empty t563 (ji30)), .int .i64 15] rfl (by (try simp only [List.map_toArray, List.map_cons, List.map_nil]); first | done | (simp only [hji30]; rfl) | rfl | (simp only [List.length_drop, List.length_take]; rfl)) ?_; (with_reducible refine (spileref16_Number.calls k2 (rdOf ByteArray.empty t563 (ji30)) 15 t580 t581 _ A33.out).mono ?_); rintro e w' ⟨rfl, ⟨nd, rfl⟩⟩; refine ⟨_, rfl, ?_⟩; (try (rw [drewN_self wr]; generalize hq_ : World.drewN wr _ = wr; have n0_ : Aside0 (Kd.R Kd.string 9 wr w.heap.size (fun _ => True) (.slice (some ad569) t563.length co24) t563) := ⟨by rw [← hq_]; exact (by (with_reducible repeat (first | apply Kd.R_alloc | apply Kd.R_drewN | apply Kd.R_drew)); exact HO_4.out)⟩; have n1_ : Aside0 (Kd.R k35 35 wr w.heap.size (fun _ => True) u569003 x569003_2) := ⟨by rw [← hq_]; exact (by (with_reducible repeat (first | apply Kd.R_alloc | apply Kd.R_drewN | apply Kd.R_drew)); exact HO_569003.out)⟩; have n2_ : Aside0 (wr.heap[gb562]? = some (.cells #[.int .i64 x563000_2, .int .i64 x563001_2, .int .i64 x563002_2, .slice none 0 0] 33 (0, 0))) := ⟨by rw [← hq_]; exact (by (with_reducible repeat (first | refine blk_drewN ?_ _ | refine blk_drew ?_ | refine blk_alloc ?_ _)); exact BK562.out)⟩; have n3_ : Aside0 (wr.heap[gb568]? = some (.cells #[.int .i64 t570, .int .i64 0, .int .i64 t573, u569003] 33 (0, 0))) := ⟨by rw [← hq_]; exact (by (with_reducible repeat (first | refine blk_drewN ?_ _ | refine blk_drew ?_ | refine blk_alloc ?_ _)); exact BK568.out)⟩; have n4_ : Aside0 (Below w.heap.size w wr) := ⟨by rw [← hq_]; exact (by repeat (with_reducible first | exact HB.out | apply below_alloc | apply pw_below_drewN | apply below_drew1 | refine below_set ?_ GE562.out | refine below_set ?_ GE568.out))⟩; clear HO_4 HO_569003 BK562 BK568 HB hq_; have HO_4 := n0_; have HO_569003 := n1_; have BK562 := n2_; have BK568 := n3_; have HB := n4_; clear n0_ n1_ n2_ n3_ n4_)); have p582 : 0 ≤ (x10_2 : Int) := of_decide_eq_true (by first | (with_reducible assumption) | assumption); have q582 : x10_2 < (t563.length : Int) := of_decide_eq_true (by first | (with_reducible assumption) | assumption); obtain ⟨ad582, e582, hx582_0⟩ := Kd.at_string (Kd.R_reads' HO_4.out).2.2 x10_2 p582 q582; obtain rfl : ad569 = ad582 := (by injection e582); replace p582 := eq_true p582; replace q582 := eq_true q582; have p583 : 0 ≤ ((ji36) : Int) := of_decide_eq_true (by first | (with_reducible assumption) | assumption); have q583 : (ji36) < (t563.length : Int) := of_decide_eq_true (by first | (with_reducible assumption) | assumption); obtain ⟨ad583, e583, hx583_0⟩ := Kd.at_string (Kd.R_reads' HO_4.out).2.2 (ji36) p583 q583; obtain rfl : ad569 = ad583 := (by injection e583); replace p583 := eq_true p583; replace q583 := eq_true q583; have hnb52 := NB562_568.out; have hnc52 := NB568_562.out; have hcz53_0 : wr.cell? ⟨gb562, 0, none⟩ = some (.int .i64 x563000_2) := (blk_cell BK562.out 0).trans rfl; have hcz53_1 : wr.cell? ⟨gb562, 1, none⟩ = some (.int .i64 x563001_2) := (blk_cell BK562.out 1).trans rfl; have hcz53_2 : wr.cell? ⟨gb562, 2, none⟩ = some (.int .i64 x563002_2) := (blk_cell BK562.out 2).trans rfl; have hcz53_3 : wr.cell? ⟨gb562, 3, none⟩ = some (.slice none 0 0) := (blk_cell BK562.out 3).trans rfl; have hfz53_0 := blk_frozen BK562.out 0; have hfz53_1 := blk_frozen BK562.out 1; have hfz53_2 := blk_frozen BK562.out 2; have hfz53_3 := blk_frozen BK562.out 3))
                  refine bodyPost_ret (results_ct rfl _ _ gb562 33 #[.int .i64 0, .int .i64 0, .int .i64 0, .slice none 0 0] (0, 0) _ rfl (by (with_reducible repeat (first | refine blk_drewN ?_ _ | refine blk_drew ?_ | refine blk_alloc ?_ _)); refine blk_put (cs := #[.int .i64 0, .int .i64 0, .int .i64 0, .slice none 0 0]) ?_ 3 _ rfl; (with_reducible repeat (first | refine blk_drewN ?_ _ | refine blk_drew ?_ | refine blk_alloc ?_ _)); refine blk_put (cs := #[.int .i64 0, .int .i64 0, .int .i64 x563002_2, .slice none 0 0]) ?_ 2 _ rfl; (with_reducible repeat (first | refine blk_drewN ?_ _ | refine blk_drew ?_ | refine blk_alloc ?_ _)); refine blk_put (cs := #[.int .i64 0, .int .i64 x563001_2, .int .i64 x563002_2, .slice none 0 0]) ?_ 1 _ rfl; (with_reducible repeat (first | refine blk_drewN ?_ _ | refine blk_drew ?_ | refine blk_alloc ?_ _)); refine blk_put (cs := #[.int .i64 x563000_2, .int .i64 x563001_2, .int .i64 x563002_2, .slice none 0 0]) ?_ 0 _ rfl; (with_reducible repeat (first | refine blk_drewN ?_ _ | refine blk_drew ?_ | refine blk_alloc ?_ _)); exact BK562.out) Tryd.underlying33 rfl (by kernel_rfl)) rfl ?_
                  exact ⟨_, by first | rfl | (simp [errW_none, errW_some] <;> rfl) | (simp only [← hji26, ← hji30, ← hji36]; first | rfl | (simp [errW_none, errW_some] <;> rfl)) | (simp [*, errW_none, errW_some] <;> rfl), by first | exact Kd.R_nil _ _ _ _ _ | exact Kd.N_nil _ _ _ _ _ | exact Kd.V_nil _ _ _ _ _ | exact Kd.Q_nil _ _ _ _ _ | exact Kd.S_nil _ _ _ _ _, by repeat (first | (with_reducible first | exact HB.out | apply below_alloc | apply pw_below_drewN | apply below_drew1 | refine below_set ?_ GE562.out | refine below_set ?_ GE568.out) | exact HB.out)⟩
                ·
                 rw [if_neg c38] at H
                 exact absurd H (by simp)
               ·
                rw [if_neg c37] at H
                exact absurd H (by simp)
              ·
               rw [if_neg c35] at H
               have c35b0 : ((rdOf ByteArray.empty t563 x10_2).toList == ([102, 105, 108, 108] : List UInt8)) = false := beq_eq_false_iff_ne.mpr c35
               have c35b1 : ((rdOf ByteArray.empty t563 x10_2).toList != ([102, 105, 108, 108] : List UInt8)) = true := bne_iff_ne.mpr c35
               simp only [Option.some.injEq, Prod.mk.injEq] at H
               obtain ⟨rfl, rfl, rfl, rfl, rfl⟩ := H
               have p576 : 0 ≤ ((ji26) : Int) := of_decide_eq_true (by first | (with_reducible assumption) | assumption)
               have q576 : (ji26) < (t563.length : Int) := of_decide_eq_true (by first | (with_reducible assumption) | assumption)
               obtain ⟨ad576, e576, hx576_0⟩ := Kd.at_string (Kd.R_reads' HO_4.out).2.2 (ji26) p576 q576
               obtain rfl : ad569 = ad576 := (by injection e576)
               replace p576 := eq_true p576
               replace q576 := eq_true q576
               go_wp2_with (first | ((with_reducible refine gate_callee (f := 68) rfl ?_); refine goesL_ (some 71) rfl rfl Tryd.func68 (by kernel_rfl) rfl #[.string (rdOf ByteArray.empty t563 (ji26)), .int .i64 15] rfl (by (try simp only [List.map_toArray, List.map_cons, List.map_nil]); first | done | (simp only [hji26]; rfl) | rfl | (simp only [List.length_drop, List.length_take]; rfl)) ?_; (with_reducible refine (spileref16_Number.calls k2 (rdOf ByteArray.empty t563 (ji26)) 15 t577 t578 _ A29.out).mono ?_); rintro e w' ⟨rfl, ⟨nd, rfl⟩⟩; refine ⟨_, rfl, ?_⟩; (try (rw [drewN_self wr]; generalize hq_ : World.drewN wr _ = wr; have n0_ : Aside0 (Kd.R Kd.string 9 wr w.heap.size (fun _ => True) (.slice (some ad569) t563.length co24) t563) := ⟨by rw [← hq_]; exact (by (with_reducible repeat (first | apply Kd.R_alloc | apply Kd.R_drewN | apply Kd.R_drew)); exact HO_4.out)⟩; have n1_ : Aside0 (Kd.R k35 35 wr w.heap.size (fun _ => True) u569003 x569003_2) := ⟨by rw [← hq_]; exact (by (with_reducible repeat (first | apply Kd.R_alloc | apply Kd.R_drewN | apply Kd.R_drew)); exact HO_569003.out)⟩; have n2_ : Aside0 (wr.heap[gb562]? = some (.cells #[.int .i64 x563000_2, .int .i64 x563001_2, .int .i64 x563002_2, .slice none 0 0] 33 (0, 0))) := ⟨by rw [← hq_]; exact (by (with_reducible repeat (first | refine blk_drewN ?_ _ | refine blk_drew ?_ | refine blk_alloc ?_ _)); exact BK562.out)⟩; have n3_ : Aside0 (wr.heap[gb568]? = some (.cells #[.int .i64 t570, .int .i64 0, .int .i64 t573, u569003] 33 (0, 0))) := ⟨by rw [← hq_]; exact (by (with_reducible repeat (first | refine blk_drewN ?_ _ | refine blk_drew ?_ | refine blk_alloc ?_ _)); exact BK568.out)⟩; have n4_ : Aside0 (Below w.heap.size w wr) := ⟨by rw [← hq_]; exact (by repeat (with_reducible first | exact HB.out | apply below_alloc | apply pw_below_drewN | apply below_drew1 | refine below_set ?_ GE562.out | refine below_set ?_ GE568.out))⟩; clear HO_4 HO_569003 BK562 BK568 HB hq_; have HO_4 := n0_; have HO_569003 := n1_; have BK562 := n2_; have BK568 := n3_; have HB := n4_; clear n0_ n1_ n2_ n3_ n4_)); have p579 : 0 ≤ ((ji30) : Int) := of_decide_eq_true (by first | (with_reducible assumption) | assumption); have q579 : (ji30) < (t563.length : Int) := of_decide_eq_true (by first | (with_reducible assumption) | assumption); obtain ⟨ad579, e579, hx579_0⟩ := Kd.at_string (Kd.R_reads' HO_4.out).2.2 (ji30) p579 q579; obtain rfl : ad569 = ad579 := (by injection e579); replace p579 := eq_true p579; replace q579 := eq_true q579) | ((with_reducible refine gate_callee (f := 68) rfl ?_); refine goesL_ (some 80) rfl rfl Tryd.func68 (by kernel_rfl) rfl #[.string (rdOf ByteArray.empty t563 (ji30)), .int .i64 15] rfl (by (try simp only [List.map_toArray, List.map_cons, List.map_nil]); first | done | (simp only [hji30]; rfl) | rfl | (simp only [List.length_drop, List.length_take]; rfl)) ?_; (with_reducible refine (spileref16_Number.calls k2 (rdOf ByteArray.empty t563 (ji30)) 15 t580 t581 _ A33.out).mono ?_); rintro e w' ⟨rfl, ⟨nd, rfl⟩⟩; refine ⟨_, rfl, ?_⟩; (try (rw [drewN_self wr]; generalize hq_ : World.drewN wr _ = wr; have n0_ : Aside0 (Kd.R Kd.string 9 wr w.heap.size (fun _ => True) (.slice (some ad569) t563.length co24) t563) := ⟨by rw [← hq_]; exact (by (with_reducible repeat (first | apply Kd.R_alloc | apply Kd.R_drewN | apply Kd.R_drew)); exact HO_4.out)⟩; have n1_ : Aside0 (Kd.R k35 35 wr w.heap.size (fun _ => True) u569003 x569003_2) := ⟨by rw [← hq_]; exact (by (with_reducible repeat (first | apply Kd.R_alloc | apply Kd.R_drewN | apply Kd.R_drew)); exact HO_569003.out)⟩; have n2_ : Aside0 (wr.heap[gb562]? = some (.cells #[.int .i64 x563000_2, .int .i64 x563001_2, .int .i64 x563002_2, .slice none 0 0] 33 (0, 0))) := ⟨by rw [← hq_]; exact (by (with_reducible repeat (first | refine blk_drewN ?_ _ | refine blk_drew ?_ | refine blk_alloc ?_ _)); exact BK562.out)⟩; have n3_ : Aside0 (wr.heap[gb568]? = some (.cells #[.int .i64 t570, .int .i64 0, .int .i64 t573, u569003] 33 (0, 0))) := ⟨by rw [← hq_]; exact (by (with_reducible repeat (first | refine blk_drewN ?_ _ | refine blk_drew ?_ | refine blk_alloc ?_ _)); exact BK568.out)⟩; have n4_ : Aside0 (Below w.heap.size w wr) := ⟨by rw [← hq_]; exact (by repeat (with_reducible first | exact HB.out | apply below_alloc | apply pw_below_drewN | apply below_drew1 | refine below_set ?_ GE562.out | refine below_set ?_ GE568.out))⟩; clear HO_4 HO_569003 BK562 BK568 HB hq_; have HO_4 := n0_; have HO_569003 := n1_; have BK562 := n2_; have BK568 := n3_; have HB := n4_; clear n0_ n1_ n2_ n3_ n4_)); have p582 : 0 ≤ (x10_2 : Int) := of_decide_eq_true (by first | (with_reducible assumption) | assumption); have q582 : x10_2 < (t563.length : Int) := of_decide_eq_true (by first | (with_reducible assumption) | assumption); obtain ⟨ad582, e582, hx582_0⟩ := Kd.at_string (Kd.R_reads' HO_4.out).2.2 x10_2 p582 q582; obtain rfl : ad569 = ad582 := (by injection e582); replace p582 := eq_true p582; replace q582 := eq_true q582; have hnb54 := NB562_568.out; have hnc54 := NB568_562.out; have hcz55_0 : wr.cell? ⟨gb562, 0, none⟩ = some (.int .i64 x563000_2) := (blk_cell BK562.out 0).trans rfl; have hcz55_1 : wr.cell? ⟨gb562, 1, none⟩ = some (.int .i64 x563001_2) := (blk_cell BK562.out 1).trans rfl; have hcz55_2 : wr.cell? ⟨gb562, 2, none⟩ = some (.int .i64 x563002_2) := (blk_cell BK562.out 2).trans rfl; have hcz55_3 : wr.cell? ⟨gb562, 3, none⟩ = some (.slice none 0 0) := (blk_cell BK562.out 3).trans rfl; have hfz55_0 := blk_frozen BK562.out 0; have hfz55_1 := blk_frozen BK562.out 1; have hfz55_2 := blk_frozen BK562.out 2; have hfz55_3 := blk_frozen BK562.out 3))
               refine bodyPost_ret (results_ct rfl _ _ gb562 33 #[.int .i64 0, .int .i64 0, .int .i64 0, .slice none 0 0] (0, 0) _ rfl (by (with_reducible repeat (first | refine blk_drewN ?_ _ | refine blk_drew ?_ | refine blk_alloc ?_ _)); refine blk_put (cs := #[.int .i64 0, .int .i64 0, .int .i64 0, .slice none 0 0]) ?_ 3 _ rfl; (with_reducible repeat (first | refine blk_drewN ?_ _ | refine blk_drew ?_ | refine blk_alloc ?_ _)); refine blk_put (cs := #[.int .i64 0, .int .i64 0, .int .i64 x563002_2, .slice none 0 0]) ?_ 2 _ rfl; (with_reducible repeat (first | refine blk_drewN ?_ _ | refine blk_drew ?_ | refine blk_alloc ?_ _)); refine blk_put (cs := #[.int .i64 0, .int .i64 x563001_2, .int .i64 x563002_2, .slice none 0 0]) ?_ 1 _ rfl; (with_reducible repeat (first | refine blk_drewN ?_ _ | refine blk_drew ?_ | refine blk_alloc ?_ _)); refine blk_put (cs := #[.int .i64 x563000_2, .int .i64 x563001_2, .int .i64 x563002_2, .slice none 0 0]) ?_ 0 _ rfl; (with_reducible repeat (first | refine blk_drewN ?_ _ | refine blk_drew ?_ | refine blk_alloc ?_ _)); exact BK562.out) Tryd.underlying33 rfl (by kernel_rfl)) rfl ?_
               exact ⟨_, by first | rfl | (simp [errW_none, errW_some] <;> rfl) | (simp only [← hji26, ← hji30]; first | rfl | (simp [errW_none, errW_some] <;> rfl)) | (simp [*, errW_none, errW_some] <;> rfl), by first | exact Kd.R_nil _ _ _ _ _ | exact Kd.N_nil _ _ _ _ _ | exact Kd.V_nil _ _ _ _ _ | exact Kd.Q_nil _ _ _ _ _ | exact Kd.S_nil _ _ _ _ _, by repeat (first | (with_reducible first | exact HB.out | apply below_alloc | apply pw_below_drewN | apply below_drew1 | refine below_set ?_ GE562.out | refine below_set ?_ GE568.out) | exact HB.out)⟩
             ·
              rw [if_neg c34] at H
              exact absurd H (by simp)
            ·
             rw [if_neg c32] at H
             exact absurd H (by simp)
           ·
            rw [if_neg c31] at H
            exact absurd H (by simp)
          ·
           rw [if_neg c28] at H
           exact absurd H (by simp)
         ·
          rw [if_neg c27] at H
          exact absurd H (by simp)
        ·
         rw [if_neg c25] at H
         have c25b0 : decide (x10_2 < (t563.length : Int)) = false := decide_eq_false c25
         clear c25
         replace H := Option.bind_eq_some_iff.mp H
         obtain ⟨t575, A560, H⟩ := H
         replace H : (if t571 = true then (some (t570, t575, t573, x569003_2, t574)) else (some (t570, t575, t573, x569003_2, false))) = some (r1, r2, r3, r4, r5) := H
         have A56 := Aside0.mk A560
         clear A560
         by_cases c57 : t571 = true
         ·
          subst c57
          replace H : (some (t570, t575, t573, x569003_2, t574)) = some (r1, r2, r3, r4, r5) := by rw [if_pos rfl] at H; exact H
          simp only [Option.some.injEq, Prod.mk.injEq] at H
          obtain ⟨rfl, rfl, rfl, rfl, rfl⟩ := H
          have hnb58 := NB568_562.out
          have hnc58 := NB562_568.out
          have hcz59_0 : wr.cell? ⟨gb568, 0, none⟩ = some (.int .i64 t570) := (blk_cell BK568.out 0).trans rfl
          have hcz59_1 : wr.cell? ⟨gb568, 1, none⟩ = some (.int .i64 0) := (blk_cell BK568.out 1).trans rfl
          have hcz59_2 : wr.cell? ⟨gb568, 2, none⟩ = some (.int .i64 t573) := (blk_cell BK568.out 2).trans rfl
          have hcz59_3 : wr.cell? ⟨gb568, 3, none⟩ = some (u569003) := (blk_cell BK568.out 3).trans rfl
          have hfz59_0 := blk_frozen BK568.out 0
          have hfz59_1 := blk_frozen BK568.out 1
          have hfz59_2 := blk_frozen BK568.out 2
          have hfz59_3 := blk_frozen BK568.out 3
          obtain ⟨Ao60, co60, eo60⟩ := Kd.R_slice HO_569003.out
          subst eo60
          go_wp2_with (first | ((with_reducible refine gate_callee (f := 60) rfl ?_); refine goesL_ (some 115) rfl rfl Tryd.func60 (by kernel_rfl) rfl #[.slice Ao60 x569003_2.length co60] rfl (by (try simp only [List.map_toArray, List.map_cons, List.map_nil]); first | done | rfl | (simp only [List.length_drop, List.length_take]; rfl)) ?_; (with_reducible refine (spileref22_Alcohol.calls k2 _ _ x569003_2 t575 _ ?side1 ?side2 A56.out).mono ?_); (case side1 => repeat (first | exact (Kd.R_reads' HO_569003.out).2.2 | (with_reducible refine Kd.C_alloc ?_ _) | (with_reducible refine Kd.C_drewN ?_ _) | (with_reducible refine Kd.C_drew ?_))); (case side2 => exact (Kd.R_reads' HO_569003.out).2.1); rintro e w' ⟨rfl, ⟨nd, rfl⟩⟩; refine ⟨_, rfl, ?_⟩; (try (rw [drewN_self wr]; generalize hq_ : World.drewN wr _ = wr; have n0_ : Aside0 (Kd.R Kd.string 9 wr w.heap.size (fun _ => True) (.slice (some ad569) t563.length co24) t563) := ⟨by rw [← hq_]; exact (by (with_reducible repeat (first | apply Kd.R_alloc | apply Kd.R_drewN | apply Kd.R_drew)); exact HO_4.out)⟩; have n1_ : Aside0 (Kd.R k35 35 wr w.heap.size (fun _ => True) (.slice Ao60 x569003_2.length co60) x569003_2) := ⟨by rw [← hq_]; exact (by (with_reducible repeat (first | apply Kd.R_alloc | apply Kd.R_drewN | apply Kd.R_drew)); exact HO_569003.out)⟩; have n2_ : Aside0 (wr.heap[gb562]? = some (.cells #[.int .i64 x563000_2, .int .i64 x563001_2, .int .i64 x563002_2, .slice none 0 0] 33 (0, 0))) := ⟨by rw [← hq_]; exact (by (with_reducible repeat (first | refine blk_drewN ?_ _ | refine blk_drew ?_ | refine blk_alloc ?_ _)); exact BK562.out)⟩; have n3_ : Aside0 (wr.heap[gb568]? = some (.cells #[.int .i64 t570, .int .i64 0, .int .i64 t573, .slice Ao60 x569003_2.length co60] 33 (0, 0))) := ⟨by rw [← hq_]; exact (by (with_reducible repeat (first | refine blk_drewN ?_ _ | refine blk_drew ?_ | refine blk_alloc ?_ _)); exact BK568.out)⟩; have n4_ : Aside0 (Below w.heap.size w wr) := ⟨by rw [← hq_]; exact (by repeat (with_reducible first | exact HB.out | apply below_alloc | apply pw_below_drewN | apply below_drew1 | refine below_set ?_ GE562.out | refine below_set ?_ GE568.out))⟩; clear HO_4 HO_569003 BK562 BK568 HB hq_; have HO_4 := n0_; have HO_569003 := n1_; have BK562 := n2_; have BK568 := n3_; have HB := n4_; clear n0_ n1_ n2_ n3_ n4_)); have hcz61_0 : wr.cell? ⟨gb562, 0, none⟩ = some (.int .i64 x563000_2) := (blk_cell BK562.out 0).trans rfl; have hcz61_1 : wr.cell? ⟨gb562, 1, none⟩ = some (.int .i64 x563001_2) := (blk_cell BK562.out 1).trans rfl; have hcz61_2 : wr.cell? ⟨gb562, 2, none⟩ = some (.int .i64 x563002_2) := (blk_cell BK562.out 2).trans rfl; have hcz61_3 : wr.cell? ⟨gb562, 3, none⟩ = some (.slice none 0 0) := (blk_cell BK562.out 3).trans rfl; have hfz61_0 := blk_frozen BK562.out 0; have hfz61_1 := blk_frozen BK562.out 1; have hfz61_2 := blk_frozen BK562.out 2; have hfz61_3 := blk_frozen BK562.out 3; have hcy_0 : wr.cell? ⟨gb568, 0, none⟩ = some (.int .i64 t570) := (blk_cell BK568.out 0).trans rfl; have hcy_1 : wr.cell? ⟨gb568, 1, none⟩ = some (.int .i64 0) := (blk_cell BK568.out 1).trans rfl; have hcy_2 : wr.cell? ⟨gb568, 2, none⟩ = some (.int .i64 t573) := (blk_cell BK568.out 2).trans rfl; have hcy_3 : wr.cell? ⟨gb568, 3, none⟩ = some (.slice Ao60 x569003_2.length co60) := (blk_cell BK568.out 3).trans rfl; have hfy_0 := blk_frozen BK568.out 0; have hfy_1 := blk_frozen BK568.out 1; have hfy_2 := blk_frozen BK568.out 2; have hfy_3 := blk_frozen BK568.out 3))
          refine bodyPost_ret (results_ct rfl _ _ gb562 33 #[.int .i64 t570, .int .i64 t575, .int .i64 t573, .slice Ao60 x569003_2.length co60] (0, 0) _ rfl (by (with_reducible repeat (first | refine blk_drewN ?_ _ | refine blk_drew ?_ | refine blk_alloc ?_ _)); refine blk_put (cs := #[.int .i64 t570, .int .i64 t575, .int .i64 t573, .slice none 0 0]) ?_ 3 _ rfl; (with_reducible repeat (first | refine blk_drewN ?_ _ | refine blk_drew ?_ | refine blk_alloc ?_ _)); refine blk_put (cs := #[.int .i64 t570, .int .i64 t575, .int .i64 x563002_2, .slice none 0 0]) ?_ 2 _ rfl; (with_reducible repeat (first | refine blk_drewN ?_ _ | refine blk_drew ?_ | refine blk_alloc ?_ _)); refine blk_put (cs := #[.int .i64 t570, .int .i64 x563001_2, .int .i64 x563002_2, .slice none 0 0]) ?_ 1 _ rfl; (with_reducible repeat (first | refine blk_drewN ?_ _ | refine blk_drew ?_ | refine blk_alloc ?_ _)); refine blk_put (cs := #[.int .i64 x563000_2, .int .i64 x563001_2, .int .i64 x563002_2, .slice none 0 0]) ?_ 0 _ rfl; (with_reducible repeat (first | refine blk_drewN ?_ _ | refine blk_drew ?_ | refine blk_alloc ?_ _)); refine blk_far ?_ NB562_568.out _; (with_reducible repeat (first | refine blk_drewN ?_ _ | refine blk_drew ?_ | refine blk_alloc ?_ _)); exact BK562.out) Tryd.underlying33 rfl (by kernel_rfl)) rfl ?_
          exact ⟨_, by first | rfl | (simp [errW_none, errW_some] <;> rfl) | (simp [*, errW_none, errW_some] <;> rfl), by (with_reducible repeat (first | apply Kd.R_alloc | apply Kd.R_drewN | apply Kd.R_drew)); exact Kd.R_mono (Kd.R_far (p := ⟨gb562, 3, none⟩) (Kd.R_far (p := ⟨gb562, 2, none⟩) (Kd.R_far (p := ⟨gb562, 1, none⟩) (Kd.R_far (p := ⟨gb562, 0, none⟩) (Kd.R_far (p := ⟨gb568, 1, none⟩) (Kd.R_types (Kd.R_types HO_569003.out BK568.out (by decide)) BK562.out (by decide)) (fun _ hk => hk.1.2) (.int .i64 t575)) (fun _ hk => hk.2) (.int .i64 t570)) (fun _ hk => hk.2) (.int .i64 t575)) (fun _ hk => hk.2) (.int .i64 t573)) (fun _ hk => hk.2) (.slice Ao60 x569003_2.length co60)) (fun _ hk => trivial), by repeat (first | (with_reducible first | exact HB.out | apply below_alloc | apply pw_below_drewN | apply below_drew1 | refine below_set ?_ GE562.out | refine below_set ?_ GE568.out) | exact HB.out)⟩
         ·
          replace c57 := Bool.eq_false_iff.mpr c57
          subst c57
          replace H : (some (t570, t575, t573, x569003_2, false)) = some (r1, r2, r3, r4, r5) := by rw [if_neg (show ¬ (false = true) by decide)] at H; exact H
          simp only [Option.some.injEq, Prod.mk.injEq] at H
          obtain ⟨rfl, rfl, rfl, rfl, rfl⟩ := H
          have hnb62 := NB568_562.out
          have hnc62 := NB562_568.out
          have hcz63_0 : wr.cell? ⟨gb568, 0, none⟩ = some (.int .i64 t570) := (blk_cell BK568.out 0).trans rfl
          have hcz63_1 : wr.cell? ⟨gb568, 1, none⟩ = some (.int .i64 0) := (blk_cell BK568.out 1).trans rfl
          have hcz63_2 : wr.cell? ⟨gb568, 2, none⟩ = some (.int .i64 t573) := (blk_cell BK568.out 2).trans rfl
          have hcz63_3 : wr.cell? ⟨gb568, 3, none⟩ = some (u569003) := (blk_cell BK568.out 3).trans rfl
          have hfz63_0 := blk_frozen BK568.out 0
          have hfz63_1 := blk_frozen BK568.out 1
          have hfz63_2 := blk_frozen BK568.out 2
          have hfz63_3 := blk_frozen BK568.out 3
          obtain ⟨Ao64, co64, eo64⟩ := Kd.R_slice HO_569003.out
          subst eo64
          go_wp2_with (first | ((with_reducible refine gate_callee (f := 60) rfl ?_); refine goesL_ (some 115) rfl rfl Tryd.func60 (by kernel_rfl) rfl #[.slice Ao64 x569003_2.length co64] rfl (by (try simp only [List.map_toArray, List.map_cons, List.map_nil]); first | done | rfl | (simp only [List.length_drop, List.length_take]; rfl)) ?_; (with_reducible refine (spileref22_Alcohol.calls k2 _ _ x569003_2 t575 _ ?side1 ?side2 A56.out).mono ?_); (case side1 => repeat (first | exact (Kd.R_reads' HO_569003.out).2.2 | (with_reducible refine Kd.C_alloc ?_ _) | (with_reducible refine Kd.C_drewN ?_ _) | (with_reducible refine Kd.C_drew ?_))); (case side2 => exact (Kd.R_reads' HO_569003.out).2.1); rintro e w' ⟨rfl, ⟨nd, rfl⟩⟩; refine ⟨_, rfl, ?_⟩; (try (rw [drewN_self wr]; generalize hq_ : World.drewN wr _ = wr; have n0_ : Aside0 (Kd.R Kd.string 9 wr w.heap.size (fun _ => True) (.slice (some ad569) t563.length co24) t563) := ⟨by rw [← hq_]; exact (by (with_reducible repeat (first | apply Kd.R_alloc | apply Kd.R_drewN | apply Kd.R_drew)); exact HO_4.out)⟩; have n1_ : Aside0 (Kd.R k35 35 wr w.heap.size (fun _ => True) (.slice Ao64 x569003_2.length co64) x569003_2) := ⟨by rw [← hq_]; exact (by (with_reducible repeat (first | apply Kd.R_alloc | apply Kd.R_drewN | apply Kd.R_drew)); exact HO_569003.out)⟩; have n2_ : Aside0 (wr.heap[gb562]? = some (.cells #[.int .i64 x563000_2, .int .i64 x563001_2, .int .i64 x563002_2, .slice none 0 0] 33 (0, 0))) := ⟨by rw [← hq_]; exact (by (with_reducible repeat (first | refine blk_drewN ?_ _ | refine blk_drew ?_ | refine blk_alloc ?_ _)); exact BK562.out)⟩; have n3_ : Aside0 (wr.heap[gb568]? = some (.cells #[.int .i64 t570, .int .i64 0, .int .i64 t573, .slice Ao64 x569003_2.length co64] 33 (0, 0))) := ⟨by rw [← hq_]; exact (by (with_reducible repeat (first | refine blk_drewN ?_ _ | refine blk_drew ?_ | refine blk_alloc ?_ _)); exact BK568.out)⟩; have n4_ : Aside0 (Below w.heap.size w wr) := ⟨by rw [← hq_]; exact (by repeat (with_reducible first | exact HB.out | apply below_alloc | apply pw_below_drewN | apply below_drew1 | refine below_set ?_ GE562.out | refine below_set ?_ GE568.out))⟩; clear HO_4 HO_569003 BK562 BK568 HB hq_; have HO_4 := n0_; have HO_569003 := n1_; have BK562 := n2_; have BK568 := n3_; have HB := n4_; clear n0_ n1_ n2_ n3_ n4_)); have hcz65_0 : wr.cell? ⟨gb562, 0, none⟩ = some (.int .i64 x563000_2) := (blk_cell BK562.out 0).trans rfl; have hcz65_1 : wr.cell? ⟨gb562, 1, none⟩ = some (.int .i64 x563001_2) := (blk_cell BK562.out 1).trans rfl; have hcz65_2 : wr.cell? ⟨gb562, 2, none⟩ = some (.int .i64 x563002_2) := (blk_cell BK562.out 2).trans rfl; have hcz65_3 : wr.cell? ⟨gb562, 3, none⟩ = some (.slice none 0 0) := (blk_cell BK562.out 3).trans rfl; have hfz65_0 := blk_frozen BK562.out 0; have hfz65_1 := blk_frozen BK562.out 1; have hfz65_2 := blk_frozen BK562.out 2; have hfz65_3 := blk_frozen BK562.out 3; have hcy_0 : wr.cell? ⟨gb568, 0, none⟩ = some (.int .i64 t570) := (blk_cell BK568.out 0).trans rfl; have hcy_1 : wr.cell? ⟨gb568, 1, none⟩ = some (.int .i64 0) := (blk_cell BK568.out 1).trans rfl; have hcy_2 : wr.cell? ⟨gb568, 2, none⟩ = some (.int .i64 t573) := (blk_cell BK568.out 2).trans rfl; have hcy_3 : wr.cell? ⟨gb568, 3, none⟩ = some (.slice Ao64 x569003_2.length co64) := (blk_cell BK568.out 3).trans rfl; have hfy_0 := blk_frozen BK568.out 0; have hfy_1 := blk_frozen BK568.out 1; have hfy_2 := blk_frozen BK568.out 2; have hfy_3 := blk_frozen BK568.out 3))
          refine bodyPost_ret (results_ct rfl _ _ gb562 33 #[.int .i64 t570, .int .i64 t575, .int .i64 t573, .slice Ao64 x569003_2.length co64] (0, 0) _ rfl (by (with_reducible repeat (first | refine blk_drewN ?_ _ | refine blk_drew ?_ | refine blk_alloc ?_ _)); refine blk_put (cs := #[.int .i64 t570, .int .i64 t575, .int .i64 t573, .slice none 0 0]) ?_ 3 _ rfl; (with_reducible repeat (first | refine blk_drewN ?_ _ | refine blk_drew ?_ | refine blk_alloc ?_ _)); refine blk_put (cs := #[.int .i64 t570, .int .i64 t575, .int .i64 x563002_2, .slice none 0 0]) ?_ 2 _ rfl; (with_reducible repeat (first | refine blk_drewN ?_ _ | refine blk_drew ?_ | refine blk_alloc ?_ _)); refine blk_put (cs := #[.int .i64 t570, .int .i64 x563001_2, .int .i64 x563002_2, .slice none 0 0]) ?_ 1 _ rfl; (with_reducible repeat (first | refine blk_drewN ?_ _ | refine blk_drew ?_ | refine blk_alloc ?_ _)); refine blk_put (cs := #[.int .i64 x563000_2, .int .i64 x563001_2, .int .i64 x563002_2, .slice none 0 0]) ?_ 0 _ rfl; (with_reducible repeat (first | refine blk_drewN ?_ _ | refine blk_drew ?_ | refine blk_alloc ?_ _)); refine blk_far ?_ NB562_568.out _; (with_reducible repeat (first | refine blk_drewN ?_ _ | refine blk_drew ?_ | refine blk_alloc ?_ _)); exact BK562.out) Tryd.underlying33 rfl (by kernel_rfl)) rfl ?_
          exact ⟨_, by first | rfl | (simp [errW_none, errW_some] <;> rfl) | (simp [*, errW_none, errW_some] <;> rfl), by (with_reducible repeat (first | apply Kd.R_alloc | apply Kd.R_drewN | apply Kd.R_drew)); exact Kd.R_mono (Kd.R_far (p := ⟨gb562, 3, none⟩) (Kd.R_far (p := ⟨gb562, 2, none⟩) (Kd.R_far (p := ⟨gb562, 1, none⟩) (Kd.R_far (p := ⟨gb562, 0, none⟩) (Kd.R_far (p := ⟨gb568, 1, none⟩) (Kd.R_types (Kd.R_types HO_569003.out BK568.out (by decide)) BK562.out (by decide)) (fun _ hk => hk.1.2) (.int .i64 t575)) (fun _ hk => hk.2) (.int .i64 t570)) (fun _ hk => hk.2) (.int .i64 t575)) (fun _ hk => hk.2) (.int .i64 t573)) (fun _ hk => hk.2) (.slice Ao64 x569003_2.length co64)) (fun _ hk => trivial), by repeat (first | (with_reducible first | exact HB.out | apply below_alloc | apply pw_below_drewN | apply below_drew1 | refine below_set ?_ GE562.out | refine below_set ?_ GE568.out) | exact HB.out)⟩
     ·
      rw [if_neg c19] at H
      exact absurd H (by simp)
    ·
     rw [if_neg c17] at H
     exact absurd H (by simp)
def spileref22_Parse.l0 : Nat → List ByteArray → Bool → List (S33) → Int → Option ((List (S33)) × Int × Int)
 | 0, _, _, _, _ => none
 | k + 1, x5, x6, x7, x8 => if x8 < (x5.length : Int) then (if 0 ≤ x8 then ((spileref22_read.f k (rdOf ByteArray.empty x5 x8)).bind fun bt595 => (if bt595.2.2.2.2 = true then (if x8 = (wrap64 ((x5.length : Int) - 1)) then (if x6 = true then (if x7.length < 2932031007402 then (spileref22_Parse.l0 k x5 x6 (x7 ++ [(⟨bt595.1, (⟨bt595.2.1, bt595.2.2.1⟩ : S26), bt595.2.2.2.1⟩ : S33)]) (wrap64 (x8 + 1))) else (none)) else (some (([] : List (S33)), x8, 3))) else (if x7.length < 2932031007402 then (spileref22_Parse.l0 k x5 x6 (x7 ++ [(⟨bt595.1, (⟨bt595.2.1, bt595.2.2.1⟩ : S26), bt595.2.2.2.1⟩ : S33)]) (wrap64 (x8 + 1))) else (none))) else (some (([] : List (S33)), x8, 3)))) else (none)) else ((spileref22_Check.f k x7).bind fun bt609 => (if bt609.2 = 0 then (some (x7, (-1), 0)) else (some (([] : List (S33)), (-1), bt609.2))))
def spileref22_Parse.f (k : Nat) (a0 : ByteArray) : Option ((List (S33)) × Int × Int) := if (a0.size : Int) > 65536 then (some (([] : List (S33)), (-1), 8)) else ((spileref16_Lines.f k a0).bind fun bt587 => (spileref22_Parse.l0 k bt587.1 bt587.2 (([] : List (S33))) 0))
set_option maxHeartbeats 8000000 in
set_option maxRecDepth 100000 in
theorem spileref22_Parse.calls (k : Nat) (a0 : ByteArray) (r1 : List (S33)) (r2 : Int) (r3 : Int) (w : World) (h : spileref22_Parse.f k a0 = some (r1, r2, r3)) :
  Calls Tryd.prog 33 #[.string a0] w fun e w' => ∃ v0_ : Value, e = .returned (.tuple #[v0_, .int .i64 r2, .int .i64 r3]) ∧ Kd.S k33 33 w' w.heap.size (fun _ => True) v0_ r1 ∧ Below w.heap.size w w' := by
 have hu33 := Tryd.underlying33
 have HB := Aside0.mk (Below.refl w.heap.size w)
 have H : (if (a0.size : Int) > 65536 then (some (([] : List (S33)), (-1), 8)) else ((spileref16_Lines.f k a0).bind fun bt587 => (spileref22_Parse.l0 k bt587.1 bt587.2 (([] : List (S33))) 0))) = some (r1, r2, r3) := h
 clear h
 by_cases c2 : (a0.size : Int) > 65536
 ·
  rw [if_pos c2] at H
  have c2b0 : decide (65536 < (a0.size : Int)) = true := decide_eq_true c2
  have c2b1 : decide (65536 < a0.size) = true := decide_eq_true (by omega)
  clear c2
  simp only [Option.some.injEq, Prod.mk.injEq] at H
  obtain ⟨rfl, rfl, rfl⟩ := H
  go_enter Tryd.func33, Tryd.ntmps33
  go_wp2
  go_ret3
  exact ⟨_, by first | rfl | (simp [errW_none, errW_some] <;> rfl) | (simp [*, errW_none, errW_some] <;> rfl), by first | exact Kd.S_nil _ _ _ _ _ | exact Kd.N_nil _ _ _ _ _ | exact Kd.V_nil _ _ _ _ _ | exact Kd.Q_nil _ _ _ _ _ | exact Kd.R_nil _ _ _ _ _, by repeat (first | (with_reducible first | exact HB.out | apply below_alloc | apply pw_below_drewN | apply below_drew1) | exact HB.out)⟩
 ·
  rw [if_neg c2] at H
  have c2b0 : decide (65536 < (a0.size : Int)) = false := decide_eq_false c2
  have c2b1 : decide (65536 < a0.size) = false := decide_eq_false (by omega)
  clear c2
  replace H := Option.bind_eq_some_iff.mp H
  obtain ⟨⟨t587, t588⟩, A30, H⟩ := H
  replace H : (spileref22_Parse.l0 k t587 t588 (([] : List (S33))) 0) = some (r1, r2, r3) := H
  have A3 := Aside0.mk A30
  clear A30
  obtain ⟨y591, hy591⟩ : ∃ y_ : List (S33), y_ = (([] : List (S33))) := ⟨_, rfl⟩
  replace H : (spileref22_Parse.l0 k t587 t588 y591 0) = some (r1, r2, r3) := by first | (rw [hy591]; with_reducible exact H) | (have H2_ := (Option.bind_some _ _).symm.trans H; rw [hy591]; with_reducible exact H2_) | (have H2_ := (Option.bind_some _ _).symm.trans H; with_reducible exact H2_) | with_reducible exact H | (rw [hy591]; exact H) | exact H
  have Ny591 := Aside0.mk hy591
  clear hy591
  have H' := Aside0.mk H
  clear H
  go_enter Tryd.func33, Tryd.ntmps33
  go_wp2_with (first | ((with_reducible refine gate_callee (f := 55) rfl ?_); refine goesL_ (some 18) rfl rfl Tryd.func55 (by kernel_rfl) rfl #[.string a0] rfl (by (try simp only [List.map_toArray, List.map_cons, List.map_nil]); first | done | rfl | (simp only [List.length_drop, List.length_take]; rfl)) ?_; (with_reducible refine (spileref16_Lines.calls k a0 t587 t588 _ A3.out).mono ?_); rintro e w4 ⟨v589, rfl, ho0, hb⟩; refine ⟨_, rfl, ?_⟩; have n0_ := Aside0.mk (Kd.R_lower ho0 (below_size (by repeat (with_reducible first | exact HB.out | apply below_alloc | apply pw_below_drewN | apply below_drew1)))); have n1_ := Aside0.mk (below_step (by repeat (with_reducible first | exact HB.out | apply below_alloc | apply pw_below_drewN | apply below_drew1)) hb); clear HB; have HO590 := n0_; have HB := n1_; clear n0_ n1_; (try clear hb); (try clear hb2); (try clear hk); (try clear hi); (try clear ho0)) | ((with_reducible refine gate_dst (N := 21) rfl ?_); (try (refine gate_guard (by rfl) ?_; dsimp only)); refine Kd.S_lit k33 _ 33 ?hg (N := 21) ?hd (xs := ([] : List (S33))) (inner := []) (ok := fun _ => True) (okp := fun _ => True) ?hr ?hp (fun _ hk => hk) trivial (Below.refl _ _) (Nat.le_refl _) (by simp) ?_; (case hd => rfl); (case hg => rfl); (case hr => first | (go_simp; done) | (go_simp; rfl)); (case hp => exact (Reps.none _ _)); intro v592 w5 ho6 hb hg_ hnew_; clear hg_ hnew_; (first | rw [← Ny591.out] at ho6 | (simp only [Int.reduceToNat] at ho6; rw [← Ny591.out] at ho6)); have n0_ := Aside0.mk (Kd.R_below (by (with_reducible repeat (first | apply Kd.R_alloc | apply Kd.R_drewN | apply Kd.R_drew)); exact HO590.out) hb); have n1_ := Aside0.mk (Kd.S_lower ho6 (below_size (by repeat (with_reducible first | exact HB.out | apply below_alloc | apply pw_below_drewN | apply below_drew1)))); have n2_ := Aside0.mk (below_step (by repeat (with_reducible first | exact HB.out | apply below_alloc | apply pw_below_drewN | apply below_drew1)) hb); clear HO590; clear HB; have HO590 := n0_; have HO593 := n1_; have HB := n2_; clear n0_ n1_ n2_; clear hb ho6))
  go_loopg [7, 8] k (fun kq v7 v8 w' => ∃ (x7_1 : List (S33)) (x8_1 : Int), v8 = .int .i64 x8_1 ∧ Aside0 (spileref22_Parse.l0 kq t587 t588 x7_1 x8_1 = some (r1, r2, r3)) ∧ Aside0 (kq ≤ k) ∧ Aside0 (Kd.R Kd.string 9 w' w.heap.size (fun _ => True) v589 t587) ∧ Aside0 (Kd.S k33 33 w' w.heap.size (fun _ => True) v7 x7_1) ∧ Aside0 (Below w.heap.size w w'))
  case atStart => exact ⟨(y591), (0), (by first | rfl | (simp; done) | (simp [*]; done)), H', ⟨Nat.le_refl _⟩, ⟨by (with_reducible repeat (first | apply Kd.R_alloc | apply Kd.R_drewN | apply Kd.R_drew)); exact HO590.out⟩, ⟨by (with_reducible repeat (first | apply Kd.S_alloc | apply Kd.S_drewN | apply Kd.S_drew)); exact HO593.out⟩, ⟨by repeat (first | (with_reducible first | exact HB.out | apply below_alloc | apply pw_below_drewN | apply below_drew1) | exact HB.out)⟩⟩
  case round =>
   clear H'
   repeat first | clear c2 | clear c2b0 | clear c2b1 | clear p2 | clear c3 | clear c5
   obtain ⟨x7_1, x8_1, rfl, HA, HK1, HO_5, HO_7, HB⟩ := hrel
   cases gk with
   | zero => exact absurd HA.out (by simp [spileref22_Parse.l0])
   | succ k1 =>
    have H := HA.out
    clear HA
    simp only [spileref22_Parse.l0] at H
    by_cases c7 : x8_1 < (t587.length : Int)
    ·
     rw [if_pos c7] at H
     have c7b0 : decide (x8_1 < (t587.length : Int)) = true := decide_eq_true c7
     clear c7
     by_cases c8 : 0 ≤ x8_1
     ·
      rw [if_pos c8] at H
      have c8b0 : decide (0 ≤ x8_1) = true := decide_eq_true c8
      clear c8
      replace H := Option.bind_eq_some_iff.mp H
      obtain ⟨⟨t595, t596, t597, t598, t601⟩, A90, H⟩ := H
      replace H : (if t601 = true then (if x8_1 = (wrap64 ((t587.length : Int) - 1)) then (if t588 = true then (if x7_1.length < 2932031007402 then (spileref22_Parse.l0 k1 t587 t588 (x7_1 ++ [(⟨t595, (⟨t596, t597⟩ : S26), t598⟩ : S33)]) (wrap64 (x8_1 + 1))) else (none)) else (some (([] : List (S33)), x8_1, 3))) else (if x7_1.length < 2932031007402 then (spileref22_Parse.l0 k1 t587 t588 (x7_1 ++ [(⟨t595, (⟨t596, t597⟩ : S26), t598⟩ : S33)]) (wrap64 (x8_1 + 1))) else (none))) else (some (([] : List (S33)), x8_1, 3))) = some (r1, r2, r3) := H
      have A9 := Aside0.mk A90
      clear A90
      by_cases c10 : t601 = true
      ·
       subst c10
       replace H : (if x8_1 = (wrap64 ((t587.length : Int) - 1)) then (if t588 = true then (if x7_1.length < 2932031007402 then (spileref22_Parse.l0 k1 t587 t588 (x7_1 ++ [(⟨t595, (⟨t596, t597⟩ : S26), t598⟩ : S33)]) (wrap64 (x8_1 + 1))) else (none)) else (some (([] : List (S33)), x8_1, 3))) else (if x7_1.length < 2932031007402 then (spileref22_Parse.l0 k1 t587 t588 (x7_1 ++ [(⟨t595, (⟨t596, t597⟩ : S26), t598⟩ : S33)]) (wrap64 (x8_1 + 1))) else (none))) = some (r1, r2, r3) := by rw [if_pos rfl] at H; exact H
       by_cases c11 : x8_1 = (wrap64 ((t587.length : Int) - 1))
       ·
        rw [if_pos c11] at H
        have c11b0 : (x8_1 == (wrap64 ((t587.length : Int) - 1))) = true := beq_iff_eq.mpr c11
        have c11b1 : (x8_1 != (wrap64 ((t587.length : Int) - 1))) = false := bne_eq_false_iff_eq.mpr c11
        clear c11
        by_cases c12 : t588 = true
        ·
         subst c12
         replace H : (if x7_1.length < 2932031007402 then (spileref22_Parse.l0 k1 t587 true (x7_1 ++ [(⟨t595, (⟨t596, t597⟩ : S26), t598⟩ : S33)]) (wrap64 (x8_1 + 1))) else (none)) = some (r1, r2, r3) := by rw [if_pos rfl] at H; exact H
         by_cases c13 : x7_1.length < 2932031007402
         ·
          rw [if_pos c13] at H
          have LMc13 := Aside0.mk c13
          clear c13
          obtain ⟨y603, hy603⟩ : ∃ y_ : List (S33), y_ = (x7_1 ++ [(⟨t595, (⟨t596, t597⟩ : S26), t598⟩ : S33)]) := ⟨_, rfl⟩
          replace H : (spileref22_Parse.l0 k1 t587 true y603 (wrap64 (x8_1 + 1))) = some (r1, r2, r3) := by first | (rw [hy603]; with_reducible exact H) | (have H2_ := (Option.bind_some _ _).symm.trans H; rw [hy603]; with_reducible exact H2_) | (have H2_ := (Option.bind_some _ _).symm.trans H; with_reducible exact H2_) | with_reducible exact H | (rw [hy603]; exact H) | exact H
          have Ny603 := Aside0.mk hy603
          clear hy603
          have H' := Aside0.mk H
          clear H
          obtain ⟨Ao14, co14, eo14⟩ := Kd.R_slice HO_5.out
          subst eo14
          have p594 : 0 ≤ (x8_1 : Int) := of_decide_eq_true (by first | (with_reducible assumption) | assumption)
          have q594 : x8_1 < (t587.length : Int) := of_decide_eq_true (by first | (with_reducible assumption) | assumption)
          obtain ⟨ad594, e594, hx594_0⟩ := Kd.at_string (Kd.R_reads' HO_5.out).2.2 x8_1 p594 q594
          cases e594
          replace p594 := eq_true p594
          replace q594 := eq_true q594
          go_wp2_with (first | ((with_reducible refine gate_callee (f := 56) rfl ?_); refine goesL_ (some 33) rfl rfl Tryd.func56 (by kernel_rfl) rfl #[.string (rdOf ByteArray.empty t587 x8_1)] rfl (by (try simp only [List.map_toArray, List.map_cons, List.map_nil]); first | done | rfl | (simp only [List.length_drop, List.length_take]; rfl)) ?_; (with_reducible refine (spileref22_read.calls k1 (rdOf ByteArray.empty t587 x8_1) t595 t596 t597 t598 true _ A9.out).mono ?_); rintro e w15 ⟨v599, rfl, ho0, hb⟩; refine ⟨_, rfl, ?_⟩; have n0_ := Aside0.mk (Kd.R_below (by (with_reducible repeat (first | apply Kd.R_alloc | apply Kd.R_drewN | apply Kd.R_drew)); exact HO_5.out) hb); have n1_ := Aside0.mk (Kd.S_elder' (by (with_reducible repeat (first | apply Kd.S_alloc | apply Kd.S_drewN | apply Kd.S_drew)); exact HO_7.out) (Kd.R_base ho0) hb); have n2_ := Aside0.mk (Kd.R_lower ho0 (below_size (by repeat (with_reducible first | exact HB.out | apply below_alloc | apply pw_below_drewN | apply below_drew1)))); have n3_ := Aside0.mk (below_step (by repeat (with_reducible first | exact HB.out | apply below_alloc | apply pw_below_drewN | apply below_drew1)) hb); clear HO_5; clear HO_7; clear HB; have HO_5 := n0_; have HO_7 := n1_; have HO600 := n2_; have HB := n3_; clear n0_ n1_ n2_ n3_; (try clear hb); (try clear hb2); (try clear hk); (try clear hi); (try clear ho0)) | ((with_reducible refine gate_dst (N := 9) rfl ?_); (try (refine gate_guard (by rfl) ?_; dsimp only)); refine box_event ?hg (N := 9) ?hd (cs := #[.int .i64 0, .int .i64 0, .int .i64 0, .slice none 0 0]) (t := 33) ?hr ?_; (case hd => rfl); (case hg => rfl); (case hr => first | (go_simp; done) | (go_simp; rfl)); intro gb602 hg w16 hbox hb; have n0_ := Aside0.mk (Kd.R_below (by (with_reducible repeat (first | apply Kd.R_alloc | apply Kd.R_drewN | apply Kd.R_drew)); exact HO_5.out) hb); have n1_ := Aside0.mk (Kd.S_below (Kd.S_elderB (by (with_reducible repeat (first | apply Kd.S_alloc | apply Kd.S_drewN | apply Kd.S_drew)); exact HO_7.out) gb602 (Nat.le_of_eq hg.symm)) hb); have n2_ := Aside0.mk (Kd.R_below (by (with_reducible repeat (first | apply Kd.R_alloc | apply Kd.R_drewN | apply Kd.R_drew)); exact HO600.out) hb); have n3_ := Aside0.mk (below_step (by repeat (with_reducible first | exact HB.out | apply below_alloc | apply pw_below_drewN | apply below_drew1)) hb); have n4_ := Aside0.mk (hbox); have n5_ := Aside0.mk ((by rw [hg]; exact (below_size (by repeat (with_reducible first | exact HB.out | apply below_alloc | apply pw_below_drewN | apply below_drew1))) : w.heap.size ≤ gb602)); have n6_ := Aside0.mk ((by rw [hg]; exact (below_size (by repeat (with_reducible first | exact HB.out | apply below_alloc | apply pw_below_drewN | apply below_drew1))) : w.heap.size ≤ gb602)); clear HO_5; clear HO_7; clear HO600; clear HB; have HO_5 := n0_; have HO_7 := n1_; have HO600 := n2_; have HB := n3_; have BK602 := n4_; have GW602 := n5_; have GE602 := n6_; clear n0_ n1_ n2_ n3_ n4_ n5_ n6_; clear hb hbox hg; have hcz17_0 : w16.cell? ⟨gb602, 0, none⟩ = some (.int .i64 0) := (blk_cell BK602.out 0).trans rfl; have hcz17_1 : w16.cell? ⟨gb602, 1, none⟩ = some (.int .i64 0) := (blk_cell BK602.out 1).trans rfl; have hcz17_2 : w16.cell? ⟨gb602, 2, none⟩ = some (.int .i64 0) := (blk_cell BK602.out 2).trans rfl; have hcz17_3 : w16.cell? ⟨gb602, 3, none⟩ = some (.slice none 0 0) := (blk_cell BK602.out 3).trans rfl; have hfz17_0 := blk_frozen BK602.out 0; have hfz17_1 := blk_frozen BK602.out 1; have hfz17_2 := blk_frozen BK602.out 2; have hfz17_3 := blk_frozen BK602.out 3; obtain ⟨Ao18, co18, eo18⟩ := Kd.R_slice HO600.out; subst eo18) | ((with_reducible refine gate_store (t := 33) (p := 9) rfl ?_); refine store_event (t := 33) (p := 9) (v := ?vo_w19) (w1 := ((((w16.setCell ⟨gb602, 0, none⟩ (.int .i64 t595)).setCell ⟨gb602, 1, none⟩ (.int .i64 t596)).setCell ⟨gb602, 2, none⟩ (.int .i64 t597)).setCell ⟨gb602, 3, none⟩ (.slice Ao18 t598.length co18))) ?hg ?ho ?hn ?hr ?_; (case ho => rfl); (case hg => rfl); (case hn => rfl); (case hr => first | (go_simp; done) | (go_simp; rfl)); intro w19 hw; have n0_ : Aside0 (Kd.R Kd.string 9 w19 w.heap.size (fun _ => True) (.slice (some ad594) t587.length co14) t587) := ⟨(by rw [hw]; exact (by (with_reducible repeat (first | apply Kd.R_alloc | apply Kd.R_drewN | apply Kd.R_drew)); exact Kd.R_mono (Kd.R_far (p := ⟨gb602, 3, none⟩) (Kd.R_far (p := ⟨gb602, 2, none⟩) (Kd.R_far (p := ⟨gb602, 1, none⟩) (Kd.R_far (p := ⟨gb602, 0, none⟩) (Kd.R_types HO_5.out BK602.out (by decide)) (fun _ hk => hk.2) (.int .i64 t595)) (fun _ hk => hk.2) (.int .i64 t596)) (fun _ hk => hk.2) (.int .i64 t597)) (fun _ hk => hk.2) (.slice Ao18 t598.length co18)) (fun _ hk => trivial)))⟩; have n1_ : Aside0 (Kd.S k33 33 w19 w.heap.size (fun k_ => some k_ ≠ (.slice Ao18 t598.length co18 : Value).ownBlock ∧ k_ ≠ gb602) u7 x7_1) := ⟨(by rw [hw]; exact (by (with_reducible repeat (first | apply Kd.S_alloc | apply Kd.S_drewN | apply Kd.S_drew)); exact Kd.S_mono (Kd.S_far (p := ⟨gb602, 3, none⟩) (Kd.S_far (p := ⟨gb602, 2, none⟩) (Kd.S_far (p := ⟨gb602, 1, none⟩) (Kd.S_far (p := ⟨gb602, 0, none⟩) (Kd.S_mono HO_7.out (fun k_ hk => (⟨hk, hk.2⟩ : _ ∧ k_ ≠ gb602))) (fun _ hk => hk.2) (.int .i64 t595)) (fun _ hk => hk.2) (.int .i64 t596)) (fun _ hk => hk.2) (.int .i64 t597)) (fun _ hk => hk.2) (.slice Ao18 t598.length co18)) (fun _ hk => ⟨hk.1.1.2, hk.1.2⟩)))⟩; have n2_ : Aside0 (Kd.R k35 35 w19 w.heap.size (fun _ => True) (.slice Ao18 t598.length co18) t598) := ⟨(by rw [hw]; exact (by (with_reducible repeat (first | apply Kd.R_alloc | apply Kd.R_drewN | apply Kd.R_drew)); exact Kd.R_mono (Kd.R_far (p := ⟨gb602, 3, none⟩) (Kd.R_far (p := ⟨gb602, 2, none⟩) (Kd.R_far (p := ⟨gb602, 1, none⟩) (Kd.R_far (p := ⟨gb602, 0, none⟩) (Kd.R_types HO600.out BK602.out (by decide)) (fun _ hk => hk.2) (.int .i64 t595)) (fun _ hk => hk.2) (.int .i64 t596)) (fun _ hk => hk.2) (.int .i64 t597)) (fun _ hk => hk.2) (.slice Ao18 t598.length co18)) (fun _ hk => trivial)))⟩; have n3_ : Aside0 (w19.heap[gb602]? = some (.cells #[.int .i64 t595, .int .i64 t596, .int .i64 t597, .slice Ao18 t598.length co18] 33 (0, 0))) := ⟨(by rw [hw]; exact (by (with_reducible repeat (first | refine blk_drewN ?_ _ | refine blk_drew ?_ | refine blk_alloc ?_ _)); refine blk_put (cs := #[.int .i64 t595, .int .i64 t596, .int .i64 t597, .slice none 0 0]) ?_ 3 _ rfl; (with_reducible repeat (first | refine blk_drewN ?_ _ | refine blk_drew ?_ | refine blk_alloc ?_ _)); refine blk_put (cs := #[.int .i64 t595, .int .i64 t596, .int .i64 0, .slice none 0 0]) ?_ 2 _ rfl; (with_reducible repeat (first | refine blk_drewN ?_ _ | refine blk_drew ?_ | refine blk_alloc ?_ _)); refine blk_put (cs := #[.int .i64 t595, .int .i64 0, .int .i64 0, .slice none 0 0]) ?_ 1 _ rfl; (with_reducible repeat (first | refine blk_drewN ?_ _ | refine blk_drew ?_ | refine blk_alloc ?_ _)); refine blk_put (cs := #[.int .i64 0, .int .i64 0, .int .i64 0, .slice none 0 0]) ?_ 0 _ rfl; (with_reducible repeat (first | refine blk_drewN ?_ _ | refine blk_drew ?_ | refine blk_alloc ?_ _)); exact BK602.out))⟩; have n4_ : Aside0 (Below w.heap.size w w19) := ⟨(by rw [hw]; exact (by repeat (with_reducible first | exact HB.out | apply below_alloc | apply pw_below_drewN | apply below_drew1 | refine below_set ?_ GE602.out)))⟩; clear hw; clear HO_5; clear HO_7; clear HO600; clear BK602; clear HB; have HO_5 := n0_; have HO_7 := n1_; have HO600 := n2_; have BK602 := n3_; have HB := n4_; clear n0_ n1_ n2_ n3_ n4_; have hcz20_0 : w19.cell? ⟨gb602, 0, none⟩ = some (.int .i64 t595) := (blk_cell BK602.out 0).trans rfl; have hcz20_1 : w19.cell? ⟨gb602, 1, none⟩ = some (.int .i64 t596) := (blk_cell BK602.out 1).trans rfl; have hcz20_2 : w19.cell? ⟨gb602, 2, none⟩ = some (.int .i64 t597) := (blk_cell BK602.out 2).trans rfl; have hcz20_3 : w19.cell? ⟨gb602, 3, none⟩ = some (.slice Ao18 t598.length co18) := (blk_cell BK602.out 3).trans rfl; have hfz20_0 := blk_frozen BK602.out 0; have hfz20_1 := blk_frozen BK602.out 1; have hfz20_2 := blk_frozen BK602.out 2; have hfz20_3 := blk_frozen BK602.out 3) | ((with_reducible refine gate_builtin (b := .append) (xs := #[.tmp 50, .tmp 52]) rfl ?_); (try (refine gate_guard (by rfl) ?_; dsimp only)); at_builtin; refine Kd.S_append k33 (w0 := w) w.heap.size rfl (.tmp 50) (.tmp 52) 22 33 (.agg #[(.int .i64 0), (.int .i64 0), (.int .i64 0), (.slice none 0 0)]) 48 rfl Tryd.underlying22 info33 rfl (by decide) (by omega) u7 x7_1 (⟨t595, (⟨t596, t597⟩ : S26), t598⟩ : S33) [.int .i64 t595, .int .i64 t596, .int .i64 t597, .slice Ao18 t598.length co18] (fun k_ => k_ ≠ gb602) (fun k_ => some k_ = (.slice Ao18 t598.length co18 : Value).ownBlock) rfl rfl ?aP (fun k_ hk_ => ((Kd.R_mono (ok' := fun k_ => ((fun k_ => k_ ≠ gb602)) k_ ∧ some k_ ≠ (u7 : Value).ownBlock) (Kd.R_types (Kd.R_apart' (HO600.out) (Kd.S_typed HO_7.out) (by decide)) BK602.out (by decide)) (fun k_ hk => ⟨hk.2, hk.1.2⟩))).1 k_ hk_.symm) ?aF ?aO ?aB ?aS ?aL ?_; (case aP => exact k33_mkM _ _ _ (⟨t595, (⟨t596, t597⟩ : S26), t598⟩ : S33) (Kd.R_mono (Kd.R_tight rfl (Kd.R_mono (ok' := fun k_ => ((fun k_ => k_ ≠ gb602)) k_ ∧ some k_ ≠ (u7 : Value).ownBlock) (Kd.R_types (Kd.R_apart' (HO600.out) (Kd.S_typed HO_7.out) (by decide)) BK602.out (by decide)) (fun k_ hk => ⟨hk.2, hk.1.2⟩))) (fun _ h_ => h_))); (case aB => exact (by repeat (with_reducible first | exact HB.out | apply below_alloc | apply pw_below_drewN | apply below_drew1 | refine below_set ?_ GE602.out))); (case aF => exact (fun k_ hk => Kd.freshB (g := gb602) (o := .cells #[.int .i64 t595, .int .i64 t596, .int .i64 t597, .slice Ao18 t598.length co18] 33 (0, 0)) (by (with_reducible repeat (first | refine blk_drewN ?_ _ | refine blk_drew ?_ | refine blk_alloc ?_ _)); exact BK602.out) k_ hk)); (case aO => exact (by (with_reducible repeat (first | apply Kd.S_alloc | apply Kd.S_drewN | apply Kd.S_drew)); exact Kd.S_mono HO_7.out (fun k_ hk => ⟨hk.2, fun e_ => hk.1 e_⟩))); (case aS => exact (below_size (by repeat (with_reducible first | exact HB.out | apply below_alloc | apply pw_below_drewN | apply below_drew1 | refine below_set ?_ GE602.out)))); (case aL => have := LMc13.out; omega); intro v604 w21 ho hb hg hat; rw [← Ny603.out] at ho; have n0_ := Aside0.mk (Kd.R_over' (by (with_reducible repeat (first | apply Kd.R_alloc | apply Kd.R_drewN | apply Kd.R_drew)); exact HO_5.out) (Kd.S_typed (by (with_reducible repeat (first | apply Kd.S_alloc | apply Kd.S_drewN | apply Kd.S_drew)); exact HO_7.out)) (by decide) hg); have n1_ := Aside0.mk (blk_grown (g := gb602) (o := .cells #[.int .i64 t595, .int .i64 t596, .int .i64 t597, .slice Ao18 t598.length co18] 33 (0, 0)) (by (with_reducible repeat (first | refine blk_drewN ?_ _ | refine blk_drew ?_ | refine blk_alloc ?_ _)); exact BK602.out) hg (Kd.S_away HO_7.out (fun _ hk => hk.2))); have n2_ := Aside0.mk (hb); have n3_ := Aside0.mk (ho); clear HO_5; clear BK602; clear HB; clear HO_7; clear HO600; have HO_5 := n0_; have BK602 := n1_; have HB := n2_; have HO605 := n3_; clear n0_ n1_ n2_ n3_; clear ho hb hg hat))
          go_roundg k1
          case measure => have := HK1.out; omega
          case rel => exact ⟨(y603), (wrap64 (x8_1 + 1)), (by first | rfl | (simp; done) | (simp [*]; done)), H', ⟨by have := HK1.out; omega⟩, ⟨by (with_reducible repeat (first | apply Kd.R_alloc | apply Kd.R_drewN | apply Kd.R_drew)); exact HO_5.out⟩, ⟨by (with_reducible repeat (first | apply Kd.S_alloc | apply Kd.S_drewN | apply Kd.S_drew)); exact Kd.S_mono HO605.out (fun _ hk => trivial)⟩, ⟨by repeat (first | (with_reducible first | exact HB.out | apply below_alloc | apply pw_below_drewN | apply below_drew1 | refine below_set ?_ GE602.out) | exact HB.out)⟩⟩
         ·
          rw [if_neg c13] at H
          exact absurd H (by simp)
        ·
         replace c12 := Bool.eq_false_iff.mpr c12
         subst c12
         replace H : (some (([] : List (S33)), x8_1, 3)) = some (r1, r2, r3) := by rw [if_neg (show ¬ (false = true) by decide)] at H; exact H
         simp only [Option.some.injEq, Prod.mk.injEq] at H
         obtain ⟨rfl, rfl, rfl⟩ := H
         obtain ⟨Ao22, co22, eo22⟩ := Kd.R_slice HO_5.out
         subst eo22
         have p594 : 0 ≤ (x8_1 : Int) := of_decide_eq_true (by first | (with_reducible assumption) | assumption)
         have q594 : x8_1 < (t587.length : Int) := of_decide_eq_true (by first | (with_reducible assumption) | assumption)
         obtain ⟨ad594, e594, hx594_0⟩ := Kd.at_string (Kd.R_reads' HO_5.out).2.2 x8_1 p594 q594
         cases e594
         replace p594 := eq_true p594
         replace q594 := eq_true q594
         go_wp2_with (first | ((with_reducible refine gate_callee (f := 56) rfl ?_); refine goesL_ (some 33) rfl rfl Tryd.func56 (by kernel_rfl) rfl #[.string (rdOf ByteArray.empty t587 x8_1)] rfl (by (try simp only [List.map_toArray, List.map_cons, List.map_nil]); first | done | rfl | (simp only [List.length_drop, List.length_take]; rfl)) ?_; (with_reducible refine (spileref22_read.calls k1 (rdOf ByteArray.empty t587 x8_1) t595 t596 t597 t598 true _ A9.out).mono ?_); rintro e w23 ⟨v599, rfl, ho0, hb⟩; refine ⟨_, rfl, ?_⟩; have n0_ := Aside0.mk (Kd.R_below (by (with_reducible repeat (first | apply Kd.R_alloc | apply Kd.R_drewN | apply Kd.R_drew)); exact HO_5.out) hb); have n1_ := Aside0.mk (Kd.S_elder' (by (with_reducible repeat (first | apply Kd.S_alloc | apply Kd.S_drewN | apply Kd.S_drew)); exact HO_7.out) (Kd.R_base ho0) hb); have n2_ := Aside0.mk (Kd.R_lower ho0 (below_size (by repeat (with_reducible first | exact HB.out | apply below_alloc | apply pw_below_drewN | apply below_drew1)))); have n3_ := Aside0.mk (below_step (by repeat (with_reducible first | exact HB.out | apply below_alloc | apply pw_below_drewN | apply below_drew1)) hb); clear HO_5; clear HO_7; clear HB; have HO_5 := n0_; have HO_7 := n1_; have HO600 := n2_; have HB := n3_; clear n0_ n1_ n2_ n3_; (try clear hb); (try clear hb2); (try clear hk); (try clear hi); (try clear ho0)) | ((with_reducible refine gate_dst (N := 9) rfl ?_); (try (refine gate_guard (by rfl) ?_; dsimp only)); refine box_event ?hg (N := 9) ?hd (cs := #[.int .i64 0, .int .i64 0, .int .i64 0, .slice none 0 0]) (t := 33) ?hr ?_; (case hd => rfl); (case hg => rfl); (case hr => first | (go_simp; done) | (go_simp; rfl)); intro gb602 hg w24 hbox hb; have n0_ := Aside0.mk (Kd.R_below (by (with_reducible repeat (first | apply Kd.R_alloc | apply Kd.R_drewN | apply Kd.R_drew)); exact HO_5.out) hb); have n1_ := Aside0.mk (Kd.S_below (Kd.S_elderB (by (with_reducible repeat (first | apply Kd.S_alloc | apply Kd.S_drewN | apply Kd.S_drew)); exact HO_7.out) gb602 (Nat.le_of_eq hg.symm)) hb); have n2_ := Aside0.mk (Kd.R_below (by (with_reducible repeat (first | apply Kd.R_alloc | apply Kd.R_drewN | apply Kd.R_drew)); exact HO600.out) hb); have n3_ := Aside0.mk (below_step (by repeat (with_reducible first | exact HB.out | apply below_alloc | apply pw_below_drewN | apply below_drew1)) hb); have n4_ := Aside0.mk (hbox); have n5_ := Aside0.mk ((by rw [hg]; exact (below_size (by repeat (with_reducible first | exact HB.out | apply below_alloc | apply pw_below_drewN | apply below_drew1))) : w.heap.size ≤ gb602)); have n6_ := Aside0.mk ((by rw [hg]; exact (below_size (by repeat (with_reducible first | exact HB.out | apply below_alloc | apply pw_below_drewN | apply below_drew1))) : w.heap.size ≤ gb602)); clear HO_5; clear HO_7; clear HO600; clear HB; have HO_5 := n0_; have HO_7 := n1_; have HO600 := n2_; have HB := n3_; have BK602 := n4_; have GW602 := n5_; have GE602 := n6_; clear n0_ n1_ n2_ n3_ n4_ n5_ n6_; clear hb hbox hg; have hcz25_0 : w24.cell? ⟨gb602, 0, none⟩ = some (.int .i64 0) := (blk_cell BK602.out 0).trans rfl; have hcz25_1 : w24.cell? ⟨gb602, 1, none⟩ = some (.int .i64 0) := (blk_cell BK602.out 1).trans rfl; have hcz25_2 : w24.cell? ⟨gb602, 2, none⟩ = some (.int .i64 0) := (blk_cell BK602.out 2).trans rfl; have hcz25_3 : w24.cell? ⟨gb602, 3, none⟩ = some (.slice none 0 0) := (blk_cell BK602.out 3).trans rfl; have hfz25_0 := blk_frozen BK602.out 0; have hfz25_1 := blk_frozen BK602.out 1; have hfz25_2 := blk_frozen BK602.out 2; have hfz25_3 := blk_frozen BK602.out 3; obtain ⟨Ao26, co26, eo26⟩ := Kd.R_slice HO600.out; subst eo26))
         go_ret3
         exact ⟨_, by first | rfl | (simp [errW_none, errW_some] <;> rfl) | (simp [*, errW_none, errW_some] <;> rfl), by first | exact Kd.S_nil _ _ _ _ _ | exact Kd.N_nil _ _ _ _ _ | exact Kd.V_nil _ _ _ _ _ | exact Kd.Q_nil _ _ _ _ _ | exact Kd.R_nil _ _ _ _ _, by repeat (first | (with_reducible first | exact HB.out | apply below_alloc | apply pw_below_drewN | apply below_drew1 | refine below_set ?_ GE602.out) | exact HB.out)⟩
       ·
        rw [if_neg c11] at H
        have c11b0 : (x8_1 == (wrap64 ((t587.length : Int) - 1))) = false := beq_eq_false_iff_ne.mpr c11
        have c11b1 : (x8_1 != (wrap64 ((t587.length : Int) - 1))) = true := bne_iff_ne.mpr c11
        by_cases c27 : x7_1.length < 2932031007402
        ·
         rw [if_pos c27] at H
         have LMc27 := Aside0.mk c27
         clear c27
         obtain ⟨y606, hy606⟩ : ∃ y_ : List (S33), y_ = (x7_1 ++ [(⟨t595, (⟨t596, t597⟩ : S26), t598⟩ : S33)]) := ⟨_, rfl⟩
         replace H : (spileref22_Parse.l0 k1 t587 t588 y606 (wrap64 (x8_1 + 1))) = some (r1, r2, r3) := by first | (rw [hy606]; with_reducible exact H) | (have H2_ := (Option.bind_some _ _).symm.trans H; rw [hy606]; with_reducible exact H2_) | (have H2_ := (Option.bind_some _ _).symm.trans H; with_reducible exact H2_) | with_reducible exact H | (rw [hy606]; exact H) | exact H
         have Ny606 := Aside0.mk hy606
         clear hy606
         have H' := Aside0.mk H
         clear H
         obtain ⟨Ao28, co28, eo28⟩ := Kd.R_slice HO_5.out
         subst eo28
         have p594 : 0 ≤ (x8_1 : Int) := of_decide_eq_true (by first | (with_reducible assumption) | assumption)
         have q594 : x8_1 < (t587.length : Int) := of_decide_eq_true (by first | (with_reducible assumption) | assumption)
         obtain ⟨ad594, e594, hx594_0⟩ := Kd.at_string (Kd.R_reads' HO_5.out).2.2 x8_1 p594 q594
         cases e594
         replace p594 := eq_true p594
         replace q594 := eq_true q594
         go_wp2_with (first | ((with_reducible refine gate_callee (f := 56) rfl ?_); refine goesL_ (some 33) rfl rfl Tryd.func56 (by kernel_rfl) rfl #[.string (rdOf ByteArray.empty t587 x8_1)] rfl (by (try simp only [List.map_toArray, List.map_cons, List.map_nil]); first | done | rfl | (simp only [List.length_drop, List.length_take]; rfl)) ?_; (with_reducible refine (spileref22_read.calls k1 (rdOf ByteArray.empty t587 x8_1) t595 t596 t597 t598 true _ A9.out).mono ?_); rintro e w29 ⟨v599, rfl, ho0, hb⟩; refine ⟨_, rfl, ?_⟩; have n0_ := Aside0.mk (Kd.R_below (by (with_reducible repeat (first | apply Kd.R_alloc | apply Kd.R_drewN | apply Kd.R_drew)); exact HO_5.out) hb); have n1_ := Aside0.mk (Kd.S_elder' (by (with_reducible repeat (first | apply Kd.S_alloc | apply Kd.S_drewN | apply Kd.S_drew)); exact HO_7.out) (Kd.R_base ho0) hb); have n2_ := Aside0.mk (Kd.R_lower ho0 (below_size (by repeat (with_reducible first | exact HB.out | apply below_alloc | apply pw_below_drewN | apply below_drew1)))); have n3_ := Aside0.mk (below_step (by repeat (with_reducible first | exact HB.out | apply below_alloc | apply pw_below_drewN | apply below_drew1)) hb); clear HO_5; clear HO_7; clear HB; have HO_5 := n0_; have HO_7 := n1_; have HO600 := n2_; have HB := n3_; clear n0_ n1_ n2_ n3_; (try clear hb); (try clear hb2); (try clear hk); (try clear hi); (try clear ho0)) | ((with_reducible refine gate_dst (N := 9) rfl ?_); (try (refine gate_guard (by rfl) ?_; dsimp only)); refine box_event ?hg (N := 9) ?hd (cs := #[.int .i64 0, .int .i64 0, .int .i64 0, .slice none 0 0]) (t := 33) ?hr ?_; (case hd => rfl); (case hg => rfl); (case hr => first | (go_simp; done) | (go_simp; rfl)); intro gb602 hg w30 hbox hb; have n0_ := Aside0.mk (Kd.R_below (by (with_reducible repeat (first | apply Kd.R_alloc | apply Kd.R_drewN | apply Kd.R_drew)); exact HO_5.out) hb); have n1_ := Aside0.mk (Kd.S_below (Kd.S_elderB (by (with_reducible repeat (first | apply Kd.S_alloc | apply Kd.S_drewN | apply Kd.S_drew)); exact HO_7.out) gb602 (Nat.le_of_eq hg.symm)) hb); have n2_ := Aside0.mk (Kd.R_below (by (with_reducible repeat (first | apply Kd.R_alloc | apply Kd.R_drewN | apply Kd.R_drew)); exact HO600.out) hb); have n3_ := Aside0.mk (below_step (by repeat (with_reducible first | exact HB.out | apply below_alloc | apply pw_below_drewN | apply below_drew1)) hb); have n4_ := Aside0.mk (hbox); have n5_ := Aside0.mk ((by rw [hg]; exact (below_size (by repeat (with_reducible first | exact HB.out | apply below_alloc | apply pw_below_drewN | apply below_drew1))) : w.heap.size ≤ gb602)); have n6_ := Aside0.mk ((by rw [hg]; exact (below_size (by repeat (with_reducible first | exact HB.out | apply below_alloc | apply pw_below_drewN | apply below_drew1))) : w.heap.size ≤ gb602)); clear HO_5; clear HO_7; clear HO600; clear HB; have HO_5 := n0_; have HO_7 := n1_; have HO600 := n2_; have HB := n3_; have BK602 := n4_; have GW602 := n5_; have GE602 := n6_; clear n0_ n1_ n2_ n3_ n4_ n5_ n6_; clear hb hbox hg; have hcz31_0 : w30.cell? ⟨gb602, 0, none⟩ = some (.int .i64 0) := (blk_cell BK602.out 0).trans rfl; have hcz31_1 : w30.cell? ⟨gb602, 1, none⟩ = some (.int .i64 0) := (blk_cell BK602.out 1).trans rfl; have hcz31_2 : w30.cell? ⟨gb602, 2, none⟩ = some (.int .i64 0) := (blk_cell BK602.out 2).trans rfl; have hcz31_3 : w30.cell? ⟨gb602, 3, none⟩ = some (.slice none 0 0) := (blk_cell BK602.out 3).trans rfl; have hfz31_0 := blk_frozen BK602.out 0; have hfz31_1 := blk_frozen BK602.out 1; have hfz31_2 := blk_frozen BK602.out 2; have hfz31_3 := blk_frozen BK602.out 3; obtain ⟨Ao32, co32, eo32⟩ := Kd.R_slice HO600.out; subst eo32) | ((with_reducible refine gate_store (t := 33) (p := 9) rfl ?_); refine store_event (t := 33) (p := 9) (v := ?vo_w33) (w1 := ((((w30.setCell ⟨gb602, 0, none⟩ (.int .i64 t595)).setCell ⟨gb602, 1, none⟩ (.int .i64 t596)).setCell ⟨gb602, 2, none⟩ (.int .i64 t597)).setCell ⟨gb602, 3, none⟩ (.slice Ao32 t598.length co32))) ?hg ?ho ?hn ?hr ?_; (case ho => rfl); (case hg => rfl); (case hn => rfl); (case hr => first | (go_simp; done) | (go_simp; rfl)); intro w33 hw; have n0_ : Aside0 (Kd.R Kd.string 9 w33 w.heap.size (fun _ => True) (.slice (some ad594) t587.length co28) t587) := ⟨(by rw [hw]; exact (by (with_reducible repeat (first | apply Kd.R_alloc | apply Kd.R_drewN | apply Kd.R_drew)); exact Kd.R_mono (Kd.R_far (p := ⟨gb602, 3, none⟩) (Kd.R_far (p := ⟨gb602, 2, none⟩) (Kd.R_far (p := ⟨gb602, 1, none⟩) (Kd.R_far (p := ⟨gb602, 0, none⟩) (Kd.R_types HO_5.out BK602.out (by decide)) (fun _ hk => hk.2) (.int .i64 t595)) (fun _ hk => hk.2) (.int .i64 t596)) (fun _ hk => hk.2) (.int .i64 t597)) (fun _ hk => hk.2) (.slice Ao32 t598.length co32)) (fun _ hk => trivial)))⟩; have n1_ : Aside0 (Kd.S k33 33 w33 w.heap.size (fun k_ => some k_ ≠ (.slice Ao32 t598.length co32 : Value).ownBlock ∧ k_ ≠ gb602) u7 x7_1) := ⟨(by rw [hw]; exact (by (with_reducible repeat (first | apply Kd.S_alloc | apply Kd.S_drewN | apply Kd.S_drew)); exact Kd.S_mono (Kd.S_far (p := ⟨gb602, 3, none⟩) (Kd.S_far (p := ⟨gb602, 2, none⟩) (Kd.S_far (p := ⟨gb602, 1, none⟩) (Kd.S_far (p := ⟨gb602, 0, none⟩) (Kd.S_mono HO_7.out (fun k_ hk => (⟨hk, hk.2⟩ : _ ∧ k_ ≠ gb602))) (fun _ hk => hk.2) (.int .i64 t595)) (fun _ hk => hk.2) (.int .i64 t596)) (fun _ hk => hk.2) (.int .i64 t597)) (fun _ hk => hk.2) (.slice Ao32 t598.length co32)) (fun _ hk => ⟨hk.1.1.2, hk.1.2⟩)))⟩; have n2_ : Aside0 (Kd.R k35 35 w33 w.heap.size (fun _ => True) (.slice Ao32 t598.length co32) t598) := ⟨(by rw [hw]; exact (by (with_reducible repeat (first | apply Kd.R_alloc | apply Kd.R_drewN | apply Kd.R_drew)); exact Kd.R_mono (Kd.R_far (p := ⟨gb602, 3, none⟩) (Kd.R_far (p := ⟨gb602, 2, none⟩) (Kd.R_far (p := ⟨gb602, 1, none⟩) (Kd.R_far (p := ⟨gb602, 0, none⟩) (Kd.R_types HO600.out BK602.out (by decide)) (fun _ hk => hk.2) (.int .i64 t595)) (fun _ hk => hk.2) (.int .i64 t596)) (fun _ hk => hk.2) (.int .i64 t597)) (fun _ hk => hk.2) (.slice Ao32 t598.length co32)) (fun _ hk => trivial)))⟩; have n3_ : Aside0 (w33.heap[gb602]? = some (.cells #[.int .i64 t595, .int .i64 t596, .int .i64 t597, .slice Ao32 t598.length co32] 33 (0, 0))) := ⟨(by rw [hw]; exact (by (with_reducible repeat (first | refine blk_drewN ?_ _ | refine blk_drew ?_ | refine blk_alloc ?_ _)); refine blk_put (cs := #[.int .i64 t595, .int .i64 t596, .int .i64 t597, .slice none 0 0]) ?_ 3 _ rfl; (with_reducible repeat (first | refine blk_drewN ?_ _ | refine blk_drew ?_ | refine blk_alloc ?_ _)); refine blk_put (cs := #[.int .i64 t595, .int .i64 t596, .int .i64 0, .slice none 0 0]) ?_ 2 _ rfl; (with_reducible repeat (first | refine blk_drewN ?_ _ | refine blk_drew ?_ | refine blk_alloc ?_ _)); refine blk_put (cs := #[.int .i64 t595, .int .i64 0, .int .i64 0, .slice none 0 0]) ?_ 1 _ rfl; (with_reducible repeat (first | refine blk_drewN ?_ _ | refine blk_drew ?_ | refine blk_alloc ?_ _)); refine blk_put (cs := #[.int .i64 0, .int .i64 0, .int .i64 0, .slice none 0 0]) ?_ 0 _ rfl; (with_reducible repeat (first | refine blk_drewN ?_ _ | refine blk_drew ?_ | refine blk_alloc ?_ _)); exact BK602.out))⟩; have n4_ : Aside0 (Below w.heap.size w w33) := ⟨(by rw [hw]; exact (by repeat (with_reducible first | exact HB.out | apply below_alloc | apply pw_below_drewN | apply below_drew1 | refine below_set ?_ GE602.out)))⟩; clear hw; clear HO_5; clear HO_7; clear HO600; clear BK602; clear HB; have HO_5 := n0_; have HO_7 := n1_; have HO600 := n2_; have BK602 := n3_; have HB := n4_; clear n0_ n1_ n2_ n3_ n4_; have hcz34_0 : w33.cell? ⟨gb602, 0, none⟩ = some (.int .i64 t595) := (blk_cell BK602.out 0).trans rfl; have hcz34_1 : w33.cell? ⟨gb602, 1, none⟩ = some (.int .i64 t596) := (blk_cell BK602.out 1).trans rfl; have hcz34_2 : w33.cell? ⟨gb602, 2, none⟩ = some (.int .i64 t597) := (blk_cell BK602.out 2).trans rfl; have hcz34_3 : w33.cell? ⟨gb602, 3, none⟩ = some (.slice Ao32 t598.length co32) := (blk_cell BK602.out 3).trans rfl; have hfz34_0 := blk_frozen BK602.out 0; have hfz34_1 := blk_frozen BK602.out 1; have hfz34_2 := blk_frozen BK602.out 2; have hfz34_3 := blk_frozen BK602.out 3) | ((with_reducible refine gate_builtin (b := .append) (xs := #[.tmp 50, .tmp 52]) rfl ?_); (try (refine gate_guard (by rfl) ?_; dsimp only)); at_builtin; refine Kd.S_append k33 (w0 := w) w.heap.size rfl (.tmp 50) (.tmp 52) 22 33 (.agg #[(.int .i64 0), (.int .i64 0), (.int .i64 0), (.slice none 0 0)]) 48 rfl Tryd.underlying22 info33 rfl (by decide) (by omega) u7 x7_1 (⟨t595, (⟨t596, t597⟩ : S26), t598⟩ : S33) [.int .i64 t595, .int .i64 t596, .int .i64 t597, .slice Ao32 t598.length co32] (fun k_ => k_ ≠ gb602) (fun k_ => some k_ = (.slice Ao32 t598.length co32 : Value).ownBlock) rfl rfl ?aP (fun k_ hk_ => ((Kd.R_mono (ok' := fun k_ => ((fun k_ => k_ ≠ gb602)) k_ ∧ some k_ ≠ (u7 : Value).ownBlock) (Kd.R_types (Kd.R_apart' (HO600.out) (Kd.S_typed HO_7.out) (by decide)) BK602.out (by decide)) (fun k_ hk => ⟨hk.2, hk.1.2⟩))).1 k_ hk_.symm) ?aF ?aO ?aB ?aS ?aL ?_; (case aP => exact k33_mkM _ _ _ (⟨t595, (⟨t596, t597⟩ : S26), t598⟩ : S33) (Kd.R_mono (Kd.R_tight rfl (Kd.R_mono (ok' := fun k_ => ((fun k_ => k_ ≠ gb602)) k_ ∧ some k_ ≠ (u7 : Value).ownBlock) (Kd.R_types (Kd.R_apart' (HO600.out) (Kd.S_typed HO_7.out) (by decide)) BK602.out (by decide)) (fun k_ hk => ⟨hk.2, hk.1.2⟩))) (fun _ h_ => h_))); (case aB => exact (by repeat (with_reducible first | exact HB.out | apply below_alloc | apply pw_below_drewN | apply below_drew1 | refine below_set ?_ GE602.out))); (case aF => exact (fun k_ hk => Kd.freshB (g := gb602) (o := .cells #[.int .i64 t595, .int .i64 t596, .int .i64 t597, .slice Ao32 t598.length co32] 33 (0, 0)) (by (with_reducible repeat (first | refine blk_drewN ?_ _ | refine blk_drew ?_ | refine blk_alloc ?_ _)); exact BK602.out) k_ hk)); (case aO => exact (by (with_reducible repeat (first | apply Kd.S_alloc | apply Kd.S_drewN | apply Kd.S_drew)); exact Kd.S_mono HO_7.out (fun k_ hk => ⟨hk.2, fun e_ => hk.1 e_⟩))); (case aS => exact (below_size (by repeat (with_reducible first | exact HB.out | apply below_alloc | apply pw_below_drewN | apply below_drew1 | refine below_set ?_ GE602.out)))); (case aL => have := LMc27.out; omega); intro v607 w35 ho hb hg hat; rw [← Ny606.out] at ho; have n0_ := Aside0.mk (Kd.R_over' (by (with_reducible repeat (first | apply Kd.R_alloc | apply Kd.R_drewN | apply Kd.R_drew)); exact HO_5.out) (Kd.S_typed (by (with_reducible repeat (first | apply Kd.S_alloc | apply Kd.S_drewN | apply Kd.S_drew)); exact HO_7.out)) (by decide) hg); have n1_ := Aside0.mk (blk_grown (g := gb602) (o := .cells #[.int .i64 t595, .int .i64 t596, .int .i64 t597, .slice Ao32 t598.length co32] 33 (0, 0)) (by (with_reducible repeat (first | refine blk_drewN ?_ _ | refine blk_drew ?_ | refine blk_alloc ?_ _)); exact BK602.out) hg (Kd.S_away HO_7.out (fun _ hk => hk.2))); have n2_ := Aside0.mk (hb); have n3_ := Aside0.mk (ho); clear HO_5; clear BK602; clear HB; clear HO_7; clear HO600; have HO_5 := n0_; have BK602 := n1_; have HB := n2_; have HO608 := n3_; clear n0_ n1_ n2_ n3_; clear ho hb hg hat))
         go_roundg k1
         case measure => have := HK1.out; omega
         case rel => exact ⟨(y606), (wrap64 (x8_1 + 1)), (by first | rfl | (simp; done) | (simp [*]; done)), H', ⟨by have := HK1.out; omega⟩, ⟨by (with_reducible repeat (first | apply Kd.R_alloc | apply Kd.R_drewN | apply Kd.R_drew)); exact HO_5.out⟩, ⟨by (with_reducible repeat (first | apply Kd.S_alloc | apply Kd.S_drewN | apply Kd.S_drew)); exact Kd.S_mono HO608.out (fun _ hk => trivial)⟩, ⟨by repeat (first | (with_reducible first | exact HB.out | apply below_alloc | apply pw_below_drewN | apply below_drew1 | refine below_set ?_ GE602.out) | exact HB.out)⟩⟩
        ·
         rw [if_neg c27] at H
         exact absurd H (by simp)
      ·
       replace c10 := Bool.eq_false_iff.mpr c10
       subst c10
       replace H : (some (([] : List (S33)), x8_1, 3)) = some (r1, r2, r3) := by rw [if_neg (show ¬ (false = true) by decide)] at H; exact H
       simp only [Option.some.injEq, Prod.mk.injEq] at H
       obtain ⟨rfl, rfl, rfl⟩ := H
       obtain ⟨Ao36, co36, eo36⟩ := Kd.R_slice HO_5.out
       subst eo36
       have p594 : 0 ≤ (x8_1 : Int) := of_decide_eq_true (by first | (with_reducible assumption) | assumption)
       have q594 : x8_1 < (t587.length : Int) := of_decide_eq_true (by first | (with_reducible assumption) | assumption)
       obtain ⟨ad594, e594, hx594_0⟩ := Kd.at_string (Kd.R_reads' HO_5.out).2.2 x8_1 p594 q594
       cases e594
       replace p594 := eq_true p594
       replace q594 := eq_true q594
       go_wp2_with (first | ((with_reducible refine gate_callee (f := 56) rfl ?_); refine goesL_ (some 33) rfl rfl Tryd.func56 (by kernel_rfl) rfl #[.string (rdOf ByteArray.empty t587 x8_1)] rfl (by (try simp only [List.map_toArray, List.map_cons, List.map_nil]); first | done | rfl | (simp only [List.length_drop, List.length_take]; rfl)) ?_; (with_reducible refine (spileref22_read.calls k1 (rdOf ByteArray.empty t587 x8_1) t595 t596 t597 t598 false _ A9.out).mono ?_); rintro e w37 ⟨v599, rfl, ho0, hb⟩; refine ⟨_, rfl, ?_⟩; have n0_ := Aside0.mk (Kd.R_below (by (with_reducible repeat (first | apply Kd.R_alloc | apply Kd.R_drewN | apply Kd.R_drew)); exact HO_5.out) hb); have n1_ := Aside0.mk (Kd.S_elder' (by (with_reducible repeat (first | apply Kd.S_alloc | apply Kd.S_drewN | apply Kd.S_drew)); exact HO_7.out) (Kd.R_base ho0) hb); have n2_ := Aside0.mk (Kd.R_lower ho0 (below_size (by repeat (with_reducible first | exact HB.out | apply below_alloc | apply pw_below_drewN | apply below_drew1)))); have n3_ := Aside0.mk (below_step (by repeat (with_reducible first | exact HB.out | apply below_alloc | apply pw_below_drewN | apply below_drew1)) hb); clear HO_5; clear HO_7; clear HB; have HO_5 := n0_; have HO_7 := n1_; have HO600 := n2_; have HB := n3_; clear n0_ n1_ n2_ n3_; (try clear hb); (try clear hb2); (try clear hk); (try clear hi); (try clear ho0)) | ((with_reducible refine gate_dst (N := 9) rfl ?_); (try (refine gate_guard (by rfl) ?_; dsimp only)); refine box_event ?hg (N := 9) ?hd (cs := #[.int .i64 0, .int .i64 0, .int .i64 0, .slice none 0 0]) (t := 33) ?hr ?_; (case hd => rfl); (case hg => rfl); (case hr => first | (go_simp; done) | (go_simp; rfl)); intro gb602 hg w38 hbox hb; have n0_ := Aside0.mk (Kd.R_below (by (with_reducible repeat (first | apply Kd.R_alloc | apply Kd.R_drewN | apply Kd.R_drew)); exact HO_5.out) hb); have n1_ := Aside0.mk (Kd.S_below (Kd.S_elderB (by (with_reducible repeat (first | apply Kd.S_alloc | apply Kd.S_drewN | apply Kd.S_drew)); exact HO_7.out) gb602 (Nat.le_of_eq hg.symm)) hb); have n2_ := Aside0.mk (Kd.R_below (by (with_reducible repeat (first | apply Kd.R_alloc | apply Kd.R_drewN | apply Kd.R_drew)); exact HO600.out) hb); have n3_ := Aside0.mk (below_step (by repeat (with_reducible first | exact HB.out | apply below_alloc | apply pw_below_drewN | apply below_drew1)) hb); have n4_ := Aside0.mk (hbox); have n5_ := Aside0.mk ((by rw [hg]; exact (below_size (by repeat (with_reducible first | exact HB.out | apply below_alloc | apply pw_below_drewN | apply below_drew1))) : w.heap.size ≤ gb602)); have n6_ := Aside0.mk ((by rw [hg]; exact (below_size (by repeat (with_reducible first | exact HB.out | apply below_alloc | apply pw_below_drewN | apply below_drew1))) : w.heap.size ≤ gb602)); clear HO_5; clear HO_7; clear HO600; clear HB; have HO_5 := n0_; have HO_7 := n1_; have HO600 := n2_; have HB := n3_; have BK602 := n4_; have GW602 := n5_; have GE602 := n6_; clear n0_ n1_ n2_ n3_ n4_ n5_ n6_; clear hb hbox hg; have hcz39_0 : w38.cell? ⟨gb602, 0, none⟩ = some (.int .i64 0) := (blk_cell BK602.out 0).trans rfl; have hcz39_1 : w38.cell? ⟨gb602, 1, none⟩ = some (.int .i64 0) := (blk_cell BK602.out 1).trans rfl; have hcz39_2 : w38.cell? ⟨gb602, 2, none⟩ = some (.int .i64 0) := (blk_cell BK602.out 2).trans rfl; have hcz39_3 : w38.cell? ⟨gb602, 3, none⟩ = some (.slice none 0 0) := (blk_cell BK602.out 3).trans rfl; have hfz39_0 := blk_frozen BK602.out 0; have hfz39_1 := blk_frozen BK602.out 1; have hfz39_2 := blk_frozen BK602.out 2; have hfz39_3 := blk_frozen BK602.out 3; obtain ⟨Ao40, co40, eo40⟩ := Kd.R_slice HO600.out; subst eo40))
       go_ret3
       exact ⟨_, by first | rfl | (simp [errW_none, errW_some] <;> rfl) | (simp [*, errW_none, errW_some] <;> rfl), by first | exact Kd.S_nil _ _ _ _ _ | exact Kd.N_nil _ _ _ _ _ | exact Kd.V_nil _ _ _ _ _ | exact Kd.Q_nil _ _ _ _ _ | exact Kd.R_nil _ _ _ _ _, by repeat (first | (with_reducible first | exact HB.out | apply below_alloc | apply pw_below_drewN | apply below_drew1 | refine below_set ?_ GE602.out) | exact HB.out)⟩
     ·
      rw [if_neg c8] at H
      exact absurd H (by simp)
    ·
     rw [if_neg c7] at H
     have c7b0 : decide (x8_1 < (t587.length : Int)) = false := decide_eq_false c7
     clear c7
     replace H := Option.bind_eq_some_iff.mp H
     obtain ⟨⟨t609, t610⟩, A410, H⟩ := H
     replace H : (if t610 = 0 then (some (x7_1, (-1), 0)) else (some (([] : List (S33)), (-1), t610))) = some (r1, r2, r3) := H
     have A41 := Aside0.mk A410
     clear A410
     by_cases c42 : t610 = 0
     ·
      rw [if_pos c42] at H
      have c42b0 : (t610 == 0) = true := beq_iff_eq.mpr c42
      have c42b1 : (t610 != 0) = false := bne_eq_false_iff_eq.mpr c42
      clear c42
      simp only [Option.some.injEq, Prod.mk.injEq] at H
      obtain ⟨rfl, rfl, rfl⟩ := H
      obtain ⟨Ao43, co43, eo43⟩ := Kd.R_slice HO_5.out
      subst eo43
      obtain ⟨Ao44, co44, eo44⟩ := Kd.S_slice HO_7.out
      subst eo44
      go_wp2_with (first | ((with_reducible refine gate_callee (f := 15) rfl ?_); refine goesL_ (some 56) rfl rfl Tryd.func15 (by kernel_rfl) rfl #[.slice Ao44 x7_1.length co44] rfl (by (try simp only [List.map_toArray, List.map_cons, List.map_nil]); first | done | rfl | (simp only [List.length_drop, List.length_take]; rfl)) ?_; (with_reducible refine (spileref22_Check.calls k1 _ _ x7_1 t609 t610 _ ?side1 ?side2 A41.out).mono ?_); (case side1 => repeat (first | exact (Kd.S_reads' HO_7.out).2.2 | (with_reducible refine Kd.C_alloc ?_ _) | (with_reducible refine Kd.C_drewN ?_ _) | (with_reducible refine Kd.C_drew ?_))); (case side2 => exact (Kd.S_reads' HO_7.out).2.1); rintro e w45 ⟨rfl, hb⟩; refine ⟨_, rfl, ?_⟩; have n0_ := Aside0.mk (Kd.R_below (by (with_reducible repeat (first | apply Kd.R_alloc | apply Kd.R_drewN | apply Kd.R_drew)); exact HO_5.out) hb); have n1_ := Aside0.mk (Kd.S_below (by (with_reducible repeat (first | apply Kd.S_alloc | apply Kd.S_drewN | apply Kd.S_drew)); exact HO_7.out) hb); have n2_ := Aside0.mk (below_step (by repeat (with_reducible first | exact HB.out | apply below_alloc | apply pw_below_drewN | apply below_drew1)) hb); clear HO_5; clear HO_7; clear HB; have HO_5 := n0_; have HO_7 := n1_; have HB := n2_; clear n0_ n1_ n2_; (try clear hb); (try clear hb2); (try clear hk); (try clear hi)))
      go_ret3
      exact ⟨_, by first | rfl | (simp [errW_none, errW_some] <;> rfl) | (simp [*, errW_none, errW_some] <;> rfl), by (with_reducible repeat (first | apply Kd.S_alloc | apply Kd.S_drewN | apply Kd.S_drew)); exact HO_7.out, by repeat (first | (with_reducible first | exact HB.out | apply below_alloc | apply pw_below_drewN | apply below_drew1) | exact HB.out)⟩
     ·
      rw [if_neg c42] at H
      have c42b0 : (t610 == 0) = false := beq_eq_false_iff_ne.mpr c42
      have c42b1 : (t610 != 0) = true := bne_iff_ne.mpr c42
      simp only [Option.some.injEq, Prod.mk.injEq] at H
      obtain ⟨rfl, rfl, rfl⟩ := H
      obtain ⟨Ao46, co46, eo46⟩ := Kd.R_slice HO_5.out
      subst eo46
      obtain ⟨Ao47, co47, eo47⟩ := Kd.S_slice HO_7.out
      subst eo47
      go_wp2_with (first | ((with_reducible refine gate_callee (f := 15) rfl ?_); refine goesL_ (some 56) rfl rfl Tryd.func15 (by kernel_rfl) rfl #[.slice Ao47 x7_1.length co47] rfl (by (try simp only [List.map_toArray, List.map_cons, List.map_nil]); first | done | rfl | (simp only [List.length_drop, List.length_take]; rfl)) ?_; (with_reducible refine (spileref22_Check.calls k1 _ _ x7_1 t609 t610 _ ?side1 ?side2 A41.out).mono ?_); (case side1 => repeat (first | exact (Kd.S_reads' HO_7.out).2.2 | (with_reducible refine Kd.C_alloc ?_ _) | (with_reducible refine Kd.C_drewN ?_ _) | (with_reducible refine Kd.C_drew ?_))); (case side2 => exact (Kd.S_reads' HO_7.out).2.1); rintro e w48 ⟨rfl, hb⟩; refine ⟨_, rfl, ?_⟩; have n0_ := Aside0.mk (Kd.R_below (by (with_reducible repeat (first | apply Kd.R_alloc | apply Kd.R_drewN | apply Kd.R_drew)); exact HO_5.out) hb); have n1_ := Aside0.mk (Kd.S_below (by (with_reducible repeat (first | apply Kd.S_alloc | apply Kd.S_drewN | apply Kd.S_drew)); exact HO_7.out) hb); have n2_ := Aside0.mk (below_step (by repeat (with_reducible first | exact HB.out | apply below_alloc | apply pw_below_drewN | apply below_drew1)) hb); clear HO_5; clear HO_7; clear HB; have HO_5 := n0_; have HO_7 := n1_; have HB := n2_; clear n0_ n1_ n2_; (try clear hb); (try clear hb2); (try clear hk); (try clear hi)))
      go_ret3
      exact ⟨_, by first | rfl | (simp [errW_none, errW_some] <;> rfl) | (simp [*, errW_none, errW_some] <;> rfl), by first | exact Kd.S_nil _ _ _ _ _ | exact Kd.N_nil _ _ _ _ _ | exact Kd.V_nil _ _ _ _ _ | exact Kd.Q_nil _ _ _ _ _ | exact Kd.R_nil _ _ _ _ _, by repeat (first | (with_reducible first | exact HB.out | apply below_alloc | apply pw_below_drewN | apply below_drew1) | exact HB.out)⟩
end Go.Proofs.YtgjoenoknknoiaaDoor.Pr
namespace Go.Proofs.YtgjoenoknknoiaaDoor.Pr
open Go.RowKit Go.Proofs.YtgjoenoknknoiaaDoorW.PrintWords Go.Proofs.YtgjoenoknknoiaaDoorW.PrintLast Go.Proofs.YtgjoenoknknoiaaDoorW.PrintMore Go.Proofs.YtgjoenoknknoiaaDoor.X
attribute [local go_sem] max2_int min2_int max_two min_two max_three min_three max_four min_four   -- for this text's walks alone
set_option linter.unusedVariables false
set_option linter.unusedSimpArgs false
def spilelaw22_LotTexts.j0 : Nat → List (S33) → ByteArray → Bool → Option (Bool)
 | 0, _, _, _ => none
 | k + 1, x0, x1, x24 => if x24 = true then (some true) else ((lot_Print.f k x0).bind fun bt613 => ((spileref22_Print.f k x0).bind fun bt615 => ((lot_Parse.f k x1).bind fun bt617 => ((spileref22_Parse.f k x1).bind fun bt622 => (if bt613.1.toList = bt615.1.toList then (if bt613.2 = bt615.2 then ((spileref22_Same.f k bt617.1 bt622.1).bind fun t627 => (if t627 = true then (if bt617.2.1 = bt622.2.1 then (some (bt617.2.2 == bt622.2.2)) else (some false)) else (some false))) else (some false)) else (some false))))))
def spilelaw22_LotTexts.f (k : Nat) (l0 : List (S33)) (a1 : ByteArray) : Option (Bool) := (spilelaw22_awake.f).bind fun t611 => (if t611 = true then ((spileref22_Few.f k l0).bind fun t612 => (if t612 = true then (spilelaw22_LotTexts.j0 k l0 a1 (decide ((a1.size : Int) > 1000))) else (spilelaw22_LotTexts.j0 k l0 a1 true))) else (some false))
set_option maxHeartbeats 8000000 in
set_option maxRecDepth 100000 in
theorem spilelaw22_LotTexts.calls (k : Nat) (A0 : Option Addr) (c0 : Nat) (l0 : List (S33)) (a1 : ByteArray) (r : Bool) (w : World) (hr0 : Kd.C k33 w A0 l0.length l0) (hc0 : l0.length ≤ c0) (hG : GI w) (hr_ : r = true) (h : spilelaw22_LotTexts.f k l0 a1 = some r) :
  Calls Tryd.prog 8 #[.slice A0 l0.length c0, .string a1] w fun e w' => e = .returned (.bool r) ∧ Below w.heap.size w w' := by
 have HR0 := Aside0.mk hr0
 have HC0 := Aside0.mk hc0
 clear hr0 hc0
 have HG := Aside0.mk hG
 clear hG
 have HB := Aside0.mk (Below.refl w.heap.size w)
 have H : ((spilelaw22_awake.f).bind fun t611 => (if t611 = true then ((spileref22_Few.f k l0).bind fun t612 => (if t612 = true then (spilelaw22_LotTexts.j0 k l0 a1 (decide ((a1.size : Int) > 1000))) else (spilelaw22_LotTexts.j0 k l0 a1 true))) else (some false))) = some r := h
 clear h
 replace H := Option.bind_eq_some_iff.mp H
 obtain ⟨t611, A30, H⟩ := H
 replace H : (if t611 = true then ((spileref22_Few.f k l0).bind fun t612 => (if t612 = true then (spilelaw22_LotTexts.j0 k l0 a1 (decide ((a1.size : Int) > 1000))) else (spilelaw22_LotTexts.j0 k l0 a1 true))) else (some false)) = some r := H
 have A3 := Aside0.mk A30
 clear A30
 by_cases c4 : t611 = true
 ·
  subst c4
  replace H : ((spileref22_Few.f k l0).bind fun t612 => (if t612 = true then (spilelaw22_LotTexts.j0 k l0 a1 (decide ((a1.size : Int) > 1000))) else (spilelaw22_LotTexts.j0 k l0 a1 true))) = some r := by rw [if_pos rfl] at H; exact H
  have HC5 := Aside0.mk H
  clear H
  go_enter Tryd.func8, Tryd.ntmps8
  go_upto_region 3 with (first | ((with_reducible refine gate_callee (f := 10) rfl ?_); refine goesL_ (some 15) rfl rfl Tryd.func10 (by kernel_rfl) rfl #[] rfl (by (try simp only [List.map_toArray, List.map_cons, List.map_nil]); first | done | rfl | (simp only [List.length_drop, List.length_take]; rfl)) ?_; (with_reducible refine (spilelaw22_awake.calls  true _ ?side1 A3.out).mono ?_); (case side1 => exact GI.below HG.out (by repeat (with_reducible first | exact HB.out | apply below_alloc | apply pw_below_drewN | apply below_drew1))); rintro e w6 ⟨rfl, hb⟩; refine ⟨_, rfl, ?_⟩; have n0_ := Aside0.mk (below_step (by repeat (with_reducible first | exact HB.out | apply below_alloc | apply pw_below_drewN | apply below_drew1)) hb); clear HB; have HB := n0_; clear n0_; (try clear hb); (try clear hb2); (try clear hk); (try clear hi)))
  (try simp only [Act.put, List.setIfInBounds_toArray, List.set_cons_zero, List.set_cons_succ])
  go_cut [24] (fun v24 wc => ∃ (kq : Nat) (x24_4 : Bool), v24 = .bool x24_4 ∧ Aside0 (spilelaw22_LotTexts.j0 kq l0 a1 x24_4 = some r) ∧ Aside0 (kq ≤ k) ∧ Aside0 (Below w.heap.size w wc))
  case first =>
   have H := HC5.out
   clear HC5
   replace H := Option.bind_eq_some_iff.mp H
   obtain ⟨t612, A70, H⟩ := H
   replace H : (if t612 = true then (spilelaw22_LotTexts.j0 k l0 a1 (decide ((a1.size : Int) > 1000))) else (spilelaw22_LotTexts.j0 k l0 a1 true)) = some r := H
   have A7 := Aside0.mk A70
   clear A70
   by_cases c8 : t612 = true
   ·
    subst c8
    replace H : (spilelaw22_LotTexts.j0 k l0 a1 (decide ((a1.size : Int) > 1000))) = some r := by rw [if_pos rfl] at H; exact H
    have H' := Aside0.mk H
    clear H
    go_wp2_with (first | ((with_reducible refine gate_callee (f := 11) rfl ?_); refine goesL_ (some 18) rfl rfl Tryd.func11 (by kernel_rfl) rfl #[.slice A0 l0.length c0] rfl (by (try simp only [List.map_toArray, List.map_cons, List.map_nil]); first | done | rfl | (simp only [List.length_drop, List.length_take]; rfl)) ?_; (with_reducible refine (spileref22_Few.calls k _ _ l0 true _ ?side1 ?side2 A7.out).mono ?_); (case side1 => repeat (first | exact (Kd.C_below HR0.out HB.out) | (with_reducible refine Kd.C_alloc ?_ _) | (with_reducible refine Kd.C_drewN ?_ _) | (with_reducible refine Kd.C_drew ?_))); (case side2 => exact HC0.out); rintro e w' ⟨rfl, ⟨nd, rfl⟩⟩; refine ⟨_, rfl, ?_⟩))
    go_meet
    case rel => exact ⟨_, (decide ((a1.size : Int) > 1000)), (by first | rfl | (simp; done) | (simp [*]; done)), H', ⟨by first | omega | exact Nat.le_refl _⟩, ⟨by repeat (first | (with_reducible first | exact HB.out | apply below_alloc | apply pw_below_drewN | apply below_drew1) | exact HB.out)⟩⟩
   ·
    replace c8 := Bool.eq_false_iff.mpr c8
    subst c8
    replace H : (spilelaw22_LotTexts.j0 k l0 a1 true) = some r := by rw [if_neg (show ¬ (false = true) by decide)] at H; exact H
    have H' := Aside0.mk H
    clear H
    go_wp2_with (first | ((with_reducible refine gate_callee (f := 11) rfl ?_); refine goesL_ (some 18) rfl rfl Tryd.func11 (by kernel_rfl) rfl #[.slice A0 l0.length c0] rfl (by (try simp only [List.map_toArray, List.map_cons, List.map_nil]); first | done | rfl | (simp only [List.length_drop, List.length_take]; rfl)) ?_; (with_reducible refine (spileref22_Few.calls k _ _ l0 false _ ?side1 ?side2 A7.out).mono ?_); (case side1 => repeat (first | exact (Kd.C_below HR0.out HB.out) | (with_reducible refine Kd.C_alloc ?_ _) | (with_reducible refine Kd.C_drewN ?_ _) | (with_reducible refine Kd.C_drew ?_))); (case side2 => exact HC0.out); rintro e w' ⟨rfl, ⟨nd, rfl⟩⟩; refine ⟨_, rfl, ?_⟩))
    go_meet
    case rel => exact ⟨_, (true), (by first | rfl | (simp; done) | (simp [*]; done)), H', ⟨by first | omega | exact Nat.le_refl _⟩, ⟨by repeat (first | (with_reducible first | exact HB.out | apply below_alloc | apply pw_below_drewN | apply below_drew1) | exact HB.out)⟩⟩
  case rest =>
   clear HC5
   repeat first | clear c1 | clear p2 | clear c4 | clear c8
   obtain ⟨kq, x24_4, rfl, HA, HJ4, HB⟩ := hcut
   cases kq with
   | zero => exact absurd HA.out (by simp [spilelaw22_LotTexts.j0])
   | succ kj4 =>
    have H := HA.out
    clear HA
    simp only [spilelaw22_LotTexts.j0] at H
    by_cases c9 : x24_4 = true
    ·
     subst c9
     replace H : (some true) = some r := by rw [if_pos rfl] at H; exact H
     obtain rfl := Option.some.inj H
     go_wp2
     go_ret
     exact ⟨by first | rfl | (simp [errW_none, errW_some] <;> rfl) | (simp [*, errW_none, errW_some] <;> rfl), by repeat (first | (with_reducible first | exact HB.out | apply below_alloc | apply pw_below_drewN | apply below_drew1) | exact HB.out)⟩
    ·
     replace c9 := Bool.eq_false_iff.mpr c9
     subst c9
     replace H : ((lot_Print.f kj4 l0).bind fun bt613 => ((spileref22_Print.f kj4 l0).bind fun bt615 => ((lot_Parse.f kj4 a1).bind fun bt617 => ((spileref22_Parse.f kj4 a1).bind fun bt622 => (if bt613.1.toList = bt615.1.toList then (if bt613.2 = bt615.2 then ((spileref22_Same.f kj4 bt617.1 bt622.1).bind fun t627 => (if t627 = true then (if bt617.2.1 = bt622.2.1 then (some (bt617.2.2 == bt622.2.2)) else (some false)) else (some false))) else (some false)) else (some false)))))) = some r := by rw [if_neg (show ¬ (false = true) by decide)] at H; exact H
     replace H := Option.bind_eq_some_iff.mp H
     obtain ⟨⟨t613, t614⟩, A100, H⟩ := H
     replace H : ((spileref22_Print.f kj4 l0).bind fun bt615 => ((lot_Parse.f kj4 a1).bind fun bt617 => ((spileref22_Parse.f kj4 a1).bind fun bt622 => (if t613.toList = bt615.1.toList then (if t614 = bt615.2 then ((spileref22_Same.f kj4 bt617.1 bt622.1).bind fun t627 => (if t627 = true then (if bt617.2.1 = bt622.2.1 then (some (bt617.2.2 == bt622.2.2)) else (some false)) else (some false))) else (some false)) else (some false))))) = some r := H
     have A10 := Aside0.mk A100
     clear A100
     replace H := Option.bind_eq_some_iff.mp H
     obtain ⟨⟨t615, t616⟩, A110, H⟩ := H
     replace H : ((lot_Parse.f kj4 a1).bind fun bt617 => ((spileref22_Parse.f kj4 a1).bind fun bt622 => (if t613.toList = t615.toList then (if t614 = t616 then ((spileref22_Same.f kj4 bt617.1 bt622.1).bind fun t627 => (if t627 = true then (if bt617.2.1 = bt622.2.1 then (some (bt617.2.2 == bt622.2.2)) else (some false)) else (some false))) else (some false)) else (some false)))) = some r := H
     have A11 := Aside0.mk A110
     clear A110
     replace H := Option.bind_eq_some_iff.mp H
     obtain ⟨⟨t617, t618, t619⟩, A120, H⟩ := H
     replace H : ((spileref22_Parse.f kj4 a1).bind fun bt622 => (if t613.toList = t615.toList then (if t614 = t616 then ((spileref22_Same.f kj4 t617 bt622.1).bind fun t627 => (if t627 = true then (if t618 = bt622.2.1 then (some (t619 == bt622.2.2)) else (some false)) else (some false))) else (some false)) else (some false))) = some r := H
     have A12 := Aside0.mk A120
     clear A120
     replace H := Option.bind_eq_some_iff.mp H
     obtain ⟨⟨t622, t623, t624⟩, A130, H⟩ := H
     replace H : (if t613.toList = t615.toList then (if t614 = t616 then ((spileref22_Same.f kj4 t617 t622).bind fun t627 => (if t627 = true then (if t618 = t623 then (some (t619 == t624)) else (some false)) else (some false))) else (some false)) else (some false)) = some r := H
     have A13 := Aside0.mk A130
     clear A130
     by_cases c14 : t613.toList = t615.toList
     ·
      rw [if_pos c14] at H
      have c14b0 : (t613.toList == t615.toList) = true := beq_iff_eq.mpr c14
      have c14b1 : (t613.toList != t615.toList) = false := bne_eq_false_iff_eq.mpr c14
      clear c14
      by_cases c15 : t614 = t616
      ·
       rw [if_pos c15] at H
       have c15b0 : (t614 == t616) = true := beq_iff_eq.mpr c15
       have c15b1 : (t614 != t616) = false := bne_eq_false_iff_eq.mpr c15
       clear c15
       replace H := Option.bind_eq_some_iff.mp H
       obtain ⟨t627, A160, H⟩ := H
       replace H : (if t627 = true then (if t618 = t623 then (some (t619 == t624)) else (some false)) else (some false)) = some r := H
       have A16 := Aside0.mk A160
       clear A160
       by_cases c17 : t627 = true
       ·
        subst c17
        replace H : (if t618 = t623 then (some (t619 == t624)) else (some false)) = some r := by rw [if_pos rfl] at H; exact H
        by_cases c18 : t618 = t623
        ·
         rw [if_pos c18] at H
         have c18b0 : (t618 == t623) = true := beq_iff_eq.mpr c18
         have c18b1 : (t618 != t623) = false := bne_eq_false_iff_eq.mpr c18
         clear c18
         obtain rfl := Option.some.inj H
         go_wp2_with (first | ((with_reducible refine gate_callee (f := 30) rfl ?_); refine goesL_ (some 27) rfl rfl Tryd.func30 (by kernel_rfl) rfl #[.slice A0 l0.length c0] rfl (by (try simp only [List.map_toArray, List.map_cons, List.map_nil]); first | done | rfl | (simp only [List.length_drop, List.length_take]; rfl)) ?_; (with_reducible refine (lot_Print.calls kj4 _ _ l0 t613 t614 _ ?side1 ?side2 ?side3 A10.out).mono ?_); (case side1 => repeat (first | exact (Kd.C_below HR0.out HB.out) | (with_reducible refine Kd.C_alloc ?_ _) | (with_reducible refine Kd.C_drewN ?_ _) | (with_reducible refine Kd.C_drew ?_))); (case side2 => exact HC0.out); (case side3 => exact GI.below HG.out (by repeat (with_reducible first | exact HB.out | apply below_alloc | apply pw_below_drewN | apply below_drew1))); rintro e w19 ⟨rfl, hb⟩; refine ⟨_, rfl, ?_⟩; have n0_ := Aside0.mk (below_step (by repeat (with_reducible first | exact HB.out | apply below_alloc | apply pw_below_drewN | apply below_drew1)) hb); clear HB; have HB := n0_; clear n0_; (try clear hb); (try clear hb2); (try clear hk); (try clear hi)) | ((with_reducible refine gate_callee (f := 31) rfl ?_); refine goesL_ (some 32) rfl rfl Tryd.func31 (by kernel_rfl) rfl #[.slice A0 l0.length c0] rfl (by (try simp only [List.map_toArray, List.map_cons, List.map_nil]); first | done | rfl | (simp only [List.length_drop, List.length_take]; rfl)) ?_; (with_reducible refine (spileref22_Print.calls kj4 _ _ l0 t615 t616 _ ?side1 ?side2 A11.out).mono ?_); (case side1 => repeat (first | exact (Kd.C_below HR0.out HB.out) | (with_reducible refine Kd.C_alloc ?_ _) | (with_reducible refine Kd.C_drewN ?_ _) | (with_reducible refine Kd.C_drew ?_))); (case side2 => exact HC0.out); rintro e w20 ⟨rfl, hb⟩; refine ⟨_, rfl, ?_⟩; have n0_ := Aside0.mk (below_step (by repeat (with_reducible first | exact HB.out | apply below_alloc | apply pw_below_drewN | apply below_drew1)) hb); clear HB; have HB := n0_; clear n0_; (try clear hb); (try clear hb2); (try clear hk); (try clear hi)) | ((with_reducible refine gate_callee (f := 32) rfl ?_); refine goesL_ (some 37) rfl rfl Tryd.func32 (by kernel_rfl) rfl #[.string a1] rfl (by (try simp only [List.map_toArray, List.map_cons, List.map_nil]); first | done | rfl | (simp only [List.length_drop, List.length_take]; rfl)) ?_; (with_reducible refine (lot_Parse.calls kj4 a1 t617 t618 t619 _ ?side1 A12.out).mono ?_); (case side1 => exact GI.below HG.out (by repeat (with_reducible first | exact HB.out | apply below_alloc | apply pw_below_drewN | apply below_drew1))); rintro e w21 ⟨v620, rfl, ho0, hb⟩; refine ⟨_, rfl, ?_⟩; have n0_ := Aside0.mk (Kd.S_lower ho0 (below_size (by repeat (with_reducible first | exact HB.out | apply below_alloc | apply pw_below_drewN | apply below_drew1)))); have n1_ := Aside0.mk (below_step (by repeat (with_reducible first | exact HB.out | apply below_alloc | apply pw_below_drewN | apply below_drew1)) hb); clear HB; have HO621 := n0_; have HB := n1_; clear n0_ n1_; (try clear hb); (try clear hb2); (try clear hk); (try clear hi); (try clear ho0)) | ((with_reducible refine gate_callee (f := 33) rfl ?_); refine goesL_ (some 43) rfl rfl Tryd.func33 (by kernel_rfl) rfl #[.string a1] rfl (by (try simp only [List.map_toArray, List.map_cons, List.map_nil]); first | done | rfl | (simp only [List.length_drop, List.length_take]; rfl)) ?_; (with_reducible refine (spileref22_Parse.calls kj4 a1 t622 t623 t624 _ A13.out).mono ?_); rintro e w22 ⟨v625, rfl, ho0, hb⟩; refine ⟨_, rfl, ?_⟩; have n0_ := Aside0.mk (Kd.S_elder' (by (with_reducible repeat (first | apply Kd.S_alloc | apply Kd.S_drewN | apply Kd.S_drew)); exact HO621.out) (Kd.S_base ho0) hb); have n1_ := Aside0.mk (Kd.S_lower (Kd.S_new' ho0 (Kd.S_lt (by (with_reducible repeat (first | apply Kd.S_alloc | apply Kd.S_drewN | apply Kd.S_drew)); exact HO621.out))) (below_size (by repeat (with_reducible first | exact HB.out | apply below_alloc | apply pw_below_drewN | apply below_drew1)))); have n2_ := Aside0.mk (below_step (by repeat (with_reducible first | exact HB.out | apply below_alloc | apply pw_below_drewN | apply below_drew1)) hb); clear HO621; clear HB; have HO621 := n0_; have HO626 := n1_; have HB := n2_; clear n0_ n1_ n2_; (try clear hb); (try clear hb2); (try clear hk); (try clear hi); (try clear ho0); obtain ⟨Ao23, co23, eo23⟩ := Kd.S_slice HO621.out; subst eo23; obtain ⟨Ao24, co24, eo24⟩ := Kd.S_slice HO626.out; subst eo24) | (go_at_call 24; (with_reducible refine (spileref22_Same.calls kj4 _ _ t617 _ _ t622 true _ ?side1 ?side2 ?side3 ?side4 A16.out).mono ?_); (case side1 => repeat (first | exact (Kd.S_reads' HO621.out).2.2 | (with_reducible refine Kd.C_alloc ?_ _) | (with_reducible refine Kd.C_drewN ?_ _) | (with_reducible refine Kd.C_drew ?_))); (case side2 => exact (Kd.S_reads' HO621.out).2.1); (case side3 => repeat (first | exact (Kd.S_reads' HO626.out).2.2 | (with_reducible refine Kd.C_alloc ?_ _) | (with_reducible refine Kd.C_drewN ?_ _) | (with_reducible refine Kd.C_drew ?_))); (case side4 => exact (Kd.S_reads' HO626.out).2.1); rintro e w25 ⟨rfl, hb⟩; have n0_ := Aside0.mk (Kd.S_below (by (with_reducible repeat (first | apply Kd.S_alloc | apply Kd.S_drewN | apply Kd.S_drew)); exact HO621.out) hb); have n1_ := Aside0.mk (Kd.S_below (by (with_reducible repeat (first | apply Kd.S_alloc | apply Kd.S_drewN | apply Kd.S_drew)); exact HO626.out) hb); have n2_ := Aside0.mk (below_step (by repeat (with_reducible first | exact HB.out | apply below_alloc | apply pw_below_drewN | apply below_drew1)) hb); clear HO621; clear HO626; clear HB; have HO621 := n0_; have HO626 := n1_; have HB := n2_; clear n0_ n1_ n2_; (try clear hb); (try clear hb2); (try clear hk); (try clear hi)))
         go_ret
         exact ⟨by first | rfl | (simp [errW_none, errW_some] <;> rfl) | (simp [*, errW_none, errW_some] <;> rfl), by repeat (first | (with_reducible first | exact HB.out | apply below_alloc | apply pw_below_drewN | apply below_drew1) | exact HB.out)⟩
        ·
         rw [if_neg c18] at H
         have c18b0 : (t618 == t623) = false := beq_eq_false_iff_ne.mpr c18
         have c18b1 : (t618 != t623) = true := bne_iff_ne.mpr c18
         subst hr_
         exact absurd H (by simp)
       ·
        replace c17 := Bool.eq_false_iff.mpr c17
        subst c17
        replace H : (some false) = some r := by rw [if_neg (show ¬ (false = true) by decide)] at H; exact H
        subst hr_
        exact absurd H (by simp)
      ·
       rw [if_neg c15] at H
       have c15b0 : (t614 == t616) = false := beq_eq_false_iff_ne.mpr c15
       have c15b1 : (t614 != t616) = true := bne_iff_ne.mpr c15
       subst hr_
       exact absurd H (by simp)
     ·
      rw [if_neg c14] at H
      have c14b0 : (t613.toList == t615.toList) = false := beq_eq_false_iff_ne.mpr c14
      have c14b1 : (t613.toList != t615.toList) = true := bne_iff_ne.mpr c14
      subst hr_
      exact absurd H (by simp)
 ·
  replace c4 := Bool.eq_false_iff.mpr c4
  subst c4
  replace H : (some false) = some r := by rw [if_neg (show ¬ (false = true) by decide)] at H; exact H
  subst hr_
  exact absurd H (by simp)
end Go.Proofs.YtgjoenoknknoiaaDoor.Pr
namespace Go.Proofs.YtgjoenoknknoiaaDoor.Opn
open Go Go.RowKit Go.Proofs.YtgjoenoknknoiaaDoorW.PrintWords Go.Proofs.YtgjoenoknknoiaaDoor.O Go.Proofs.YtgjoenoknknoiaaDoor.Pr
theorem opens3 : Opens Tryd.prog 3 (Kd.int .i64) (fun x => (Lit.int .i64 x).wf = true) := opens_int Tryd.underlying3 (by kernel_rfl)
def ok26 (x : S26) : Prop := (Lit.int .i64 x.f0).wf = true ∧ (Lit.int .i64 x.f1).wf = true
theorem opens26 : Opens Tryd.prog 26 k26 ok26 :=
  ⟨by kernel_rfl, fun H enc w base sp held fuel cs x h => by
    obtain ⟨xs, n, _, _, hl, hx, hf⟩ := DataW.trod_struct Tryd.underlying26 h
    have hc_ : Tryd.prog.cellsOf 26 = 2 := by kernel_rfl
    rw [hc_] at hl
    obtain ⟨c0, c1, rfl⟩ : ∃ c0 c1, cs = [c0, c1] := by
      clear h hf hx
      rcases cs with _ | ⟨c0, _ | ⟨c1, _ | ⟨_, _⟩⟩⟩
      all_goals first | exact ⟨_, _, rfl⟩ | (simp at hl)
    obtain ⟨y0, hy0⟩ : ∃ y, xs[0]? = some y := ⟨xs[0]'(by rw [hx]; decide), List.getElem?_eq_getElem _⟩
    have e0 : DataW.trod enc Tryd.prog w base sp held n 3 ((List.drop 0 [c0, c1]).take (Tryd.prog.cellsOf 3)) = xs[0]? := hf 0 _ rfl
    rw [hy0, show Tryd.prog.cellsOf 3 = 1 from by kernel_rfl] at e0
    obtain ⟨v0, K0, o0⟩ := opens3.2 H enc w base sp held n _ _ e0
    replace K0 : (Kd.int .i64).K w v0 [c0] := K0
    obtain ⟨y1, hy1⟩ : ∃ y, xs[1]? = some y := ⟨xs[1]'(by rw [hx]; decide), List.getElem?_eq_getElem _⟩
    have e1 : DataW.trod enc Tryd.prog w base sp held n 3 ((List.drop 1 [c0, c1]).take (Tryd.prog.cellsOf 3)) = xs[1]? := hf 1 _ rfl
    rw [hy1, show Tryd.prog.cellsOf 3 = 1 from by kernel_rfl] at e1
    obtain ⟨v1, K1, o1⟩ := opens3.2 H enc w base sp held n _ _ e1
    replace K1 : (Kd.int .i64).K w v1 [c1] := K1
    obtain rfl : c0 = _ := List.singleton_inj.1 K0
    obtain rfl : c1 = _ := List.singleton_inj.1 K1
    refine ⟨⟨v0, v1⟩, ?_, o0, o1⟩
    exact k26_mk w ⟨v0, v1⟩ ⟩
def ok35 (x : S35) : Prop := (Lit.int .i64 x.f0).wf = true ∧ (Lit.int .i64 x.f1).wf = true
theorem opens35 : Opens Tryd.prog 35 k35 ok35 :=
  ⟨by kernel_rfl, fun H enc w base sp held fuel cs x h => by
    obtain ⟨xs, n, _, _, hl, hx, hf⟩ := DataW.trod_struct Tryd.underlying35 h
    have hc_ : Tryd.prog.cellsOf 35 = 2 := by kernel_rfl
    rw [hc_] at hl
    obtain ⟨c0, c1, rfl⟩ : ∃ c0 c1, cs = [c0, c1] := by
      clear h hf hx
      rcases cs with _ | ⟨c0, _ | ⟨c1, _ | ⟨_, _⟩⟩⟩
      all_goals first | exact ⟨_, _, rfl⟩ | (simp at hl)
    obtain ⟨y0, hy0⟩ : ∃ y, xs[0]? = some y := ⟨xs[0]'(by rw [hx]; decide), List.getElem?_eq_getElem _⟩
    have e0 : DataW.trod enc Tryd.prog w base sp held n 3 ((List.drop 0 [c0, c1]).take (Tryd.prog.cellsOf 3)) = xs[0]? := hf 0 _ rfl
    rw [hy0, show Tryd.prog.cellsOf 3 = 1 from by kernel_rfl] at e0
    obtain ⟨v0, K0, o0⟩ := opens3.2 H enc w base sp held n _ _ e0
    replace K0 : (Kd.int .i64).K w v0 [c0] := K0
    obtain ⟨y1, hy1⟩ : ∃ y, xs[1]? = some y := ⟨xs[1]'(by rw [hx]; decide), List.getElem?_eq_getElem _⟩
    have e1 : DataW.trod enc Tryd.prog w base sp held n 3 ((List.drop 1 [c0, c1]).take (Tryd.prog.cellsOf 3)) = xs[1]? := hf 1 _ rfl
    rw [hy1, show Tryd.prog.cellsOf 3 = 1 from by kernel_rfl] at e1
    obtain ⟨v1, K1, o1⟩ := opens3.2 H enc w base sp held n _ _ e1
    replace K1 : (Kd.int .i64).K w v1 [c1] := K1
    obtain rfl : c0 = _ := List.singleton_inj.1 K0
    obtain rfl : c1 = _ := List.singleton_inj.1 K1
    refine ⟨⟨v0, v1⟩, ?_, o0, o1⟩
    exact k35_mk w ⟨v0, v1⟩ ⟩
theorem opens31 : Opens Tryd.prog 31 (Kd.slice 35 k35) (fun x => (x.length ≤ maxLen ∧ ∀ x0_, x0_ ∈ x → ok35 x0_)) := opens_slice (P := Tryd.prog) (t := 31) (e := 35) Tryd.underlying31 (by kernel_rfl) opens35
def ok33 (x : S33) : Prop := (Lit.int .i64 x.f0).wf = true ∧ ok26 x.f1 ∧ (x.f2.length ≤ maxLen ∧ ∀ x0_, x0_ ∈ x.f2 → ok35 x0_)
theorem opens33 : Opens Tryd.prog 33 k33 ok33 :=
  ⟨by kernel_rfl, fun H enc w base sp held fuel cs x h => by
    obtain ⟨xs, n, _, _, hl, hx, hf⟩ := DataW.trod_struct Tryd.underlying33 h
    have hc_ : Tryd.prog.cellsOf 33 = 4 := by kernel_rfl
    rw [hc_] at hl
    obtain ⟨c0, c1, c2, c3, rfl⟩ : ∃ c0 c1 c2 c3, cs = [c0, c1, c2, c3] := by
      clear h hf hx
      rcases cs with _ | ⟨c0, _ | ⟨c1, _ | ⟨c2, _ | ⟨c3, _ | ⟨_, _⟩⟩⟩⟩⟩
      all_goals first | exact ⟨_, _, _, _, rfl⟩ | (simp at hl)
    obtain ⟨y0, hy0⟩ : ∃ y, xs[0]? = some y := ⟨xs[0]'(by rw [hx]; decide), List.getElem?_eq_getElem _⟩
    have e0 : DataW.trod enc Tryd.prog w base sp held n 3 ((List.drop 0 [c0, c1, c2, c3]).take (Tryd.prog.cellsOf 3)) = xs[0]? := hf 0 _ rfl
    rw [hy0, show Tryd.prog.cellsOf 3 = 1 from by kernel_rfl] at e0
    obtain ⟨v0, K0, o0⟩ := opens3.2 H enc w base sp held n _ _ e0
    replace K0 : (Kd.int .i64).K w v0 [c0] := K0
    obtain ⟨y1, hy1⟩ : ∃ y, xs[1]? = some y := ⟨xs[1]'(by rw [hx]; decide), List.getElem?_eq_getElem _⟩
    have e1 : DataW.trod enc Tryd.prog w base sp held n 26 ((List.drop 1 [c0, c1, c2, c3]).take (Tryd.prog.cellsOf 26)) = xs[1]? := hf 1 _ rfl
    rw [hy1, show Tryd.prog.cellsOf 26 = 2 from by kernel_rfl] at e1
    obtain ⟨v1, K1, o1⟩ := opens26.2 H enc w base sp held n _ _ e1
    replace K1 : k26.K w v1 [c1, c2] := K1
    obtain ⟨y2, hy2⟩ : ∃ y, xs[2]? = some y := ⟨xs[2]'(by rw [hx]; decide), List.getElem?_eq_getElem _⟩
    have e2 : DataW.trod enc Tryd.prog w base sp held n 31 ((List.drop 3 [c0, c1, c2, c3]).take (Tryd.prog.cellsOf 31)) = xs[2]? := hf 2 _ rfl
    rw [hy2, show Tryd.prog.cellsOf 31 = 1 from by kernel_rfl] at e2
    obtain ⟨v2, K2, o2⟩ := opens31.2 H enc w base sp held n _ _ e2
    replace K2 : (Kd.slice 35 k35).K w v2 [c3] := K2
    obtain rfl : c0 = _ := List.singleton_inj.1 K0
    have Z1 := k26_open K1
    have w1 := Z1
    simp only [List.cons.injEq, and_true] at w1
    obtain ⟨rfl, rfl⟩ := w1
    obtain ⟨A2, q2, w2, m2, g2⟩ := K2
    obtain rfl : c3 = _ := List.singleton_inj.1 w2
    refine ⟨⟨v0, v1, v2⟩, ?_, o0, o1, o2⟩
    exact k33_mk w ⟨v0, v1, v2⟩ m2 g2⟩
theorem opens22 : Opens Tryd.prog 22 (Kd.slice 33 k33) (fun x => (x.length ≤ maxLen ∧ ∀ x0_, x0_ ∈ x → ok33 x0_)) := opens_slice (P := Tryd.prog) (t := 22) (e := 33) Tryd.underlying22 (by kernel_rfl) opens33
end Go.Proofs.YtgjoenoknknoiaaDoor.Opn
namespace Go.Proofs.YtgjoenoknknoiaaDoor.Pure
open Go Go.RowKit Go.Proofs.YtgjoenoknknoiaaDoor.Pr Go.Proofs.YtgjoenoknknoiaaDoor.Opn
def lotTextsPure : Prop := ∀ (l0 : (List S33)) (a1 : ByteArray), (l0.length ≤ maxLen ∧ ∀ x0_, x0_ ∈ l0 → ok33 x0_) → a1.size ≤ maxLen → ∃ k, spilelaw22_LotTexts.f k l0 a1 = some true
end Go.Proofs.YtgjoenoknknoiaaDoor.Pure
namespace Go.Proofs.YtgjoenoknknoiaaDoor.PL
open Go Go.RowKit Go.Proofs.YtgjoenoknknoiaaDoorW.PrintWords Go.Proofs.YtgjoenoknknoiaaDoorW.PrintLast Go.Proofs.YtgjoenoknknoiaaDoorW.PrintMore
theorem evp {α : Type} {c : Prop} [Decidable c] {g h : Nat → Option α} {r : α} (hc : c) (k : Ev g r) : Ev (fun n => if c then g n else h n) r :=
  Ev.congr (fun n => if_pos hc) k
theorem evn {α : Type} {c : Prop} [Decidable c] {g h : Nat → Option α} {r : α} (hc : ¬ c) (k : Ev h r) : Ev (fun n => if c then g n else h n) r :=
  Ev.congr (fun n => if_neg hc) k
theorem evb {α β : Type} {g : Nat → Option α} {f : Nat → α → Option β} {a : α} {r : β} (h : Ev g a) (k : Ev (fun n => f n a) r) : Ev (fun n => (g n).bind (f n)) r := Ev.bind h k
theorem evr {α : Type} {a r : α} (h : a = r) : Ev (fun _ => some a) r := by subst h; exact Ev.now _
theorem evc {α : Type} {g : Nat → Option α} {r : α} {o : Option α} (hg : ∀ n, g n = o) (h : o = some r) : Ev g r := by
  subst h
  exact Ev.congr hg (Ev.now _)
theorem ev_unique {α : Type} {g : Nat → Option α} {a b : α} (h : Ev g a) (h2 : Ev g b) : a = b := by
  obtain ⟨K, h⟩ := h
  obtain ⟨K2, h2⟩ := h2
  have e1 := h (K + K2) (by omega)
  have e2 := h2 (K + K2) (by omega)
  rw [e1] at e2
  exact Option.some.inj e2
/-- A loop that counts upwards to n. -/
theorem count_up (a n : Int) (P : Int → Prop) (hend : P n) (hround : ∀ i, a ≤ i → i < n → P (i + 1) → P i) : ∀ i, a ≤ i → i ≤ n → P i := by
  intro i h0 h1
  obtain ⟨d, hd⟩ : ∃ d : Nat, n - i = d := ⟨(n - i).toNat, by omega⟩
  induction d generalizing i with
  | zero =>
    obtain rfl : i = n := by omega
    exact hend
  | succ d ih => exact hround i h0 (by omega) (ih (i + 1) (by omega) (by omega) (by omega))
theorem w64 {x : Int} (h0 : -9223372036854775808 ≤ x) (h1 : x ≤ 9223372036854775807) : wrap64 x = x := by
  unfold wrap64
  omega
theorem w64_succ {i n : Int} (h0 : 0 ≤ i) (h : i < n) (hn : n ≤ 9223372036854775807) : wrap64 (i + 1) = i + 1 := w64 (by omega) (by omega)
theorem w64_pred {i n : Int} (h0 : 0 ≤ i) (h : i ≤ n) (hn : n ≤ 9223372036854775807) : wrap64 (i - 1) = i - 1 := w64 (by omega) (by omega)
theorem len_le {α : Type} {l : List α} (h : l.length ≤ maxLen) : (l.length : Int) ≤ 9223372036854775807 := by
  have : l.length ≤ 9223372036854775807 := by simpa [maxLen] using h
  omega
/-- A test that comes to true where P holds, and else to false. -/
def EvB (g : Nat → Option Bool) (P : Prop) : Prop := (P → Ev g true) ∧ (¬ P → Ev g false)
theorem EvB.map {g : Nat → Option Bool} {f : Nat → Bool → Option Bool} {P Q : Prop} (h : EvB g P) (ht : P → EvB (fun n => f n true) Q) (hf : ¬ P → EvB (fun n => f n false) Q) : EvB (fun n => (g n).bind (f n)) Q := by
  by_cases hp : P
  · exact ⟨fun q => Ev.bind (h.1 hp) ((ht hp).1 q), fun q => Ev.bind (h.1 hp) ((ht hp).2 q)⟩
  · exact ⟨fun q => Ev.bind (h.2 hp) ((hf hp).1 q), fun q => Ev.bind (h.2 hp) ((hf hp).2 q)⟩
end Go.Proofs.YtgjoenoknknoiaaDoor.PL
namespace Go.Proofs.YtgjoenoknknoiaaDoor.PL
open Go Go.RowKit Go.Proofs.YtgjoenoknknoiaaDoorW.PrintWords Go.Proofs.YtgjoenoknknoiaaDoorW.PrintLast Go.Proofs.YtgjoenoknknoiaaDoorW.PrintMore Go.Proofs.YtgjoenoknknoiaaDoor.Pr Go.Proofs.YtgjoenoknknoiaaDoor.TX Go.Proofs.YtgjoenoknknoiaaDoor.X
def ba (l : List UInt8) : ByteArray := ⟨l.toArray⟩
theorem ba_data (s : ByteArray) : ba s.data.toList = s := by obtain ⟨⟨l⟩⟩ := s; rfl
theorem ba_list (l : List UInt8) : (ba l).data.toList = l := rfl
theorem ba_toList (l : List UInt8) : (ba l).toList = l := by rw [Lib.toList_data]; rfl
theorem ba_size (l : List UInt8) : (ba l).size = l.length := rfl
theorem size_data (s : ByteArray) : s.data.toList.length = s.size := Array.length_toList
theorem ba_ex (s : ByteArray) (a b : Nat) : s.extract a b = ba ((s.data.toList.take b).drop a) := by
  rw [← ba_data (s.extract a b), Lib.extract_data, List.drop_take]
theorem ba_app (a b : List UInt8) : ba a ++ ba b = ba (a ++ b) := by
  rw [← ba_data (ba a ++ ba b)]
  congr 1
theorem byte_at (s : ByteArray) {i : Int} (h0 : 0 ≤ i) (h1 : i < (s.size : Int)) : ∃ b : UInt8, s.data.toList.drop i.toNat = b :: s.data.toList.drop (i + 1).toNat ∧
    s.data.toList.take (i + 1).toNat = s.data.toList.take i.toNat ++ [b] ∧ bt s i = (b.toNat : Int) := by
  have hl : i.toNat < s.data.toList.length := by rw [size_data]; omega
  refine ⟨s.data.toList[i.toNat], ?_, ?_, ?_⟩
  · rw [show (i + 1).toNat = i.toNat + 1 from by omega, ← List.drop_eq_getElem_cons hl]
  · rw [show (i + 1).toNat = i.toNat + 1 from by omega, List.take_add_one, List.getElem?_eq_getElem hl]; rfl
  · rw [← bt_at s i (by omega)]
    obtain ⟨⟨l⟩⟩ := s
    rfl
theorem take_end (s : ByteArray) : s.data.toList.take ((s.size : Int)).toNat = s.data.toList := by
  rw [show ((s.size : Int)).toNat = s.size from by omega, ← size_data, List.take_length]
theorem drop_end (s : ByteArray) : s.data.toList.drop ((s.size : Int)).toNat = [] := by
  rw [show ((s.size : Int)).toNat = s.size from by omega, ← size_data, List.drop_length]
def wrd (c : UInt8) : List UInt8 → List UInt8 → List (List UInt8)
  | p, [] => [p]
  | p, b :: r => if b = c then p :: wrd c [] r else wrd c (p ++ [b]) r
theorem wrd_cons (c b : UInt8) (p r : List UInt8) : wrd c p (b :: r) = if b = c then p :: wrd c [] r else wrd c (p ++ [b]) r := rfl
theorem wrd_eq (c : UInt8) : ∀ s p : List UInt8, wrd c p s = match parts c s with
    | [] => [p]
    | q :: t => (p ++ q) :: t
  | [], p => by simp [wrd, parts]
  | b :: r, p => by
    rw [wrd_cons, parts_cons]
    by_cases h : b = c
    · rw [if_pos h, if_pos h, wrd_eq c r []]
      cases hp : parts c r with
      | nil => exact absurd hp (parts_ne c r)
      | cons q t => simp
    · rw [if_neg h, if_neg h, wrd_eq c r (p ++ [b])]
      cases hp : parts c r with
      | nil => exact absurd hp (parts_ne c r)
      | cons q t => simp
theorem wrd_parts (c : UInt8) (s : List UInt8) : wrd c [] s = parts c s := by
  rw [wrd_eq]
  cases hp : parts c s with
  | nil => exact absurd hp (parts_ne c s)
  | cons q t => simp
theorem toNat_eq (b : UInt8) (n : Nat) (hn : n < 256) : ((b.toNat : Int) = (n : Int)) ↔ b = UInt8.ofNat n := by
  constructor
  · intro h
    refine UInt8.toNat_inj.1 ?_
    rw [UInt8.toNat_ofNat']; omega
  · rintro rfl
    rw [UInt8.toNat_ofNat']; omega
theorem words_ev (s : ByteArray) (hs : (s.size : Int) ≤ 4611686018427) : Ev (fun k => spileref16_Words.f k s) ((parts 32 s.data.toList).map ba) := by
  have key : ∀ i, 0 ≤ i → i ≤ (s.size : Int) → ∀ (out : List ByteArray) (fr : Int), 0 ≤ fr → fr ≤ i → (out.length : Int) ≤ i →
      Ev (fun k => spileref16_Words.l0 k s out fr i) (out ++ (wrd 32 ((s.data.toList.take i.toNat).drop fr.toNat) (s.data.toList.drop i.toNat)).map ba) := by
    refine count_up 0 (s.size : Int) _ ?_ ?_
    · intro out fr h0 h1 h2
      rw [drop_end]
      refine Ev.step (fun k => spileref16_Words.l0.eq_2 ..) (evp (by omega) (evp rfl (evp h0 (evp h1 (evp (by omega) (Ev.step (fun k => spileref16_Words.l0.eq_2 ..) (evn ?_ (evr ?_))))))))
      · rw [w64 (by omega) (by omega)]; omega
      · rw [ba_ex]; rfl
    · intro i h0 h1 ih out fr g0 g1 g2
      obtain ⟨b, e1, e2, e3⟩ := byte_at s h0 h1
      have hw : wrap64 (i + 1) = i + 1 := w64 (by omega) (by omega)
      have hlen : fr.toNat ≤ (s.data.toList.take i.toNat).length := by rw [List.length_take, size_data]; omega
      refine Ev.step (fun k => spileref16_Words.l0.eq_2 ..) (evp (by omega) (evn (by omega) (evp h0 (evp h1 ?_))))
      rw [e1, wrd_cons, hw, e3]
      by_cases c : b = 32
      · have q := ih (out ++ [s.extract fr.toNat i.toNat]) (i + 1) (by omega) (by omega) (by rw [List.length_append]; simp; omega)
        have z : (s.data.toList.take (i + 1).toNat).drop (i + 1).toNat = [] := List.drop_eq_nil_of_le (by rw [List.length_take]; omega)
        rw [z, List.append_assoc] at q
        rw [if_pos c]
        refine evp ((toNat_eq b 32 (by decide)).2 c) (evp g0 (evp g1 (evp (by omega) ?_)))
        rw [ba_ex] at q ⊢
        exact q
      · have q := ih out fr g0 (by omega) (by omega)
        rw [e2, List.drop_append_of_le_length hlen] at q
        rw [if_neg c]
        exact evn (fun h => c ((toNat_eq b 32 (by decide)).1 h)) q
  have := key 0 (by omega) (by omega) [] 0 (by omega) (by omega) (by simp)
  rw [show (0 : Int).toNat = 0 from rfl, List.take_zero, List.drop_zero, List.drop_zero, wrd_parts, List.nil_append] at this
  exact this
theorem split_ev (s : ByteArray) (hs : s.size < 4294967281) : strings_Split.f s ⟨#[32]⟩ = some ((parts 32 s.data.toList).map ba) := by
  unfold strings_Split.f
  rw [if_pos ⟨hs, rfl⟩]
  refine congrArg some ?_
  have e := Lib.splitB_data ⟨#[32]⟩ 0 (Lib.countB s ⟨#[32]⟩) s
  have e2 : Lib.splitK [32] 0 (Lib.countB s ⟨#[32]⟩) s.data.toList = parts 32 s.data.toList := split_eq 32 s.data.toList
  have e3 : (Lib.splitB ⟨#[32]⟩ 0 (Lib.countB s ⟨#[32]⟩) s).map (·.data.toList) = parts 32 s.data.toList := e.trans e2
  rw [← e3, List.map_map]
  refine (List.map_congr_left (fun x _ => ba_data x) |>.trans (List.map_id _)).symm
def lin : List UInt8 → List UInt8 → List (List UInt8) × Bool
  | p, [] => if p = [] then ([], true) else ([p], false)
  | p, b :: r => if b = 10 then (p :: (lin [] r).1, (lin [] r).2) else lin (p ++ [b]) r
theorem lin_cons (p : List UInt8) (b : UInt8) (r : List UInt8) : lin p (b :: r) = if b = 10 then (p :: (lin [] r).1, (lin [] r).2) else lin (p ++ [b]) r := rfl
theorem lin_cut : ∀ (s p : List UInt8), lin p s = if (cut1 10 s).2.2 = true then ((p ++ (cut1 10 s).1) :: (lin [] (cut1 10 s).2.1).1, (lin [] (cut1 10 s).2.1).2) else if p ++ s = [] then ([], true) else ([p ++ s], false)
  | [], p => by simp [lin, cut1]
  | b :: r, p => by
    rw [lin_cons, cut1_cons]
    by_cases h : b = 10
    · rw [if_pos h, if_pos h]; simp
    · rw [if_neg h, if_neg h, lin_cut r (p ++ [b])]
      simp
theorem lines_ev (s : ByteArray) (hs : (s.size : Int) ≤ 4611686018427) : Ev (fun k => spileref16_Lines.f k s) ((lin [] s.data.toList).1.map ba, (lin [] s.data.toList).2) := by
  have key : ∀ i, 0 ≤ i → i ≤ (s.size : Int) → ∀ (out : List ByteArray) (fr : Int), 0 ≤ fr → fr ≤ i → (out.length : Int) ≤ i →
      Ev (fun k => spileref16_Lines.l0 k s out fr i) (out ++ (lin ((s.data.toList.take i.toNat).drop fr.toNat) (s.data.toList.drop i.toNat)).1.map ba, (lin ((s.data.toList.take i.toNat).drop fr.toNat) (s.data.toList.drop i.toNat)).2) := by
    refine count_up 0 (s.size : Int) _ ?_ ?_
    · intro out fr h0 h1 h2
      rw [drop_end, take_end]
      refine Ev.step (fun k => spileref16_Lines.l0.eq_2 ..) (evn (by omega) ?_)
      unfold lin
      by_cases c : fr < (s.size : Int)
      · have hne : ¬ s.data.toList.drop fr.toNat = [] := fun e => by
          have := congrArg List.length e
          rw [List.length_drop, size_data] at this
          simp at this; omega
        rw [if_neg hne]
        refine evp c (evp h0 (evp h1 (evp (by omega) (evr ?_))))
        have ex : s.extract fr.toNat s.size = ba (s.data.toList.drop fr.toNat) := by
          rw [ba_ex, ← size_data, List.take_length]
        rw [ex]
        rfl
      · have he : s.data.toList.drop fr.toNat = [] := List.drop_eq_nil_of_le (by rw [size_data]; omega)
        rw [if_pos he]
        exact evn c (evr (by simp))
    · intro i h0 h1 ih out fr g0 g1 g2
      obtain ⟨b, e1, e2, e3⟩ := byte_at s h0 h1
      have hw : wrap64 (i + 1) = i + 1 := w64 (by omega) (by omega)
      have hlen : fr.toNat ≤ (s.data.toList.take i.toNat).length := by rw [List.length_take, size_data]; omega
      refine Ev.step (fun k => spileref16_Lines.l0.eq_2 ..) (evp h1 (evp h0 ?_))
      rw [e1, lin_cons, hw, e3]
      by_cases c : b = 10
      · have q := ih (out ++ [s.extract fr.toNat i.toNat]) (i + 1) (by omega) (by omega) (by rw [List.length_append]; simp; omega)
        have z : (s.data.toList.take (i + 1).toNat).drop (i + 1).toNat = [] := List.drop_eq_nil_of_le (by rw [List.length_take]; omega)
        rw [z, List.append_assoc] at q
        rw [if_pos c]
        refine evp ((toNat_eq b 10 (by decide)).2 c) (evp g0 (evp g1 (evp (by omega) (evp (by omega) ?_))))
        rw [ba_ex] at q ⊢
        exact q
      · have q := ih out fr g0 (by omega) (by omega)
        rw [e2, List.drop_append_of_le_length hlen] at q
        rw [if_neg c]
        exact evn (fun h => c ((toNat_eq b 10 (by decide)).1 h)) q
  have := key 0 (by omega) (by omega) [] 0 (by omega) (by omega) (by simp)
  rw [show (0 : Int).toNat = 0 from rfl, List.take_zero, List.drop_zero, List.drop_zero, List.nil_append] at this
  exact this
theorem cut_ev (s : ByteArray) (hs : s.size < 4294967281) : strings_Cut.f s ⟨#[10]⟩ = some (ba (cut1 10 s.data.toList).1, ba (cut1 10 s.data.toList).2.1, (cut1 10 s.data.toList).2.2) := by
  unfold strings_Cut.f
  rw [if_pos hs]
  have e : Lib.cut s.data.toList (⟨#[10]⟩ : ByteArray).data.toList = cut1 10 s.data.toList := cut_eq 10 s.data.toList
  rw [e]
  rfl
theorem number_loop (s : ByteArray) (hs : (s.size : Int) ≤ 18) : ∀ i, 0 ≤ i → i ≤ (s.size : Int) → ∀ n : Nat, n + 1 ≤ 10 ^ i.toNat →
    Ev (fun k => spileref16_Number.l0 k s (n : Int) i) (if (s.data.toList.drop i.toNat).all isDig = true then (((valFrom n (s.data.toList.drop i.toNat) : Nat) : Int), true) else (0, false)) := by
  refine count_up 0 (s.size : Int) _ ?_ ?_
  · intro n hn
    rw [drop_end]
    exact Ev.step (fun k => spileref16_Number.l0.eq_2 ..) (evn (by omega) (evr (by rw [if_pos (show ([] : List UInt8).all isDig = true from rfl)]; rfl)))
  · intro i h0 h1 ih n hn
    obtain ⟨b, e1, _, e3⟩ := byte_at s h0 h1
    have hw : wrap64 (i + 1) = i + 1 := w64 (by omega) (by omega)
    refine Ev.step (fun k => spileref16_Number.l0.eq_2 ..) (evp h1 (evp h0 ?_))
    rw [e3, e1, hw]
    have hp : 10 ^ i.toNat ≤ 10 ^ 17 := Nat.pow_le_pow_right (by decide) (by omega)
    by_cases c1 : (b.toNat : Int) < 48
    · have hd : ¬ isDig b = true := fun h => by have := (isDig_iff b).1 h; omega
      rw [if_neg (by simp [hd])]
      exact evp c1 (Ev.now _)
    · by_cases c2 : (b.toNat : Int) > 57
      · have hd : ¬ isDig b = true := fun h => by have := (isDig_iff b).1 h; omega
        rw [if_neg (by simp [hd])]
        exact evn c1 (evp c2 (Ev.now _))
      · have hd : isDig b = true := (isDig_iff b).2 (by omega)
        have e : wrap64 ((wrap64 (10 * (n : Int))) + (((b.toNat : Int) - 48) % 256)) = ((10 * n + (b.toNat - 48) : Nat) : Int) := by
          rw [w64 (x := 10 * (n : Int)) (by omega) (by omega), w64 (by omega) (by omega)]; omega
        rw [e]
        have q := ih (10 * n + (b.toNat - 48)) (by
          rw [show (i + 1).toNat = i.toNat + 1 from by omega, Nat.pow_succ]; omega)
        have ea : ((b :: s.data.toList.drop (i + 1).toNat).all isDig = true) = ((s.data.toList.drop (i + 1).toNat).all isDig = true) := by
          rw [List.all_cons, hd, Bool.true_and]
        simp only [ea]
        exact evn c1 (evn c2 q)
def numR (most : Nat) (l : List UInt8) : Int × Bool := match numP most l with
  | some v => ((v : Int), true)
  | none => (0, false)
theorem number_ev (s : ByteArray) (most : Nat) (hm : most ≤ 18) : Ev (fun k => spileref16_Number.f k s (most : Int)) (numR most s.data.toList) := by
  have hsz := size_data s
  have bad : ¬ (Canon s.data.toList ∧ s.data.toList.length ≤ most) → numR most s.data.toList = (0, false) := fun h => by
    unfold numR numP; rw [if_neg h]
  by_cases c1 : (s.size : Int) < 1
  · rw [bad (fun h => by have := h.1.1; omega)]
    exact evp c1 (Ev.step (fun k => spileref16_Number.j0.eq_2 ..) (evp rfl (Ev.now _)))
  by_cases c2 : (s.size : Int) > (most : Int)
  · rw [bad (fun h => by have := h.2; omega)]
    exact evn c1 (evp c2 (Ev.step (fun k => spileref16_Number.j0.eq_2 ..) (evp rfl (Ev.now _))))
  have go : ¬ (1 < s.data.toList.length ∧ s.data.toList.head? = some 48) → Ev (fun k => spileref16_Number.j0 k s false) (numR most s.data.toList) := by
    intro hh
    have q := number_loop s (by omega) 0 (by omega) (by omega) 0 (by decide)
    rw [show (0 : Int).toNat = 0 from rfl, List.drop_zero] at q
    refine Ev.step (fun k => spileref16_Number.j0.eq_2 ..) (evn (by simp) ?_)
    by_cases hd : s.data.toList.all isDig = true
    · have hc : Canon s.data.toList ∧ s.data.toList.length ≤ most := ⟨⟨by omega, hh, hd⟩, by omega⟩
      rw [if_pos hd] at q
      have e : numR most s.data.toList = (((valFrom 0 s.data.toList : Nat) : Int), true) := by unfold numR numP; rw [if_pos hc]
      rw [e]
      exact q
    · rw [if_neg hd] at q
      rw [bad (fun h => hd h.1.2.2)]
      exact q
  by_cases c3 : (s.size : Int) > 1
  · obtain ⟨b, e1, _, e3⟩ := byte_at s (i := 0) (by omega) (by omega)
    rw [show (0 : Int).toNat = 0 from rfl, List.drop_zero] at e1
    refine evn c1 (evn c2 (evp c3 (evp (by omega) ?_)))
    rw [e3]
    by_cases c4 : b = 48
    · have e4 : ((b.toNat : Int) == 48) = true := by rw [beq_iff_eq]; exact (toNat_eq b 48 (by decide)).2 c4
      rw [e4, bad (fun h => h.1.2.1 ⟨by omega, by rw [e1]; simp [c4]⟩)]
      exact Ev.step (fun k => spileref16_Number.j0.eq_2 ..) (evp rfl (Ev.now _))
    · have e4 : ((b.toNat : Int) == 48) = false := by rw [beq_eq_false_iff_ne]; exact fun h => c4 ((toNat_eq b 48 (by decide)).1 h)
      rw [e4]
      exact go (fun h => c4 (by have := h.2; rw [e1] at this; simpa using this))
  · exact evn c1 (evn c2 (evn c3 (go (fun h => by omega))))
theorem dec_digit : ∀ d : Fin 10, (⟨#[48, 49, 50, 51, 52, 53, 54, 55, 56, 57]⟩ : ByteArray).extract d.val (d.val + 1) = ba [UInt8.ofNat (48 + d.val)] := by decide
theorem dec_digit' {d : Int} (h0 : 0 ≤ d) (h1 : d < 10) : (⟨#[48, 49, 50, 51, 52, 53, 54, 55, 56, 57]⟩ : ByteArray).extract d.toNat (wrap64 (d + 1)).toNat = ba [UInt8.ofNat (48 + d.toNat)] := by
  rw [w64 (by omega) (by omega), show (d + 1).toNat = d.toNat + 1 from by omega]
  exact dec_digit ⟨d.toNat, by omega⟩
theorem decimal_ev : ∀ (m : Nat) (n : Int), 0 ≤ n → n ≤ 9223372036854775807 → n.toNat ≤ m → Ev (fun k => spileref16_Decimal.f k n) (ba (Lib.itoa n)) := by
  have it : ∀ n : Int, 0 ≤ n → Lib.itoa n = Lib.decDigits n.toNat := fun n h => by unfold Lib.itoa; rw [if_neg (by omega)]
  intro m
  induction m with
  | zero =>
    intro n h0 h1 hm
    obtain rfl : n = 0 := by omega
    refine Ev.step (fun k => spileref16_Decimal.f.eq_2 ..) (evp (by omega) (evp (by omega) (evp (by rw [w64 (by omega) (by omega)]; omega) (evp (by rw [w64 (by omega) (by omega)]; omega) (evr ?_)))))
    rw [dec_digit' (d := 0) (by omega) (by omega), it 0 (by omega), digits_small (by decide)]
  | succ m ih =>
    intro n h0 h1 hm
    by_cases c : n < 10
    · refine Ev.step (fun k => spileref16_Decimal.f.eq_2 ..) (evp c (evp h0 (evp (by rw [w64 (by omega) (by omega)]; omega) (evp (by rw [w64 (by omega) (by omega)]; omega) (evr ?_)))))
      rw [dec_digit' h0 c, it n h0, digits_small (by omega)]
    · have e1 : Int.tdiv n 10 = n / 10 := Int.tdiv_eq_ediv_of_nonneg h0
      have e2 : Int.tmod n 10 = n % 10 := Int.tmod_eq_emod_of_nonneg h0
      have q := ih (n / 10) (by omega) (by omega) (by omega)
      have g0 : 0 ≤ n % 10 := by omega
      have g1 : n % 10 < 10 := by omega
      refine Ev.step (fun k => spileref16_Decimal.f.eq_2 ..) (evn c ?_)
      rw [e1, e2, w64 (x := n / 10) (by omega) (by omega)]
      refine evb q (evp g0 (evp (by rw [w64 (by omega) (by omega)]; omega) (evp (by rw [w64 (by omega) (by omega)]; omega) ?_)))
      rw [dec_digit' g0 g1, ba_app]
      have hl : (Lib.itoa (n / 10)).length ≤ 19 := by
        rw [it _ (by omega)]
        exact digits_length_le (by omega) (by decide)
      refine evp (by rw [ba_size, ba_size]; simp; omega) (evr ?_)
      rw [it _ (by omega), it n h0, digits_big (u := n.toNat) (by omega)]
      rw [show (n / 10).toNat = n.toNat / 10 from by omega, show (n % 10).toNat = n.toNat % 10 from by omega]
theorem atoi_cases (s : ByteArray) (hs : s.size ≤ 281474976710656) : ∃ n e, strconv_Atoi.f s = some (n, e) ∧ (e = none ↔ Lib.atoiAll s.data.toList = .ok n) ∧ (-9223372036854775808 ≤ n ∧ n ≤ 9223372036854775807) := by
  unfold strconv_Atoi.f
  rw [if_pos hs]
  cases ha : Lib.atoiAll s.data.toList with
  | ok v =>
    refine ⟨v, none, rfl, by simp, ?_⟩
    unfold Lib.atoiAll at ha
    cases hl : s.data.toList with
    | nil => rw [hl] at ha; cases ha
    | cons c r =>
      rw [hl] at ha
      simp only [] at ha
      cases hm : Lib.parseMag (if c.toNat = 43 ∨ c.toNat = 45 then r else c :: r) with
      | range => rw [hm] at ha; cases ha
      | ok u =>
        rw [hm] at ha
        simp only [] at ha
        by_cases c1 : ¬ c.toNat = 45 ∧ 9223372036854775808 ≤ u
        · rw [if_pos c1] at ha; cases ha
        · rw [if_neg c1] at ha
          by_cases c2 : c.toNat = 45 ∧ 9223372036854775808 < u
          · rw [if_pos c2] at ha; cases ha
          · rw [if_neg c2] at ha
            injection ha with ha
            by_cases c3 : c.toNat = 45
            · rw [if_pos c3] at ha; omega
            · rw [if_neg c3] at ha; omega
      | _ => rw [hm] at ha; cases ha
  | range =>
    refine ⟨_, some 0, rfl, by simp, ?_⟩
    unfold Lib.atoiSat
    split <;> omega
  | _ => exact ⟨0, some 0, rfl, by simp, by omega⟩
theorem itoa_f {n : Int} (h0 : -9223372036854775808 ≤ n) (h1 : n ≤ 9223372036854775807) : strconv_Itoa.f n = some (ba (Lib.itoa n)) := by
  unfold strconv_Itoa.f
  rw [if_pos h0, if_pos h1]
  rfl
end Go.Proofs.YtgjoenoknknoiaaDoor.PL
namespace Go.Proofs.YtgjoenoknknoiaaDoor.PL
open Go Go.RowKit Go.Proofs.YtgjoenoknknoiaaDoorW.PrintWords Go.Proofs.YtgjoenoknknoiaaDoorW.PrintLast Go.Proofs.YtgjoenoknknoiaaDoorW.PrintMore Go.Proofs.YtgjoenoknknoiaaDoor.Pr Go.Proofs.YtgjoenoknknoiaaDoor.Opn
def PlainP (a b : Int) : Prop := 0 ≤ a ∧ a ≤ 10737418240000 ∧ 0 ≤ b ∧ b ≤ 128849018880000 ∧ (0 < b ∨ a = 0)
instance (a b : Int) : Decidable (PlainP a b) := by unfold PlainP; infer_instance
theorem mix_plain_eq (a b : Int) : mix_plain.f a b = some (decide (PlainP a b)) := by
  unfold mix_plain.f PlainP
  repeat' split
  all_goals first
    | (refine congrArg some (Eq.symm (decide_eq_true ?_)); omega)
    | (refine congrArg some (Eq.symm (decide_eq_false ?_)); omega)
    | (refine congrArg some ?_
       by_cases h : a = 0
       · rw [show (a == 0) = true from by simpa using h]; exact (decide_eq_true (by omega)).symm
       · rw [show (a == 0) = false from by simpa using h]; exact (decide_eq_false (by omega)).symm)
theorem ref_plain_eq (a b : Int) : spileref21_Plain.f a b = some (decide (PlainP a b)) := mix_plain_eq a b
theorem wf64 {x : Int} (h : (Lit.int .i64 x).wf = true) : -9223372036854775808 ≤ x ∧ x ≤ 9223372036854775807 := by
  have h2 := h
  simp [Lit.wf, IntKind.min, IntKind.max, IntKind.signed, IntKind.bits] at h2
  exact ⟨by omega, by omega⟩
/-- A liquid alone: plain by the mixture of one. -/
theorem lot_plain_ev (a b : Int) (ha : -9223372036854775808 ≤ a ∧ a ≤ 9223372036854775807) (hb : -9223372036854775808 ≤ b ∧ b ≤ 9223372036854775807) : Ev (fun k => lot_plain.f k a b) (decide (PlainP a b)) := by
  have r0 : rd_T26 [(⟨a, b⟩ : S26)] 0 = ⟨a, b⟩ := rfl
  have hc : Ev (fun k => api_Liquid_69_at_70.f k [(⟨a, b⟩ : S26)]) (decide (¬ PlainP a b)) := by
    by_cases hp : PlainP a b
    · have : Ev (fun k => api_Liquid_78_at_70.f k [(⟨a, b⟩ : S26)]) (-1) := by
        refine Ev.step (fun k => api_Liquid_78_at_70.l0.eq_2 ..) (evp (by simp) (evp (by decide) (evp (by simp) (evb (a := false) ?_ (evn (by simp) ?_)))))
        · refine evc (fun _ => rfl) ?_
          rw [r0]
          unfold mix_Sum_1.f
          rw [mix_plain_eq, decide_eq_true hp]
          rfl
        · exact Ev.step (fun k => api_Liquid_78_at_70.l0.eq_2 ..) (evn (by simp [wrap64]) (Ev.now _))
      rw [decide_eq_false (fun h => h hp)]
      exact evb this (evr (by decide))
    · have : Ev (fun k => api_Liquid_78_at_70.f k [(⟨a, b⟩ : S26)]) 0 := by
        refine Ev.step (fun k => api_Liquid_78_at_70.l0.eq_2 ..) (evp (by simp) (evp (by decide) (evp (by simp) (evb (a := true) ?_ (evp rfl (Ev.now _))))))
        refine evc (fun _ => rfl) ?_
        rw [r0]
        unfold mix_Sum_1.f
        rw [mix_plain_eq, decide_eq_false hp]
        rfl
      rw [decide_eq_true hp]
      exact evb this (evr (by decide))
  have ht : Ev (fun k => mix_total.f k [(⟨a, b⟩ : S26)]) (a, b) := by
    refine Ev.step (fun k => mix_total.l0.eq_2 ..) (evp (by simp) (evp (by decide) (evp (by simp) ?_)))
    rw [r0]
    refine Ev.step (fun k => mix_total.l0.eq_2 ..) (evn (by simp [wrap64]) (evr ?_))
    show (wrap64 (0 + a), wrap64 (0 + b)) = (a, b)
    rw [w64 (by omega) (by omega), w64 (by omega) (by omega)]
    simp
  by_cases hp : PlainP a b
  · rw [decide_eq_false (fun h => h hp)] at hc
    rw [decide_eq_true hp]
    refine evb (a := (a, b, 0)) ?_ (evr (by simp))
    refine evn (by simp) (evb hc (evn (by simp) (evb ht (evb (a := true) (evc (fun _ => rfl) ?_) (evp rfl (Ev.now _))))))
    rw [mix_plain_eq, decide_eq_true hp]
  · rw [decide_eq_true hp] at hc
    rw [decide_eq_false hp]
    refine evb (a := (0, 0, 1)) ?_ (evr (by simp))
    exact evn (by simp) (evb hc (evp rfl (Ev.now _)))
/-- The shares of a lot. -/
theorem shares_both (l : List S35) (hl : (l.length : Int) ≤ 9223372036854775807) (a0 a1 a2 : Int) : ∀ i, 0 ≤ i → i ≤ (l.length : Int) → ∀ s,
    ∃ e, Ev (fun k => spileref22_Shares.l0 k l i) e ∧ (e ≠ 0 → Ev (fun k => lot_shares.l0 k s l (l.length : Int) i a0 a1 a2 l) e) ∧
      (e = 0 → ∃ t, Ev (fun k => spileref22_Alcohol.l0 k l s i) t ∧ Ev (fun k => lot_shares.l0 k s l (l.length : Int) i a0 a1 a2 l) (if t = a1 then 0 else 14)) := by
  refine count_up 0 (l.length : Int) _ ?_ ?_
  · intro s
    refine ⟨0, Ev.step (fun k => spileref22_Shares.l0.eq_2 ..) (evn (by omega) (Ev.now _)), fun h => absurd rfl h, fun _ => ⟨s, Ev.step (fun k => spileref22_Alcohol.l0.eq_2 ..) (evn (by omega) (Ev.now _)), ?_⟩⟩
    refine Ev.step (fun k => lot_shares.l0.eq_2 ..) (evn (by omega) ?_)
    by_cases h : s = a1
    · rw [show (if s = a1 then (0 : Int) else 14) = 0 from if_pos h]; exact evp h (Ev.now _)
    · rw [show (if s = a1 then (0 : Int) else 14) = 14 from if_neg h]; exact evn h (Ev.now _)
  · intro i h0 h1 ih s
    have hw := w64_succ h0 h1 hl
    by_cases c1 : (rd_T35 l i).f0 < 1
    · exact ⟨10, Ev.step (fun k => spileref22_Shares.l0.eq_2 ..) (evp h1 (evp h0 (evp c1 (Ev.now _)))), fun _ => Ev.step (fun k => lot_shares.l0.eq_2 ..) (evp h1 (evp h0 (evp h1 (evp c1 (Ev.now _))))), fun h => absurd h (by decide)⟩
    by_cases c2 : (rd_T35 l i).f0 > 1073741824
    · exact ⟨10, Ev.step (fun k => spileref22_Shares.l0.eq_2 ..) (evp h1 (evp h0 (evn c1 (evp c2 (Ev.now _))))), fun _ => Ev.step (fun k => lot_shares.l0.eq_2 ..) (evp h1 (evp h0 (evp h1 (evn c1 (evp c2 (Ev.now _)))))), fun h => absurd h (by decide)⟩
    by_cases c3 : (rd_T35 l i).f1 < 1
    · exact ⟨10, Ev.step (fun k => spileref22_Shares.l0.eq_2 ..) (evp h1 (evp h0 (evn c1 (evn c2 (evp c3 (Ev.now _)))))), fun _ => Ev.step (fun k => lot_shares.l0.eq_2 ..) (evp h1 (evp h0 (evp h1 (evn c1 (evn c2 (evp c3 (Ev.now _))))))), fun h => absurd h (by decide)⟩
    by_cases c4 : (rd_T35 l i).f1 > 10737418240000
    · exact ⟨10, Ev.step (fun k => spileref22_Shares.l0.eq_2 ..) (evp h1 (evp h0 (evn c1 (evn c2 (evn c3 (evp c4 (Ev.now _))))))), fun _ => Ev.step (fun k => lot_shares.l0.eq_2 ..) (evp h1 (evp h0 (evp h1 (evn c1 (evn c2 (evn c3 (evp c4 (Ev.now _)))))))), fun h => absurd h (by decide)⟩
    obtain ⟨e, q1, q2, q3⟩ := ih (wrap64 (s + (rd_T35 l i).f1))
    rw [← hw] at q1 q2 q3
    by_cases c5 : i > 0
    · have hp := w64_pred h0 (Int.le_of_lt h1) hl
      have p0 : 0 ≤ wrap64 (i - 1) := by rw [hp]; omega
      have p1 : wrap64 (i - 1) < (l.length : Int) := by rw [hp]; omega
      by_cases c6 : (rd_T35 l i).f0 ≤ (rd_T35 l (wrap64 (i - 1))).f0
      · exact ⟨10, Ev.step (fun k => spileref22_Shares.l0.eq_2 ..) (evp h1 (evp h0 (evn c1 (evn c2 (evn c3 (evn c4 (evp c5 (evp p0 (evp p1 (evp c6 (Ev.now _)))))))))) ), fun _ => Ev.step (fun k => lot_shares.l0.eq_2 ..) (evp h1 (evp h0 (evp h1 (evn c1 (evn c2 (evn c3 (evn c4 (evp c5 (evp p0 (evp p1 (evp c6 (Ev.now _))))))))))) ), fun h => absurd h (by decide)⟩
      · refine ⟨e, Ev.step (fun k => spileref22_Shares.l0.eq_2 ..) (evp h1 (evp h0 (evn c1 (evn c2 (evn c3 (evn c4 (evp c5 (evp p0 (evp p1 (evn c6 q1)))))))))), fun h => Ev.step (fun k => lot_shares.l0.eq_2 ..) (evp h1 (evp h0 (evp h1 (evn c1 (evn c2 (evn c3 (evn c4 (evp c5 (evp p0 (evp p1 (evn c6 (q2 h)))))))))))), fun h => ?_⟩
        obtain ⟨t, q4, q5⟩ := q3 h
        exact ⟨t, Ev.step (fun k => spileref22_Alcohol.l0.eq_2 ..) (evp h1 (evp h0 q4)), Ev.step (fun k => lot_shares.l0.eq_2 ..) (evp h1 (evp h0 (evp h1 (evn c1 (evn c2 (evn c3 (evn c4 (evp c5 (evp p0 (evp p1 (evn c6 q5)))))))))))⟩
    · refine ⟨e, Ev.step (fun k => spileref22_Shares.l0.eq_2 ..) (evp h1 (evp h0 (evn c1 (evn c2 (evn c3 (evn c4 (evn c5 q1))))))), fun h => Ev.step (fun k => lot_shares.l0.eq_2 ..) (evp h1 (evp h0 (evp h1 (evn c1 (evn c2 (evn c3 (evn c4 (evn c5 (q2 h))))))))), fun h => ?_⟩
      obtain ⟨t, q4, q5⟩ := q3 h
      exact ⟨t, Ev.step (fun k => spileref22_Alcohol.l0.eq_2 ..) (evp h1 (evp h0 q4)), Ev.step (fun k => lot_shares.l0.eq_2 ..) (evp h1 (evp h0 (evp h1 (evn c1 (evn c2 (evn c3 (evn c4 (evn c5 q5))))))))⟩
/-- What is right in a lot's numbers. -/
def Wf33 (x : S33) : Prop := (-9223372036854775808 ≤ x.f1.f0 ∧ x.f1.f0 ≤ 9223372036854775807) ∧ (-9223372036854775808 ≤ x.f1.f1 ∧ x.f1.f1 ≤ 9223372036854775807) ∧ (x.f2.length : Int) ≤ 9223372036854775807
theorem shares_f_both (x : S33) (h : Wf33 x) : ∃ e, Ev (fun k => spileref22_Shares.f k x.f2) e ∧ (e ≠ 0 → Ev (fun k => lot_shares.f k x.f0 x.f1.f0 x.f1.f1 x.f2) e) ∧
    (e = 0 → ∃ t, Ev (fun k => spileref22_Alcohol.f k x.f2) t ∧ Ev (fun k => lot_shares.f k x.f0 x.f1.f0 x.f1.f1 x.f2) (if t = x.f1.f0 then 0 else 14)) := by
  by_cases c : (x.f2.length : Int) > 32
  · exact ⟨12, evp c (Ev.now _), fun _ => evp c (Ev.now _), fun h => absurd h (by decide)⟩
  · obtain ⟨e, q1, q2, q3⟩ := shares_both x.f2 h.2.2 x.f0 x.f1.f0 x.f1.f1 0 (by omega) (by omega) 0
    refine ⟨e, evn c q1, fun h => evn c (q2 h), fun h => ?_⟩
    obtain ⟨t, q4, q5⟩ := q3 h
    exact ⟨t, q4, evn c q5⟩
/-- A lot's fault, but for its number and place: both sides alike. -/
theorem one_both (x : S33) (h : Wf33 x) : ∃ e, Ev (fun k => spileref22_One.f k x.f0 x.f1.f0 x.f1.f1 x.f2) e ∧ Ev (fun k => lot_fault.j1 k false x.f0 x.f1.f0 x.f1.f1 x.f2) e := by
  have hp := lot_plain_ev x.f1.f0 x.f1.f1 h.1 h.2.1
  by_cases c : PlainP x.f1.f0 x.f1.f1
  · rw [decide_eq_true c] at hp
    have hr : Ev (fun _ : Nat => spileref21_Plain.f x.f1.f0 x.f1.f1) true := evc (fun _ => rfl) (by rw [ref_plain_eq, decide_eq_true c])
    by_cases c2 : x.f1.f1 = 0
    · refine ⟨1, evb hr (evp rfl (Ev.step (fun k => spileref22_One.j0.eq_2 ..) (evp (by simpa using c2) (Ev.now _)))), Ev.step (fun k => lot_fault.j1.eq_2 ..) (evn (by simp) (evb hp (evp rfl (evp c2 (Ev.now _)))))⟩
    · have c3 : ¬ (x.f1.f1 == 0) = true := by simpa using c2
      obtain ⟨e, q1, q2, q3⟩ := shares_f_both x h
      by_cases he : e = 0
      · obtain ⟨t, q4, q5⟩ := q3 he
        refine ⟨if t = x.f1.f0 then 0 else 14, evb hr (evp rfl (Ev.step (fun k => spileref22_One.j0.eq_2 ..) (evn c3 (evb q1 (evp he (evb q4 ?_)))))), Ev.step (fun k => lot_fault.j1.eq_2 ..) (evn (by simp) (evb hp (evp rfl (evn c2 (evb q5 (Ev.now _))))))⟩
        by_cases ht : t = x.f1.f0
        · rw [show (if t = x.f1.f0 then (0 : Int) else 14) = 0 from if_pos ht]; exact evp ht (Ev.now _)
        · rw [show (if t = x.f1.f0 then (0 : Int) else 14) = 14 from if_neg ht]; exact evn ht (Ev.now _)
      · exact ⟨e, evb hr (evp rfl (Ev.step (fun k => spileref22_One.j0.eq_2 ..) (evn c3 (evb q1 (evn he (Ev.now _)))))), Ev.step (fun k => lot_fault.j1.eq_2 ..) (evn (by simp) (evb hp (evp rfl (evn c2 (evb (q2 he) (Ev.now _))))))⟩
  · rw [decide_eq_false c] at hp
    have hr : Ev (fun _ : Nat => spileref21_Plain.f x.f1.f0 x.f1.f1) false := evc (fun _ => rfl) (by rw [ref_plain_eq, decide_eq_false c])
    exact ⟨1, evb hr (evn (by simp) (Ev.step (fun k => spileref22_One.j0.eq_2 ..) (evp rfl (Ev.now _)))), Ev.step (fun k => lot_fault.j1.eq_2 ..) (evn (by simp) (evb hp (evn (by simp) (Ev.now _))))⟩
theorem id_eq (x : Int) : spileref22_ID.f x = some (decide (1 ≤ x ∧ x ≤ 1073741824)) := by
  unfold spileref22_ID.f
  by_cases h : x ≥ 1
  · rw [if_pos h]
    by_cases h2 : x ≤ 1073741824
    · rw [decide_eq_true h2, decide_eq_true (⟨h, h2⟩ : 1 ≤ x ∧ x ≤ 1073741824)]
    · rw [decide_eq_false h2, decide_eq_false (fun q => h2 q.2)]
  · rw [if_neg h, decide_eq_false (fun q => h q.1)]
theorem check_loop (l : List S33) (hl : (l.length : Int) ≤ 9223372036854775807) (hw : ∀ i, 0 ≤ i → i < (l.length : Int) → Wf33 (rd_T33 l i)) : ∀ i, 0 ≤ i → i ≤ (l.length : Int) →
    ∃ r, Ev (fun k => lot_Check.l0 k l (l.length : Int) i) r ∧ Ev (fun k => spileref22_Check.l0 k l i) r := by
  refine count_up 0 (l.length : Int) _ ?_ ?_
  · exact ⟨(-1, 0), Ev.step (fun k => lot_Check.l0.eq_2 ..) (evn (by omega) (Ev.now _)), Ev.step (fun k => spileref22_Check.l0.eq_2 ..) (evn (by omega) (Ev.now _))⟩
  · intro i h0 h1 ih
    obtain ⟨r, q1, q2⟩ := ih
    rw [← w64_succ h0 h1 hl] at q1 q2
    by_cases c1 : (rd_T33 l i).f0 < 1
    · refine ⟨(i, 2), Ev.step (fun k => lot_Check.l0.eq_2 ..) (evp h1 (evb (a := 2) (evp h0 (evp h1 (evp c1 (Ev.step (fun k => lot_fault.j0.eq_2 ..) (evp rfl (Ev.now _)))))) (evn (by decide) (Ev.now _)))), Ev.step (fun k => spileref22_Check.l0.eq_2 ..) (evp h1 (evp h0 (evb (a := false) (evc (fun _ => rfl) ?_) (evn (by simp) (Ev.now _)))))⟩
      rw [id_eq, decide_eq_false (by omega)]
    by_cases c2 : (rd_T33 l i).f0 > 1073741824
    · refine ⟨(i, 2), Ev.step (fun k => lot_Check.l0.eq_2 ..) (evp h1 (evb (a := 2) (evp h0 (evp h1 (evn c1 (Ev.step (fun k => lot_fault.j0.eq_2 ..) (evp (decide_eq_true c2) (Ev.now _)))))) (evn (by decide) (Ev.now _)))), Ev.step (fun k => spileref22_Check.l0.eq_2 ..) (evp h1 (evp h0 (evb (a := false) (evc (fun _ => rfl) ?_) (evn (by simp) (Ev.now _)))))⟩
      rw [id_eq, decide_eq_false (by omega)]
    have hid : Ev (fun _ : Nat => spileref22_ID.f (rd_T33 l i).f0) true := evc (fun _ => rfl) (by rw [id_eq, decide_eq_true (by omega)])
    have c2' : ¬ decide ((rd_T33 l i).f0 > 1073741824) = true := by simpa using c2
    obtain ⟨e, o1, o2⟩ := one_both (rd_T33 l i) (hw i h0 h1)
    have fin : ∀ (g : Nat → Option Int), Ev g e → ∀ (g2 : Nat → Option Int), Ev g2 e → ∃ r2, Ev (fun k => (g k).bind fun t => if t = 0 then lot_Check.l0 k l (l.length : Int) (wrap64 (i + 1)) else some (i, t)) r2 ∧ Ev (fun k => (g2 k).bind fun t => if t = 0 then spileref22_Check.l0 k l (wrap64 (i + 1)) else some (i, t)) r2 := by
      intro g hg g2 hg2
      by_cases he : e = 0
      · exact ⟨r, evb hg (evp he q1), evb hg2 (evp he q2)⟩
      · exact ⟨(i, e), evb hg (evn he (Ev.now _)), evb hg2 (evn he (Ev.now _))⟩
    by_cases c3 : i > 0
    · have hp := w64_pred h0 (Int.le_of_lt h1) hl
      have p0 : 0 ≤ wrap64 (i - 1) := by rw [hp]; omega
      have p1 : wrap64 (i - 1) < (l.length : Int) := by rw [hp]; omega
      by_cases c4 : (rd_T33 l i).f0 ≤ (rd_T33 l (wrap64 (i - 1))).f0
      · have F : Ev (fun k => lot_fault.f k l i) 5 := by
          refine evp h0 (evp h1 (evn c1 (Ev.step (fun k => lot_fault.j0.eq_2 ..) ?_)))
          refine evn c2' (evp c3 (evp p0 (evp p1 (Ev.step (fun k => lot_fault.j1.eq_2 ..) ?_))))
          exact evp (decide_eq_true c4) (Ev.now _)
        refine ⟨(i, 5), Ev.step (fun k => lot_Check.l0.eq_2 ..) (evp h1 (evb F (evn (by decide) (Ev.now _)))), Ev.step (fun k => spileref22_Check.l0.eq_2 ..) (evp h1 (evp h0 (evb hid (evp rfl ?_))))⟩
        exact evp c3 (evp p0 (evp p1 (Ev.step (fun k => spileref22_Check.j1.eq_2 ..) (evp (decide_eq_true c4) (Ev.now _)))))
      · have hd : decide ((rd_T33 l (wrap64 (i - 1))).f0 ≥ (rd_T33 l i).f0) = false := decide_eq_false c4
        have hd2 : ¬ decide ((rd_T33 l i).f0 ≤ (rd_T33 l (wrap64 (i - 1))).f0) = true := by simpa using c4
        have F : Ev (fun k => lot_fault.f k l i) e := by
          refine evp h0 (evp h1 (evn c1 (Ev.step (fun k => lot_fault.j0.eq_2 ..) ?_)))
          refine evn c2' (evp c3 (evp p0 (evp p1 ?_)))
          rw [hd]
          exact o2
        obtain ⟨r2, f1, f2⟩ := fin _ F _ o1
        refine ⟨r2, Ev.step (fun k => lot_Check.l0.eq_2 ..) (evp h1 f1), Ev.step (fun k => spileref22_Check.l0.eq_2 ..) (evp h1 (evp h0 (evb hid (evp rfl ?_))))⟩
        exact evp c3 (evp p0 (evp p1 (Ev.step (fun k => spileref22_Check.j1.eq_2 ..) (evn hd2 (evp h0 (evp h1 f2))))))
    · have F : Ev (fun k => lot_fault.f k l i) e := by
        refine evp h0 (evp h1 (evn c1 (Ev.step (fun k => lot_fault.j0.eq_2 ..) ?_)))
        exact evn c2' (evn c3 o2)
      obtain ⟨r2, f1, f2⟩ := fin _ F _ o1
      refine ⟨r2, Ev.step (fun k => lot_Check.l0.eq_2 ..) (evp h1 f1), Ev.step (fun k => spileref22_Check.l0.eq_2 ..) (evp h1 (evp h0 (evb hid (evp rfl ?_))))⟩
      exact evn c3 (Ev.step (fun k => spileref22_Check.j1.eq_2 ..) (evn (by simp) (evp h0 (evp h1 f2))))
theorem check_both (l : List S33) (hl : (l.length : Int) ≤ 9223372036854775807) (hw : ∀ i, 0 ≤ i → i < (l.length : Int) → Wf33 (rd_T33 l i)) :
    ∃ r, Ev (fun k => lot_Check.f k l) r ∧ Ev (fun k => spileref22_Check.f k l) r := by
  by_cases c : (l.length : Int) > 32
  · exact ⟨(-1, 8), evp c (Ev.now _), evp c (Ev.now _)⟩
  · obtain ⟨r, q1, q2⟩ := check_loop l hl hw 0 (by omega) (by omega)
    exact ⟨r, evn c q1, evn c q2⟩
def Few12 (l : List S35) : Prop := (l.length : Int) ≤ 12 ∨ (32 < (l.length : Int) ∧ (l.length : Int) ≤ 37)
instance (l : List S35) : Decidable (Few12 l) := by unfold Few12; infer_instance
theorem fewShares_eq (l : List S35) : spileref22_FewShares.f l = some (decide (Few12 l)) := by
  unfold spileref22_FewShares.f
  by_cases c : (l.length : Int) ≤ 12
  · rw [if_pos c, decide_eq_true (show Few12 l from Or.inl c)]
  · rw [if_neg c]
    by_cases c2 : (l.length : Int) > 32
    · rw [if_pos c2]
      by_cases c3 : (l.length : Int) ≤ 37
      · rw [decide_eq_true c3, decide_eq_true (show Few12 l from Or.inr ⟨c2, c3⟩)]
      · rw [decide_eq_false c3, decide_eq_false (show ¬ Few12 l from by unfold Few12; omega)]
    · rw [if_neg c2, decide_eq_false (show ¬ Few12 l from by unfold Few12; omega)]
theorem few_ev (l : List S33) (hl : (l.length : Int) ≤ 9223372036854775807) : ∃ b, Ev (fun k => spileref22_Few.f k l) b ∧ (b = true → (l.length : Int) ≤ 37 ∧ ∀ i, 0 ≤ i → i < (l.length : Int) → Few12 (rd_T33 l i).f2) := by
  have loop : ∀ i, 0 ≤ i → i ≤ (l.length : Int) → ∃ b, Ev (fun k => spileref22_Few.l0 k l i) b ∧ (b = true → ∀ j, i ≤ j → j < (l.length : Int) → Few12 (rd_T33 l j).f2) := by
    refine count_up 0 (l.length : Int) _ ?_ ?_
    · exact ⟨true, Ev.step (fun k => spileref22_Few.l0.eq_2 ..) (evn (by omega) (Ev.now _)), fun _ j g0 g1 => by omega⟩
    · intro i h0 h1 ih
      obtain ⟨b, q1, q2⟩ := ih
      rw [← w64_succ h0 h1 hl] at q1
      by_cases c : Few12 (rd_T33 l i).f2
      · refine ⟨b, Ev.step (fun k => spileref22_Few.l0.eq_2 ..) (evp h1 (evp h0 (evb (a := true) (evc (fun _ => rfl) (by rw [fewShares_eq, decide_eq_true c])) (evp rfl q1)))), fun hb j g0 g1 => ?_⟩
        by_cases e : j = i
        · rw [e]; exact c
        · exact q2 hb j (by omega) g1
      · exact ⟨false, Ev.step (fun k => spileref22_Few.l0.eq_2 ..) (evp h1 (evp h0 (evb (a := false) (evc (fun _ => rfl) (by rw [fewShares_eq, decide_eq_false c])) (evn (by simp) (Ev.now _))))), fun h => by cases h⟩
  obtain ⟨b, q1, q2⟩ := loop 0 (by omega) (by omega)
  have tail : ∃ b, Ev (fun k => spileref22_Few.j0 k l (decide ((l.length : Int) > 37))) b ∧ (b = true → (l.length : Int) ≤ 37 ∧ ∀ i, 0 ≤ i → i < (l.length : Int) → Few12 (rd_T33 l i).f2) := by
    by_cases c : (l.length : Int) > 37
    · exact ⟨false, Ev.step (fun k => spileref22_Few.j0.eq_2 ..) (evp (decide_eq_true c) (Ev.now _)), fun h => by cases h⟩
    · exact ⟨b, Ev.step (fun k => spileref22_Few.j0.eq_2 ..) (evn (by simpa using c) q1), fun hb => ⟨by omega, q2 hb⟩⟩
  obtain ⟨b2, t1, t2⟩ := tail
  by_cases c : (l.length : Int) > 8
  · by_cases c2 : (l.length : Int) ≤ 32
    · exact ⟨false, evp c (evp c2 (Ev.step (fun k => spileref22_Few.j0.eq_2 ..) (evp rfl (Ev.now _)))), fun h => by cases h⟩
    · exact ⟨b2, evp c (evn c2 t1), t2⟩
  · exact ⟨b2, evn c t1, t2⟩
theorem sameShares_ev (l : List S35) (hl : (l.length : Int) ≤ 9223372036854775807) : Ev (fun k => spileref22_SameShares.f k l l) true := by
  refine evp rfl (count_up 0 (l.length : Int) (fun i => Ev (fun k => spileref22_SameShares.l0 k l l i) true) ?_ ?_ 0 (by omega) (by omega))
  · exact Ev.step (fun k => spileref22_SameShares.l0.eq_2 ..) (evn (by omega) (Ev.now _))
  · intro i h0 h1 ih
    rw [← w64_succ h0 h1 hl] at ih
    exact Ev.step (fun k => spileref22_SameShares.l0.eq_2 ..) (evp h1 (evp h0 (evp h1 (evn (by simp) ih))))
theorem sameLot_ev (a b c : Int) (l : List S35) (hl : (l.length : Int) ≤ 9223372036854775807) : Ev (fun k => spileref22_SameLot.f k a b c l a b c l) true :=
  evp rfl (evp (by simp) (evb (sameShares_ev l hl) (Ev.now _)))
end Go.Proofs.YtgjoenoknknoiaaDoor.PL
namespace Go.Proofs.YtgjoenoknknoiaaDoor.PL
open Go Go.RowKit Go.Proofs.YtgjoenoknknoiaaDoorW.PrintWords Go.Proofs.YtgjoenoknknoiaaDoorW.PrintLast Go.Proofs.YtgjoenoknknoiaaDoorW.PrintMore Go.Proofs.YtgjoenoknknoiaaDoor.Pr Go.Proofs.YtgjoenoknknoiaaDoor.Opn
theorem rd33 (l : List S33) (i : Nat) (h : i < l.length) : rd_T33 l (i : Int) = l[i] := by
  unfold rd_T33
  simp [List.getD_eq_getElem?_getD, List.getElem?_eq_getElem h]
theorem rd33_mem {l : List S33} {i : Int} (h0 : 0 ≤ i) (h1 : i < (l.length : Int)) : rd_T33 l i ∈ l := by
  have e : i = ((i.toNat : Nat) : Int) := by omega
  rw [e, rd33 l i.toNat (by omega)]
  exact List.getElem_mem _
theorem mem_rd33 {l : List S33} {x : S33} (h : x ∈ l) : ∃ i : Int, 0 ≤ i ∧ i < (l.length : Int) ∧ rd_T33 l i = x := by
  obtain ⟨i, hi, e⟩ := List.mem_iff_getElem.1 h
  exact ⟨(i : Int), by omega, by omega, by rw [rd33 l i hi, e]⟩
theorem drop_next {l : List S33} {i : Int} (h0 : 0 ≤ i) (h1 : i < (l.length : Int)) : l.drop i.toNat = rd_T33 l i :: l.drop (i + 1).toNat := by
  have e : i = ((i.toNat : Nat) : Int) := by omega
  have g : rd_T33 l i = l[i.toNat]'(by omega) := by rw [← rd33 l i.toNat (by omega), ← e]
  rw [g, show (i + 1).toNat = i.toNat + 1 from by omega, ← List.drop_eq_getElem_cons]
def IdP (x : S33) : Prop := 1 ≤ x.f0 ∧ x.f0 ≤ 1073741824
instance (x : S33) : Decidable (IdP x) := by unfold IdP; infer_instance
def Fine (x : S33) : Prop := Ev (fun k => spileref22_One.f k x.f0 x.f1.f0 x.f1.f1 x.f2) 0
def Up (l : List S33) : Prop := l.Pairwise (fun a b => a.f0 < b.f0)
def RightL (l : List S33) : Prop := (l.length : Int) ≤ 32 ∧ Up l ∧ ∀ x, x ∈ l → IdP x ∧ Fine x
def At (l : List S33) (j : Int) : Prop := IdP (rd_T33 l j) ∧ (0 < j → (rd_T33 l (j - 1)).f0 < (rd_T33 l j).f0) ∧ Fine (rd_T33 l j)
theorem check_sem (l : List S33) (hl : (l.length : Int) ≤ 9223372036854775807) (hw : ∀ i, 0 ≤ i → i < (l.length : Int) → Wf33 (rd_T33 l i)) : ∀ i, 0 ≤ i → i ≤ (l.length : Int) →
    ∃ r, Ev (fun k => spileref22_Check.l0 k l i) r ∧ (r.2 = 0 ↔ ∀ j, i ≤ j → j < (l.length : Int) → At l j) := by
  refine count_up 0 (l.length : Int) _ ?_ ?_
  · exact ⟨(-1, 0), Ev.step (fun k => spileref22_Check.l0.eq_2 ..) (evn (by omega) (Ev.now _)), fun _ j h0 h1 => by omega, fun _ => rfl⟩
  · intro i h0 h1 ih
    obtain ⟨r, q1, q2⟩ := ih
    rw [← w64_succ h0 h1 hl] at q1
    have bad : ∀ e : Int, e ≠ 0 → ¬ At l i → (((i, e) : Int × Int).2 = 0 ↔ ∀ j, i ≤ j → j < (l.length : Int) → At l j) := fun e he hn => ⟨fun h => absurd h he, fun h => absurd (h i (by omega) h1) hn⟩
    have good : At l i → (r.2 = 0 ↔ ∀ j, i ≤ j → j < (l.length : Int) → At l j) := fun hi => ⟨fun h j g0 g1 => by
      by_cases e : j = i
      · rw [e]; exact hi
      · exact q2.1 h j (by omega) g1, fun h => q2.2 (fun j g0 g1 => h j (by omega) g1)⟩
    by_cases c : IdP (rd_T33 l i)
    · have hid : Ev (fun _ : Nat => spileref22_ID.f (rd_T33 l i).f0) true := evc (fun _ => rfl) (by rw [id_eq]; exact congrArg some (decide_eq_true c))
      obtain ⟨e, o1, _⟩ := one_both (rd_T33 l i) (hw i h0 h1)
      by_cases c3 : i > 0
      · have hp := w64_pred h0 (Int.le_of_lt h1) hl
        have p0 : 0 ≤ wrap64 (i - 1) := by rw [hp]; omega
        have p1 : wrap64 (i - 1) < (l.length : Int) := by rw [hp]; omega
        by_cases c4 : (rd_T33 l i).f0 ≤ (rd_T33 l (wrap64 (i - 1))).f0
        · refine ⟨(i, 5), Ev.step (fun k => spileref22_Check.l0.eq_2 ..) (evp h1 (evp h0 (evb hid (evp rfl ?_)))), bad 5 (by decide) (fun h => ?_)⟩
          · exact evp c3 (evp p0 (evp p1 (Ev.step (fun k => spileref22_Check.j1.eq_2 ..) (evp (decide_eq_true c4) (Ev.now _)))))
          · have := h.2.1 c3
            rw [hp] at c4
            omega
        · have hd2 : ¬ decide ((rd_T33 l i).f0 ≤ (rd_T33 l (wrap64 (i - 1))).f0) = true := by simpa using c4
          by_cases he : e = 0
          · refine ⟨r, Ev.step (fun k => spileref22_Check.l0.eq_2 ..) (evp h1 (evp h0 (evb hid (evp rfl ?_)))), good ⟨c, fun _ => ?_, ?_⟩⟩
            · exact evp c3 (evp p0 (evp p1 (Ev.step (fun k => spileref22_Check.j1.eq_2 ..) (evn hd2 (evp h0 (evp h1 (evb o1 (evp he q1))))))))
            · rw [hp] at c4
              omega
            · subst he; exact o1
          · refine ⟨(i, e), Ev.step (fun k => spileref22_Check.l0.eq_2 ..) (evp h1 (evp h0 (evb hid (evp rfl ?_)))), bad e he (fun h => he (ev_unique o1 h.2.2))⟩
            exact evp c3 (evp p0 (evp p1 (Ev.step (fun k => spileref22_Check.j1.eq_2 ..) (evn hd2 (evp h0 (evp h1 (evb o1 (evn he (Ev.now _)))))))))
      · by_cases he : e = 0
        · refine ⟨r, Ev.step (fun k => spileref22_Check.l0.eq_2 ..) (evp h1 (evp h0 (evb hid (evp rfl ?_)))), good ⟨c, fun h => absurd h c3, ?_⟩⟩
          · exact evn c3 (Ev.step (fun k => spileref22_Check.j1.eq_2 ..) (evn (by simp) (evp h0 (evp h1 (evb o1 (evp he q1))))))
          · subst he; exact o1
        · refine ⟨(i, e), Ev.step (fun k => spileref22_Check.l0.eq_2 ..) (evp h1 (evp h0 (evb hid (evp rfl ?_)))), bad e he (fun h => he (ev_unique o1 h.2.2))⟩
          exact evn c3 (Ev.step (fun k => spileref22_Check.j1.eq_2 ..) (evn (by simp) (evp h0 (evp h1 (evb o1 (evn he (Ev.now _)))))))
    · refine ⟨(i, 2), Ev.step (fun k => spileref22_Check.l0.eq_2 ..) (evp h1 (evp h0 (evb (a := false) (evc (fun _ => rfl) ?_) (evn (by simp) (Ev.now _))))), bad 2 (by decide) (fun h => c h.1)⟩
      rw [id_eq]; exact congrArg some (decide_eq_false c)
theorem up_of (l : List S33) (h : ∀ j, 0 ≤ j → j < (l.length : Int) → At l j) : Up l := by
  refine List.pairwise_iff_getElem.2 ?_
  have key : ∀ d i : Nat, (hi : i + d + 1 < l.length) → (l[i]'(by omega)).f0 < (l[i + d + 1]'hi).f0 := by
    intro d
    induction d with
    | zero =>
      intro i hi
      have := (h ((i + 1 : Nat) : Int) (by omega) (by omega)).2.1 (by omega)
      rw [rd33 l (i + 1) hi, show (((i + 1 : Nat) : Int) - 1) = (i : Int) from by omega, rd33 l i (by omega)] at this
      exact this
    | succ d ih =>
      intro i hi
      have a := ih i (by omega)
      have := (h ((i + d + 1 + 1 : Nat) : Int) (by omega) (by omega)).2.1 (by omega)
      rw [rd33 l (i + d + 1 + 1) (by omega), show (((i + d + 1 + 1 : Nat) : Int) - 1) = ((i + d + 1 : Nat) : Int) from by omega, rd33 l (i + d + 1) (by omega)] at this
      exact Int.lt_trans a this
  intro i j hi hj hij
  obtain ⟨d, rfl⟩ : ∃ d, j = i + d + 1 := ⟨j - i - 1, by omega⟩
  exact key d i hj
theorem up_lt {l : List S33} (h : Up l) {i j : Int} (h0 : 0 ≤ i) (h1 : i < j) (h2 : j < (l.length : Int)) : (rd_T33 l i).f0 < (rd_T33 l j).f0 := by
  have e : i = ((i.toNat : Nat) : Int) := by omega
  have e2 : j = ((j.toNat : Nat) : Int) := by omega
  rw [e, e2, rd33 l i.toNat (by omega), rd33 l j.toNat (by omega)]
  exact List.pairwise_iff_getElem.1 h i.toNat j.toNat (by omega) (by omega) (by omega)
theorem at_iff (l : List S33) : (∀ j, 0 ≤ j → j < (l.length : Int) → At l j) ↔ Up l ∧ ∀ x, x ∈ l → IdP x ∧ Fine x := by
  constructor
  · intro h
    refine ⟨up_of l h, fun x hx => ?_⟩
    obtain ⟨i, h0, h1, rfl⟩ := mem_rd33 hx
    exact ⟨(h i h0 h1).1, (h i h0 h1).2.2⟩
  · intro h j h0 h1
    have hm := h.2 _ (rd33_mem h0 h1)
    exact ⟨hm.1, fun hj => up_lt h.1 (by omega) (by omega) h1, hm.2⟩
theorem check_iff (l : List S33) (hl : (l.length : Int) ≤ 9223372036854775807) (hw : ∀ i, 0 ≤ i → i < (l.length : Int) → Wf33 (rd_T33 l i)) :
    ∃ r, Ev (fun k => lot_Check.f k l) r ∧ Ev (fun k => spileref22_Check.f k l) r ∧ (r.2 = 0 ↔ RightL l) := by
  obtain ⟨r, q1, q2⟩ := check_both l hl hw
  refine ⟨r, q1, q2, ?_⟩
  by_cases c : (l.length : Int) > 32
  · have : Ev (fun k => spileref22_Check.f k l) (-1, 8) := evp c (Ev.now _)
    rw [ev_unique q2 this]
    exact ⟨fun h => absurd h (by decide), fun h => absurd h.1 (by omega)⟩
  · obtain ⟨r2, p1, p2⟩ := check_sem l hl hw 0 (by omega) (by omega)
    have : Ev (fun k => spileref22_Check.f k l) r2 := evn c p1
    rw [ev_unique q2 this, p2, at_iff]
    exact ⟨fun h => ⟨by omega, h⟩, fun h => h.2⟩
theorem right_iff (l : List S33) (hl : (l.length : Int) ≤ 9223372036854775807) (hw : ∀ i, 0 ≤ i → i < (l.length : Int) → Wf33 (rd_T33 l i)) :
    ∃ b, Ev (fun k => lot_right.f k l) b ∧ Ev (fun k => spileref22_Right.f k l) b ∧ (b = true ↔ RightL l) := by
  obtain ⟨r, q1, q2, q3⟩ := check_iff l hl hw
  exact ⟨r.2 == 0, evb q1 (Ev.now _), evb q2 (Ev.now _), by rw [← q3]; simp⟩
/-- Lists that are alike are the same. -/
theorem same_ev (l : List S33) (hn : (l.length : Int) ≤ 9223372036854775807) (hf : ∀ y, y ∈ l → (y.f2.length : Int) ≤ 37) : Ev (fun k => spileref22_Same.f k l l) true := by
  refine evp rfl (count_up 0 (l.length : Int) (fun i => Ev (fun k => spileref22_Same.l0 k l l i) true) ?_ ?_ 0 (by omega) (by omega))
  · exact Ev.step (fun k => spileref22_Same.l0.eq_2 ..) (evn (by omega) (Ev.now _))
  · intro i h0 h1 ih
    rw [← w64_succ h0 h1 hn] at ih
    have := hf _ (rd33_mem h0 h1)
    exact Ev.step (fun k => spileref22_Same.l0.eq_2 ..) (evp h1 (evp h0 (evp h1 (evb (sameLot_ev _ _ _ _ (by omega)) (evp rfl ih)))))
theorem wf_all (l : List S33) (h : l.length ≤ maxLen ∧ ∀ x, x ∈ l → ok33 x) : ∀ i, 0 ≤ i → i < (l.length : Int) → Wf33 (rd_T33 l i) := by
  intro i h0 h1
  obtain ⟨_, ⟨a, b⟩, c, _⟩ := h.2 _ (rd33_mem h0 h1)
  exact ⟨wf64 a, wf64 b, len_le c⟩
end Go.Proofs.YtgjoenoknknoiaaDoor.PL
namespace Go.Proofs.YtgjoenoknknoiaaDoor.PL
open Go Go.RowKit Go.Proofs.YtgjoenoknknoiaaDoorW.PrintWords Go.Proofs.YtgjoenoknknoiaaDoorW.PrintLast Go.Proofs.YtgjoenoknknoiaaDoorW.PrintMore Go.Proofs.YtgjoenoknknoiaaDoor.Pr Go.Proofs.YtgjoenoknknoiaaDoor.Opn Go.Proofs.YtgjoenoknknoiaaDoor.TX Go.Proofs.YtgjoenoknknoiaaDoor.X
def wLot : List UInt8 := [108, 111, 116]
def wMass : List UInt8 := [109, 97, 115, 115]
def wFill : List UInt8 := [102, 105, 108, 108]
def wAlc : List UInt8 := [97, 108, 99, 111, 104, 111, 108]
/-- Names and numbers by turns. -/
def pairsL : List UInt8 → List UInt8 → List (List UInt8) → Option (List Int)
  | _, _, [] => some []
  | _, _, [_] => none
  | n0, n1, a :: b :: r => if a = n0 then (match numP 15 b with
    | none => none
    | some v => (match pairsL n1 n0 r with
      | none => none
      | some l => some ((v : Int) :: l))) else none
theorem pairsL_cons (n0 n1 a b : List UInt8) (r : List (List UInt8)) : pairsL n0 n1 (a :: b :: r) = if a = n0 then (match numP 15 b with
    | none => none
    | some v => (match pairsL n1 n0 r with
      | none => none
      | some l => some ((v : Int) :: l))) else none := rfl
theorem pairsL_len : ∀ (m : Nat) (n0 n1 : List UInt8) (ws : List (List UInt8)) (l : List Int), ws.length ≤ m → pairsL n0 n1 ws = some l → 2 * l.length = ws.length
  | _, n0, n1, [], l, _, h => by obtain rfl := Option.some.inj h; rfl
  | _, n0, n1, [_], l, _, h => by cases h
  | 0, n0, n1, a :: b :: r, l, hm, h => by simp at hm
  | m + 1, n0, n1, a :: b :: r, l, hm, h => by
    rw [pairsL_cons] at h
    by_cases c : a = n0
    · rw [if_pos c] at h
      cases hv : numP 15 b with
      | none => rw [hv] at h; cases h
      | some v =>
        rw [hv] at h
        simp only [] at h
        cases hp : pairsL n1 n0 r with
        | none => rw [hp] at h; cases h
        | some t =>
          rw [hp] at h
          obtain rfl := Option.some.inj h
          have := pairsL_len m n1 n0 r t (by simp at hm; omega) hp
          simp; omega
    · rw [if_neg c] at h; cases h
theorem word_at (ws : List (List UInt8)) (j : Nat) (h : j < ws.length) : rdOf ByteArray.empty (ws.map ba) (j : Int) = ba ws[j] := by
  unfold rdOf
  rw [List.getD_eq_getElem?_getD, Int.toNat_natCast, List.getElem?_map, List.getElem?_eq_getElem h]
  rfl
/-- A word's number, by Atoi and Itoa. -/
theorem atoi_ev {α : Type} (b : List UInt8) (hb : b.length ≤ 281474976710656) (fail r : α) (cont : Nat → Int → Option α) (hy : ∀ v : Nat, numP 15 b = some v → Ev (fun k => cont k (v : Int)) r) (hn : numP 15 b = none → fail = r) :
    Ev (fun k => (strconv_Atoi.f (ba b)).bind fun bt => if bt.2.isNone = true then (if bt.1 < 0 then some fail else (if ((ba b).size : Int) > 15 then some fail else ((strconv_Itoa.f bt.1).bind fun t => if t.toList = (ba b).toList then cont k bt.1 else some fail))) else some fail) r := by
  obtain ⟨n, e, h1, h2, h3⟩ := atoi_cases (ba b) (by rw [ba_size]; exact hb)
  rw [ba_list] at h2
  have none_of : ¬ (Canon b ∧ b.length ≤ 15) → numP 15 b = none := fun h => by unfold numP; rw [if_neg h]
  have ok_of : Canon b ∧ b.length ≤ 15 → e = none ∧ n = ((valFrom 0 b : Nat) : Int) := fun h => by
    have ha := atoi_of_canon h.1 (by omega)
    cases e with
    | none =>
      have := h2.1 rfl
      rw [ha] at this
      injection this with this
      exact ⟨rfl, this.symm⟩
    | some q =>
      exfalso
      unfold strconv_Atoi.f at h1
      rw [if_pos (by rw [ba_size]; exact hb), ba_list, ha] at h1
      simp at h1
  refine evb (evc (fun _ => rfl) h1) ?_
  cases e with
  | some q => exact evn (by simp) (evr (hn (none_of (fun h => by have := (ok_of h).1; cases this))))
  | none =>
    refine evp rfl ?_
    by_cases c1 : n < 0
    · exact evp c1 (evr (hn (none_of (fun h => by have := (ok_of h).2; omega))))
    · refine evn c1 ?_
      by_cases c2 : ((ba b).size : Int) > 15
      · exact evp c2 (evr (hn (none_of (fun h => by rw [ba_size] at c2; omega))))
      · refine evn c2 (evb (evc (fun _ => rfl) (itoa_f h3.1 h3.2)) ?_)
        by_cases c3 : Lib.itoa n = b
        · obtain ⟨g1, g2⟩ := canon_of_atoi (by omega) c3
          refine evp (by rw [ba_toList, ba_toList]; exact c3) ?_
          have := hy (valFrom 0 b) (by unfold numP; rw [if_pos ⟨g1, by rw [ba_size] at c2; omega⟩])
          rw [← g2] at this
          exact this
        · refine evn (by rw [ba_toList, ba_toList]; exact c3) (evr (hn (none_of (fun h => c3 ?_))))
          rw [(ok_of h).2]
          exact itoa_of_canon h.1
def pairsR (o : List Int) : Option (List Int) → List Int × Bool
  | some l => (o ++ l, true)
  | none => ([], false)
theorem pairs_loop (ws : List (List UInt8)) (m : Nat) (hm : ws.length = 2 * m) (hb : ∀ b, b ∈ ws → b.length ≤ 281474976710656) (hl : ws.length ≤ 1000000) (n0 n1 : List UInt8) : ∀ (d j : Nat), j + d = m → ∀ out : List Int, out.length ≤ 2 * j →
    Ev (fun k => lot_pairs.l0 k (ws.map ba) [ba n0, ba n1] out ((2 * j : Nat) : Int)) (pairsR out (pairsL (if j % 2 = 0 then n0 else n1) (if j % 2 = 0 then n1 else n0) (ws.drop (2 * j)))) := by
  intro d
  induction d with
  | zero =>
    intro j hj out ho
    have e : ws.drop (2 * j) = [] := List.drop_eq_nil_of_le (by omega)
    rw [e]
    exact Ev.step (fun k => lot_pairs.l0.eq_2 ..) (evn (by rw [List.length_map]; omega) (evr (by simp [pairsR, pairsL])))
  | succ d ih =>
    intro j hj out ho
    have l0 : 2 * j < ws.length := by omega
    have l1 : 2 * j + 1 < ws.length := by omega
    have e : ws.drop (2 * j) = ws[2 * j] :: ws[2 * j + 1] :: ws.drop (2 * (j + 1)) := by
      rw [List.drop_eq_getElem_cons l0, List.drop_eq_getElem_cons l1, show 2 * j + 1 + 1 = 2 * (j + 1) from by omega]
    have w1 : wrap64 (((2 * j : Nat) : Int) + 1) = ((2 * j + 1 : Nat) : Int) := by rw [w64 (by omega) (by omega)]; omega
    have w2 : wrap64 (((2 * j : Nat) : Int) + 2) = ((2 * (j + 1) : Nat) : Int) := by rw [w64 (by omega) (by omega)]; omega
    have w3 : wrap64 (Int.tdiv ((2 * j : Nat) : Int) 2) = (j : Int) := by
      rw [Int.tdiv_eq_ediv_of_nonneg (by omega), w64 (by omega) (by omega)]; omega
    have w4 : Int.tmod (j : Int) ((([ba n0, ba n1] : List ByteArray).length : Int)) = ((j % 2 : Nat) : Int) := by
      rw [Int.tmod_eq_emod_of_nonneg (by omega)]; simp
    have w5 : rdOf ByteArray.empty [ba n0, ba n1] ((j % 2 : Nat) : Int) = ba (if j % 2 = 0 then n0 else n1) := by
      rcases Nat.mod_two_eq_zero_or_one j with h | h <;> rw [h] <;> rfl
    have swap : ((if (j + 1) % 2 = 0 then n0 else n1) = (if j % 2 = 0 then n1 else n0)) ∧ ((if (j + 1) % 2 = 0 then n1 else n0) = (if j % 2 = 0 then n0 else n1)) := by
      rcases Nat.mod_two_eq_zero_or_one j with h | h
      · rw [show (j + 1) % 2 = 1 from by omega, h]; simp
      · rw [show (j + 1) % 2 = 0 from by omega, h]; simp
    refine Ev.step (fun k => lot_pairs.l0.eq_2 ..) ?_
    rw [w1, w2, w3, w4, w5, word_at ws (2 * j) l0, word_at ws (2 * j + 1) l1, e, pairsL_cons]
    refine evp (by rw [List.length_map]; omega) (evp (by omega) (evp (by rw [List.length_map]; omega) ?_))
    refine atoi_ev ws[2 * j + 1] (hb _ (List.getElem_mem l1)) ([], false) _ (fun k n => if 0 ≤ ((2 * j : Nat) : Int) then (if (([ba n0, ba n1] : List ByteArray).length : Int) = 0 then none else (if 0 ≤ ((j % 2 : Nat) : Int) then (if ((j % 2 : Nat) : Int) < (([ba n0, ba n1] : List ByteArray).length : Int) then (if (ba ws[2 * j]).toList = (ba (if j % 2 = 0 then n0 else n1)).toList then (if out.length < 17592186044416 then (lot_pairs.l0 k (ws.map ba) [ba n0, ba n1] (out ++ [n]) ((2 * (j + 1) : Nat) : Int)) else none) else (some (([] : List Int), false))) else none) else none)) else none) ?_ ?_
    · intro v hv
      refine evp (by omega) (evn (by simp) (evp (by omega) (evp (by simp; omega) ?_)))
      by_cases c : ws[2 * j] = (if j % 2 = 0 then n0 else n1)
      · rw [if_pos c, hv]
        have q := ih (j + 1) (by omega) (out ++ [(v : Int)]) (by rw [List.length_append]; simp; omega)
        rw [swap.1, swap.2] at q
        refine evp (by rw [ba_toList, ba_toList]; exact c) (evp (by omega) ?_)
        cases hp : pairsL (if j % 2 = 0 then n1 else n0) (if j % 2 = 0 then n0 else n1) (ws.drop (2 * (j + 1))) with
        | none => rw [hp] at q; exact q
        | some t =>
          rw [hp] at q
          simp only [pairsR, List.append_assoc, List.singleton_append] at q ⊢
          exact q
      · rw [if_neg c]
        exact evn (by rw [ba_toList, ba_toList]; exact c) (evr rfl)
    · intro hv
      rw [hv]
      by_cases c : ws[2 * j] = (if j % 2 = 0 then n0 else n1)
      · rw [if_pos c]; rfl
      · rw [if_neg c]; rfl
theorem pairs_ev (ws : List (List UInt8)) (he : ws.length % 2 = 0) (hb : ∀ b, b ∈ ws → b.length ≤ 281474976710656) (hl : ws.length ≤ 1000000) (n0 n1 : List UInt8) :
    Ev (fun k => lot_pairs.f k (ws.map ba) [ba n0, ba n1]) (pairsR [] (pairsL n0 n1 ws)) := by
  have q := pairs_loop ws (ws.length / 2) (by omega) hb hl n0 n1 (ws.length / 2) 0 (by omega) [] (by simp)
  refine evp (by rw [List.length_map]; omega) ?_
  simpa using q
def sharesT : List Int → List S35
  | f :: a :: r => ⟨f, a⟩ :: sharesT r
  | _ => []
def sumW : Int → List S35 → Int
  | s, [] => s
  | s, x :: r => sumW (wrap64 (s + x.f1)) r
def readL (ws : List (List UInt8)) : Option S33 := if ws.length < 4 ∨ ws.length % 4 ≠ 0 then none else match pairsL wLot wMass (ws.take 4) with
  | none => none
  | some h => (match pairsL wFill wAlc (ws.drop 4) with
    | none => none
    | some t => some ⟨rd h 0, ⟨sumW 0 (sharesT t), rd h 1⟩, sharesT t⟩)
def readR : Option S33 → Int × Int × Int × List S35 × Bool
  | some x => (x.f0, x.f1.f0, x.f1.f1, x.f2, true)
  | none => (0, 0, 0, [], false)
def lineL (l : List UInt8) : Option S33 := readL (parts 32 l)
theorem read_loop (t : List Int) (m : Nat) (hm : t.length = 2 * m) (hl : t.length ≤ 1000000) (id mass : Int) : ∀ (d j : Nat), j + d = m → ∀ (alc : Int) (out : List S35), out.length ≤ j →
    Ev (fun k => lot_read.l0 k t ((2 * j : Nat) : Int) id alc mass out) (id, sumW alc (sharesT (t.drop (2 * j))), mass, out ++ sharesT (t.drop (2 * j)), true) := by
  intro d
  induction d with
  | zero =>
    intro j hj alc out ho
    have e : t.drop (2 * j) = [] := List.drop_eq_nil_of_le (by omega)
    rw [e]
    exact Ev.step (fun k => lot_read.l0.eq_2 ..) (evn (by omega) (evr (by simp [sharesT, sumW])))
  | succ d ih =>
    intro j hj alc out ho
    have l0 : 2 * j < t.length := by omega
    have l1 : 2 * j + 1 < t.length := by omega
    have e : t.drop (2 * j) = t[2 * j] :: t[2 * j + 1] :: t.drop (2 * (j + 1)) := by
      rw [List.drop_eq_getElem_cons l0, List.drop_eq_getElem_cons l1, show 2 * j + 1 + 1 = 2 * (j + 1) from by omega]
    have w1 : wrap64 (((2 * j : Nat) : Int) + 1) = ((2 * j + 1 : Nat) : Int) := by rw [w64 (by omega) (by omega)]; omega
    have w2 : wrap64 (((2 * j : Nat) : Int) + 2) = ((2 * (j + 1) : Nat) : Int) := by rw [w64 (by omega) (by omega)]; omega
    have r0 : ∀ i (h : i < t.length), rd t ((i : Nat) : Int) = t[i] := fun i h => by
      unfold rd; rw [List.getD_eq_getElem?_getD, Int.toNat_natCast, List.getElem?_eq_getElem h]; rfl
    refine Ev.step (fun k => lot_read.l0.eq_2 ..) ?_
    rw [w1, w2, r0 _ l0, r0 _ l1, e]
    have q := ih (j + 1) (by omega) (wrap64 (alc + t[2 * j + 1])) (out ++ [(⟨t[2 * j], t[2 * j + 1]⟩ : S35)]) (by rw [List.length_append]; simp; omega)
    rw [List.append_assoc] at q
    exact evp (by omega) (evp (by omega) (evp (by omega) (evp (by omega) (evp (by omega) q))))
theorem four (ws : List (List UInt8)) (h : 4 ≤ ws.length) : ∃ a b c d r, ws = a :: b :: c :: d :: r := by
  match ws, h with
  | a :: b :: c :: d :: r, _ => exact ⟨a, b, c, d, r, rfl⟩
theorem lot_read_ev (l : List UInt8) (hl : l.length ≤ 70000) : Ev (fun k => lot_read.f k (ba l)) (readR (lineL l)) := by
  have hs := split_ev (ba l) (by rw [ba_size]; omega)
  rw [ba_list] at hs
  have hcount : ∀ p, p ∈ parts 32 l → p.length ≤ 70000 := by
    intro p hp
    have : ∀ (s : List UInt8) (q : List UInt8), q ∈ parts 32 s → q.length ≤ s.length := by
      intro s
      induction s with
      | nil => intro q hq; simp [parts] at hq; simp [hq]
      | cons b r ih =>
        intro q hq
        rw [parts_cons] at hq
        by_cases c : b = 32
        · rw [if_pos c] at hq
          rcases List.mem_cons.1 hq with rfl | hq
          · simp
          · have := ih q hq; simp; omega
        · rw [if_neg c] at hq
          cases hpr : parts 32 r with
          | nil => exact absurd hpr (parts_ne 32 r)
          | cons u v =>
            rw [hpr] at hq ih
            simp only [List.mem_cons] at hq
            rcases hq with rfl | hq
            · have := ih u (by simp); simp; omega
            · have := ih q (by simp [hq]); simp; omega
    have := this l p hp
    omega
  have hlen : (parts 32 l).length ≤ 70001 := by
    have : ∀ s : List UInt8, (parts 32 s).length ≤ s.length + 1 := by
      intro s
      induction s with
      | nil => simp [parts]
      | cons b r ih =>
        rw [parts_cons]
        by_cases c : b = 32
        · rw [if_pos c]; simp; omega
        · rw [if_neg c]
          cases hpr : parts 32 r with
          | nil => exact absurd hpr (parts_ne 32 r)
          | cons u v => rw [hpr] at ih; simp at ih ⊢; omega
    have := this l
    omega
  refine evb (evc (fun _ => rfl) hs) ?_
  unfold lineL readL
  generalize parts 32 l = ws at hcount hlen
  by_cases c1 : ((ws.map ba).length : Int) < 4
  · rw [if_pos (.inl (by rw [List.length_map] at c1; omega))]
    exact evp c1 (Ev.step (fun k => lot_read.j0.eq_2 ..) (evp rfl (evr rfl)))
  refine evn c1 ?_
  rw [List.length_map] at c1 ⊢
  by_cases c2 : ws.length % 4 = 0
  · rw [if_neg (by omega)]
    have e2 : (((ws.length : Int) % 4) != 0) = false := by
      rw [bne_eq_false_iff_eq]; omega
    rw [e2]
    refine Ev.step (fun k => lot_read.j0.eq_2 ..) (evn (by simp) (evp (by rw [List.length_map]; omega) ?_))
    rw [← List.map_take, ← List.map_drop]
    have p1 := pairs_ev (ws.take 4) (by rw [List.length_take]; omega) (fun b hb => by have := hcount b (List.mem_of_mem_take hb); omega) (by rw [List.length_take]; omega) wLot wMass
    have p2 := pairs_ev (ws.drop 4) (by rw [List.length_drop]; omega) (fun b hb => by have := hcount b (List.mem_of_mem_drop hb); omega) (by rw [List.length_drop]; omega) wFill wAlc
    refine evb p1 (evb p2 ?_)
    cases h1 : pairsL wLot wMass (ws.take 4) with
    | none => exact evn (by simp [pairsR]) (Ev.step (fun k => lot_read.j1.eq_2 ..) (evp rfl (evr rfl)))
    | some h =>
      refine evp rfl ?_
      cases h2 : pairsL wFill wAlc (ws.drop 4) with
      | none => exact Ev.step (fun k => lot_read.j1.eq_2 ..) (evp rfl (evr rfl))
      | some t =>
        have g1 := pairsL_len _ _ _ _ _ (Nat.le_refl _) h1
        have g2 := pairsL_len _ _ _ _ _ (Nat.le_refl _) h2
        rw [List.length_take] at g1
        rw [List.length_drop] at g2
        have q := read_loop t (t.length / 2) (by omega) (by omega) (rd h 0) (rd h 1) (t.length / 2) 0 (by omega) 0 [] (by simp)
        refine Ev.step (fun k => lot_read.j1.eq_2 ..) (evn (by simp [pairsR]) ?_)
        simp only [pairsR, List.nil_append]
        refine evp (by omega) (evp (by omega) ?_)
        simpa [readR] using q
  · rw [if_pos (.inr c2)]
    have e2 : (((ws.length : Int) % 4) != 0) = true := by
      rw [bne_iff_ne]; omega
    rw [e2]
    exact Ev.step (fun k => lot_read.j0.eq_2 ..) (evp rfl (evr rfl))
end Go.Proofs.YtgjoenoknknoiaaDoor.PL
namespace Go.Proofs.YtgjoenoknknoiaaDoor.PL
open Go Go.RowKit Go.Proofs.YtgjoenoknknoiaaDoorW.PrintWords Go.Proofs.YtgjoenoknknoiaaDoorW.PrintLast Go.Proofs.YtgjoenoknknoiaaDoorW.PrintMore Go.Proofs.YtgjoenoknknoiaaDoor.Pr Go.Proofs.YtgjoenoknknoiaaDoor.Opn Go.Proofs.YtgjoenoknknoiaaDoor.TX Go.Proofs.YtgjoenoknknoiaaDoor.X
theorem drop35 {l : List S35} {i : Int} (h0 : 0 ≤ i) (h1 : i < (l.length : Int)) : l.drop i.toNat = rd_T35 l i :: l.drop (i + 1).toNat := by
  have hl : i.toNat < l.length := by omega
  have g : rd_T35 l i = l[i.toNat] := by
    unfold rd_T35
    simp [List.getD_eq_getElem?_getD, List.getElem?_eq_getElem hl]
  rw [g, show (i + 1).toNat = i.toNat + 1 from by omega, ← List.drop_eq_getElem_cons hl]
theorem alcohol_ev (l : List S35) (hl : (l.length : Int) ≤ 9223372036854775807) : Ev (fun k => spileref22_Alcohol.f k l) (sumW 0 l) := by
  have key : ∀ i, 0 ≤ i → i ≤ (l.length : Int) → ∀ s : Int, Ev (fun k => spileref22_Alcohol.l0 k l s i) (sumW s (l.drop i.toNat)) := by
    refine count_up 0 (l.length : Int) _ ?_ ?_
    · intro s
      rw [List.drop_eq_nil_of_le (by omega)]
      exact Ev.step (fun k => spileref22_Alcohol.l0.eq_2 ..) (evn (by omega) (Ev.now _))
    · intro i h0 h1 ih s
      have q := ih (wrap64 (s + (rd_T35 l i).f1))
      rw [drop35 h0 h1]
      rw [← w64_succ h0 h1 hl] at q
      refine Ev.step (fun k => spileref22_Alcohol.l0.eq_2 ..) (evp h1 (evp h0 ?_))
      rw [w64_succ h0 h1 hl] at q ⊢
      exact q
  have := key 0 (by omega) (by omega) 0
  rw [show (0 : Int).toNat = 0 from rfl, List.drop_zero] at this
  exact this
theorem pairsL_two (n0 n1 a b c d : List UInt8) (r : List (List UInt8)) : pairsL n0 n1 (a :: b :: c :: d :: r) = if a = n0 then (match numP 15 b with
    | none => none
    | some v => if c = n1 then (match numP 15 d with
      | none => none
      | some u => (match pairsL n0 n1 r with
        | none => none
        | some t => some ((v : Int) :: (u : Int) :: t))) else none) else none := by
  rw [pairsL_cons]
  by_cases c1 : a = n0
  · rw [if_pos c1, if_pos c1]
    cases numP 15 b with
    | none => rfl
    | some v =>
      simp only []
      rw [pairsL_cons]
      by_cases c2 : c = n1
      · rw [if_pos c2, if_pos c2]
        cases numP 15 d with
        | none => rfl
        | some u =>
          simp only []
          cases pairsL n0 n1 r with
          | none => rfl
          | some t => rfl
      · rw [if_neg c2, if_neg c2]
  · rw [if_neg c1, if_neg c1]
def tailR (id mass : Int) (ok : Bool) (out : List S35) (r : Int × Int × Int × List S35 × Bool) : Option (List Int) → Prop
  | some t => r = (id, sumW 0 (out ++ sharesT t), mass, out ++ sharesT t, ok)
  | none => r.2.2.2.2 = false
theorem ref_loop (ws : List (List UInt8)) (m : Nat) (hm : ws.length = 4 + 4 * m) (hl : ws.length ≤ 1000000) (a b : Bool) (id mass : Int) : ∀ (d j : Nat), j + d = m → ∀ out : List S35, out.length ≤ j →
    ∃ r, Ev (fun k => spileref22_read.l0 k (ws.map ba) a b ((4 + 4 * j : Nat) : Int) id 0 mass out) r ∧ tailR id mass (a && b) out r (pairsL wFill wAlc (ws.drop (4 + 4 * j))) := by
  intro d
  induction d with
  | zero =>
    intro j hj out ho
    have e : ws.drop (4 + 4 * j) = [] := List.drop_eq_nil_of_le (by omega)
    rw [e]
    refine ⟨(id, sumW 0 out, mass, out, a && b), Ev.step (fun k => spileref22_read.l0.eq_2 ..) (evn (by rw [List.length_map]; omega) (evb (alcohol_ev out (by omega)) ?_)), ?_⟩
    · cases a with
      | true => exact evp rfl (evr (by simp))
      | false => exact evn (by simp) (evr (by simp))
    · simp [tailR, pairsL, sharesT]
  | succ d ih =>
    intro j hj out ho
    have l0 : 4 + 4 * j < ws.length := by omega
    have l1 : 4 + 4 * j + 1 < ws.length := by omega
    have l2 : 4 + 4 * j + 1 + 1 < ws.length := by omega
    have l3 : 4 + 4 * j + 1 + 1 + 1 < ws.length := by omega
    have e : ws.drop (4 + 4 * j) = ws[4 + 4 * j] :: ws[4 + 4 * j + 1] :: ws[4 + 4 * j + 1 + 1] :: ws[4 + 4 * j + 1 + 1 + 1] :: ws.drop (4 + 4 * (j + 1)) := by
      rw [List.drop_eq_getElem_cons l0, List.drop_eq_getElem_cons l1, List.drop_eq_getElem_cons l2, List.drop_eq_getElem_cons l3, show 4 + 4 * j + 1 + 1 + 1 + 1 = 4 + 4 * (j + 1) from by omega]
    have w1 : wrap64 (((4 + 4 * j : Nat) : Int) + 1) = ((4 + 4 * j + 1 : Nat) : Int) := by rw [w64 (by omega) (by omega)]; omega
    have w2 : wrap64 (((4 + 4 * j : Nat) : Int) + 2) = ((4 + 4 * j + 1 + 1 : Nat) : Int) := by rw [w64 (by omega) (by omega)]; omega
    have w3 : wrap64 (((4 + 4 * j : Nat) : Int) + 3) = ((4 + 4 * j + 1 + 1 + 1 : Nat) : Int) := by rw [w64 (by omega) (by omega)]; omega
    have w4 : wrap64 (((4 + 4 * j : Nat) : Int) + 4) = ((4 + 4 * (j + 1) : Nat) : Int) := by rw [w64 (by omega) (by omega)]; omega
    have n1 := number_ev (ba ws[4 + 4 * j + 1]) 15 (by omega)
    have n3 := number_ev (ba ws[4 + 4 * j + 1 + 1 + 1]) 15 (by omega)
    rw [ba_list] at n1 n3
    rw [e, pairsL_two]
    have bad : Ev (fun _ : Nat => some ((0, 0, 0, ([] : List S35), false) : Int × Int × Int × List S35 × Bool)) (0, 0, 0, [], false) := Ev.now _
    have pre : ∀ r, Ev (fun k => if 0 ≤ ((4 + 4 * j : Nat) : Int) then (if (ba ws[4 + 4 * j]).toList = ([102, 105, 108, 108] : List UInt8) then (if 0 ≤ ((4 + 4 * j + 1 + 1 : Nat) : Int) then (if ((4 + 4 * j + 1 + 1 : Nat) : Int) < ((ws.map ba).length : Int) then (if (ba ws[4 + 4 * j + 1 + 1]).toList = ([97, 108, 99, 111, 104, 111, 108] : List UInt8) then (if (numR 15 ws[4 + 4 * j + 1]).2 = true then (if (numR 15 ws[4 + 4 * j + 1 + 1 + 1]).2 = true then (if out.length < 8796093022208 then (spileref22_read.l0 k (ws.map ba) a b ((4 + 4 * (j + 1) : Nat) : Int) id 0 mass (out ++ [(⟨(numR 15 ws[4 + 4 * j + 1]).1, (numR 15 ws[4 + 4 * j + 1 + 1 + 1]).1⟩ : S35)])) else none) else (some (0, 0, 0, ([] : List (S35)), false))) else (some (0, 0, 0, ([] : List (S35)), false))) else (some (0, 0, 0, ([] : List (S35)), false))) else none) else none) else (some (0, 0, 0, ([] : List (S35)), false))) else none) r → Ev (fun k => spileref22_read.l0 k (ws.map ba) a b ((4 + 4 * j : Nat) : Int) id 0 mass out) r := by
      intro r h
      refine Ev.step (fun k => spileref22_read.l0.eq_2 ..) ?_
      rw [w1, w2, w3, w4, word_at ws _ l0, word_at ws _ l1, word_at ws _ l2, word_at ws _ l3]
      exact evp (by rw [List.length_map]; omega) (evp (by omega) (evp (by rw [List.length_map]; omega) (evb n1 (evp (by omega) (evp (by rw [List.length_map]; omega) (evb n3 h))))))
    by_cases c0 : ws[4 + 4 * j] = wFill
    · rw [if_pos c0]
      by_cases c2 : ws[4 + 4 * j + 1 + 1] = wAlc
      · cases v1 : numP 15 ws[4 + 4 * j + 1] with
        | none => exact ⟨_, pre _ (evp (by omega) (evp (by rw [ba_toList]; exact c0) (evp (by omega) (evp (by rw [List.length_map]; omega) (evp (by rw [ba_toList]; exact c2) (evn (by simp [numR, v1]) bad)))))), rfl⟩
        | some x1 =>
          simp only []
          rw [if_pos c2]
          cases v3 : numP 15 ws[4 + 4 * j + 1 + 1 + 1] with
          | none => exact ⟨_, pre _ (evp (by omega) (evp (by rw [ba_toList]; exact c0) (evp (by omega) (evp (by rw [List.length_map]; omega) (evp (by rw [ba_toList]; exact c2) (evp (by simp [numR, v1]) (evn (by simp [numR, v3]) bad))))))), rfl⟩
          | some x3 =>
            obtain ⟨r, q1, q2⟩ := ih (j + 1) (by omega) (out ++ [(⟨(x1 : Int), (x3 : Int)⟩ : S35)]) (by rw [List.length_append]; simp; omega)
            refine ⟨r, pre _ (evp (by omega) (evp (by rw [ba_toList]; exact c0) (evp (by omega) (evp (by rw [List.length_map]; omega) (evp (by rw [ba_toList]; exact c2) (evp (by simp [numR, v1]) (evp (by simp [numR, v3]) (evp (by omega) ?_)))))))), ?_⟩
            · have z1 : (numR 15 ws[4 + 4 * j + 1]).1 = (x1 : Int) := by simp [numR, v1]
              have z3 : (numR 15 ws[4 + 4 * j + 1 + 1 + 1]).1 = (x3 : Int) := by simp [numR, v3]
              rw [z1, z3]
              exact q1
            · simp only []
              cases hp : pairsL wFill wAlc (ws.drop (4 + 4 * (j + 1))) with
              | none => rw [hp] at q2; exact q2
              | some t =>
                rw [hp] at q2
                simp only [tailR, List.append_assoc, List.singleton_append] at q2 ⊢
                exact q2
      · refine ⟨_, pre _ (evp (by omega) (evp (by rw [ba_toList]; exact c0) (evp (by omega) (evp (by rw [List.length_map]; omega) (evn (by rw [ba_toList]; exact c2) bad))))), ?_⟩
        cases numP 15 ws[4 + 4 * j + 1] with
        | none => rfl
        | some x1 => simp only []; rw [if_neg c2]; rfl
    · rw [if_neg c0]
      exact ⟨_, pre _ (evp (by omega) (evn (by rw [ba_toList]; exact c0) bad)), rfl⟩
def readOK (r : Int × Int × Int × List S35 × Bool) : Option S33 → Prop
  | some x => r = readR (some x)
  | none => r.2.2.2.2 = false
theorem parts_len (s : List UInt8) : (parts 32 s).length ≤ s.length + 1 := by
  induction s with
  | nil => simp [parts]
  | cons b r ih =>
    rw [parts_cons]
    by_cases c : b = 32
    · rw [if_pos c]; simp; omega
    · rw [if_neg c]
      cases hpr : parts 32 r with
      | nil => exact absurd hpr (parts_ne 32 r)
      | cons u v => rw [hpr] at ih; simp at ih ⊢; omega
theorem ref_read_ev (l : List UInt8) (hl : l.length ≤ 70000) : ∃ r, Ev (fun k => spileref22_read.f k (ba l)) r ∧ readOK r (lineL l) := by
  have hw := words_ev (ba l) (by rw [ba_size]; omega)
  rw [ba_list] at hw
  have hlen := parts_len l
  unfold lineL readL
  generalize parts 32 l = ws at hw hlen
  have no : Ev (fun k => spileref22_read.j0 k (ws.map ba) true) (0, 0, 0, [], false) := Ev.step (fun k => spileref22_read.j0.eq_2 ..) (evp rfl (Ev.now _))
  by_cases c1 : ws.length < 4
  · rw [if_pos (.inl c1)]
    exact ⟨_, evb hw (evp (by rw [List.length_map]; omega) no), rfl⟩
  by_cases c2 : ws.length % 4 = 0
  · rw [if_neg (by omega)]
    obtain ⟨a, b, c, d, r, rfl⟩ := four ws (by omega)
    have z0 := word_at (a :: b :: c :: d :: r) 0 (by simp)
    have z1 := word_at (a :: b :: c :: d :: r) 1 (by simp)
    have z2 := word_at (a :: b :: c :: d :: r) 2 (by simp)
    have z3 := word_at (a :: b :: c :: d :: r) 3 (by simp)
    have hh := pairsL_two wLot wMass a b c d []
    have t4 : (a :: b :: c :: d :: r).take 4 = [a, b, c, d] := rfl
    have d4 : (a :: b :: c :: d :: r).drop 4 = r := rfl
    rw [t4, d4, hh]
    have pre : ∀ x, Ev (fun k => if (ba a).toList = ([108, 111, 116] : List UInt8) then (if 2 < (((a :: b :: c :: d :: r).map ba).length : Int) then (spileref22_read.j0 k ((a :: b :: c :: d :: r).map ba) ((ba c).toList != ([109, 97, 115, 115] : List UInt8))) else none) else (spileref22_read.j0 k ((a :: b :: c :: d :: r).map ba) true)) x → Ev (fun k => spileref22_read.f k (ba l)) x := by
      intro x h
      refine evb hw (evn (by rw [List.length_map]; omega) (evp (by rw [List.length_map]; omega) (evp (by rw [List.length_map]; omega) ?_)))
      rw [show (0 : Int) = ((0 : Nat) : Int) from rfl, z0, show (2 : Int) = ((2 : Nat) : Int) from rfl, z2]
      exact h
    by_cases ca : a = wLot
    · by_cases cc : c = wMass
      · have e2 : ((ba c).toList != ([109, 97, 115, 115] : List UInt8)) = false := by rw [bne_eq_false_iff_eq, ba_toList]; exact cc
        have n1 := number_ev (ba b) 15 (by omega)
        have n3 := number_ev (ba d) 15 (by omega)
        rw [ba_list] at n1 n3
        obtain ⟨x, q1, q2⟩ := ref_loop (a :: b :: c :: d :: r) (r.length / 4) (by simp at c2 ⊢; omega) (by omega) (numR 15 b).2 (numR 15 d).2 (numR 15 b).1 (numR 15 d).1 (r.length / 4) 0 (by omega) [] (by simp)
        refine ⟨x, pre x (evp (by rw [ba_toList]; exact ca) (evp (by rw [List.length_map]; simp; omega) ?_)), ?_⟩
        · rw [e2]
          refine Ev.step (fun k => spileref22_read.j0.eq_2 ..) (evn (by simp) (evp (by rw [List.length_map]; simp; omega) ?_))
          rw [show (1 : Int) = ((1 : Nat) : Int) from rfl, z1, show (3 : Int) = ((3 : Nat) : Int) from rfl, z3]
          exact evb n1 (evp (by rw [List.length_map]; simp; omega) (evb n3 q1))
        · rw [if_pos ca]
          have hd : (a :: b :: c :: d :: r).drop (4 + 4 * 0) = r := rfl
          rw [hd] at q2
          cases v1 : numP 15 b with
          | none =>
            have : (numR 15 b).2 = false := by simp [numR, v1]
            rw [this, Bool.false_and] at q2
            cases hp : pairsL wFill wAlc r with
            | none => rw [hp] at q2; exact q2
            | some t => rw [hp] at q2; simp only [tailR] at q2; rw [q2]; rfl
          | some x1 =>
            simp only []
            rw [if_pos cc]
            cases v3 : numP 15 d with
            | none =>
              have : (numR 15 d).2 = false := by simp [numR, v3]
              rw [this, Bool.and_false] at q2
              cases hp : pairsL wFill wAlc r with
              | none => rw [hp] at q2; exact q2
              | some t => rw [hp] at q2; simp only [tailR] at q2; rw [q2]; rfl
            | some x3 =>
              have e1 : numR 15 b = ((x1 : Int), true) := by simp [numR, v1]
              have e3 : numR 15 d = ((x3 : Int), true) := by simp [numR, v3]
              rw [e1, e3] at q2
              cases hp : pairsL wFill wAlc r with
              | none => rw [hp] at q2; simp only [pairsL, readOK]; exact q2
              | some t =>
                rw [hp] at q2
                simp only [tailR, List.nil_append, Bool.and_self] at q2
                simp only [pairsL, readOK, readR]
                rw [q2]
                rfl
      · have e2 : ((ba c).toList != ([109, 97, 115, 115] : List UInt8)) = true := by rw [bne_iff_ne, ba_toList]; exact cc
        refine ⟨(0, 0, 0, [], false), pre _ (evp (by rw [ba_toList]; exact ca) (evp (by rw [List.length_map]; simp; omega) ?_)), ?_⟩
        · rw [e2]; exact no
        · rw [if_pos ca]
          cases numP 15 b with
          | none => rfl
          | some x1 => simp only []; rw [if_neg cc]; rfl
    · rw [if_neg ca]
      exact ⟨(0, 0, 0, [], false), pre _ (evn (by rw [ba_toList]; exact ca) no), rfl⟩
  · rw [if_pos (.inr c2)]
    exact ⟨_, evb hw (evn (by rw [List.length_map]; omega) (evn (by rw [List.length_map]; omega) no)), rfl⟩
def In64 (x : Int) : Prop := -9223372036854775808 ≤ x ∧ x ≤ 9223372036854775807
theorem sumW_in : ∀ (l : List S35) (s : Int), In64 s → In64 (sumW s l)
  | [], s, h => h
  | x :: r, s, h => sumW_in r _ (by unfold In64 wrap64; omega)
theorem sharesT_len : ∀ (n : Nat) (t : List Int), t.length ≤ n → (sharesT t).length ≤ t.length
  | _, [], _ => by simp [sharesT]
  | _, [_], _ => by simp [sharesT]
  | 0, _ :: _ :: _, h => by simp at h
  | n + 1, f :: a :: r, h => by
    have := sharesT_len n r (by simp at h; omega)
    simp [sharesT]; omega
theorem pairsL_small : ∀ (m : Nat) (n0 n1 : List UInt8) (ws : List (List UInt8)) (l : List Int), ws.length ≤ m → pairsL n0 n1 ws = some l → ∀ x, x ∈ l → 0 ≤ x ∧ x < 1000000000000000
  | _, n0, n1, [], l, _, h => by obtain rfl := Option.some.inj h; simp
  | _, n0, n1, [_], l, _, h => by cases h
  | 0, n0, n1, a :: b :: r, l, hm, h => by simp at hm
  | m + 1, n0, n1, a :: b :: r, l, hm, h => by
    rw [pairsL_cons] at h
    by_cases c : a = n0
    · rw [if_pos c] at h
      cases hv : numP 15 b with
      | none => rw [hv] at h; cases h
      | some v =>
        rw [hv] at h
        simp only [] at h
        cases hp : pairsL n1 n0 r with
        | none => rw [hp] at h; cases h
        | some t =>
          rw [hp] at h
          obtain rfl := Option.some.inj h
          intro x hx
          rcases List.mem_cons.1 hx with rfl | hx
          · have := numP_lt hv; omega
          · exact pairsL_small m n1 n0 r t (by simp at hm; omega) hp x hx
    · rw [if_neg c] at h; cases h
theorem rd_small {l : List Int} (h : ∀ x, x ∈ l → 0 ≤ x ∧ x < 1000000000000000) (i : Int) : 0 ≤ rd l i ∧ rd l i < 1000000000000000 := by
  unfold rd
  rw [List.getD_eq_getElem?_getD]
  cases e : l[i.toNat]? with
  | none => simp
  | some x => exact h x (List.mem_of_getElem? e)
theorem lineL_good {l : List UInt8} {x : S33} (hl : l.length ≤ 70000) (h : lineL l = some x) : Wf33 x := by
  unfold lineL readL at h
  have hlen := parts_len l
  generalize parts 32 l = ws at h hlen
  by_cases c : ws.length < 4 ∨ ws.length % 4 ≠ 0
  · rw [if_pos c] at h; cases h
  · rw [if_neg c] at h
    cases h1 : pairsL wLot wMass (ws.take 4) with
    | none => rw [h1] at h; cases h
    | some hd =>
      rw [h1] at h
      simp only [] at h
      cases h2 : pairsL wFill wAlc (ws.drop 4) with
      | none => rw [h2] at h; cases h
      | some t =>
        rw [h2] at h
        obtain rfl := Option.some.inj h
        have s1 := rd_small (pairsL_small _ _ _ _ _ (Nat.le_refl _) h1) 1
        have l2 := pairsL_len _ _ _ _ _ (Nat.le_refl _) h2
        have l3 := sharesT_len _ t (Nat.le_refl _)
        rw [List.length_drop] at l2
        refine ⟨sumW_in _ 0 (by unfold In64; omega), ⟨?_, ?_⟩, ?_⟩
        · show _ ≤ rd hd 1; omega
        · show rd hd 1 ≤ _; omega
        · show ((sharesT t).length : Int) ≤ _; omega
def run (e : Bool) : List (List UInt8) → List S33 → List S33 × Option Nat
  | [], out => (out, none)
  | l :: r, out => match lineL l with
    | none => ([], some out.length)
    | some x => if r = [] ∧ e = false then ([], some out.length) else run e r (out ++ [x])
theorem run_cons (e : Bool) (l : List UInt8) (r : List (List UInt8)) (out : List S33) : run e (l :: r) out = match lineL l with
    | none => ([], some out.length)
    | some x => if r = [] ∧ e = false then ([], some out.length) else run e r (out ++ [x]) := rfl
def fin (c : Int × Int) (o : List S33) : List S33 × Int × Int := if c.2 = 0 then (o, -1, 0) else ([], -1, c.2)
def runR (r : List S33 × Int × Int) : List S33 × Option Nat → Prop
  | (o, none) => (∃ c : Int × Int, r = fin c o ∧ (c.2 = 0 ↔ RightL o)) ∧ ∀ x, x ∈ o → Wf33 x
  | (_, some i) => r = ([], (i : Int), 3)
theorem lin_nil {s : List UInt8} {e : Bool} (h : lin [] s = ([], e)) : s = [] ∧ e = true := by
  rw [lin_cut] at h
  by_cases c : (cut1 10 s).2.2 = true
  · rw [if_pos c] at h; simp at h
  · rw [if_neg c] at h
    by_cases c2 : ([] : List UInt8) ++ s = []
    · rw [if_pos c2] at h
      exact ⟨by simpa using c2, (congrArg Prod.snd h).symm⟩
    · rw [if_neg c2] at h; simp at h
theorem lin_next {s l : List UInt8} {r : List (List UInt8)} {e : Bool} (h : lin [] s = (l :: r, e)) :
    (cut1 10 s).1 = l ∧ (((cut1 10 s).2.2 = true ∧ lin [] (cut1 10 s).2.1 = (r, e)) ∨ ((cut1 10 s).2.2 = false ∧ r = [] ∧ e = false)) ∧ s ≠ [] := by
  have hne : s ≠ [] := fun e2 => by rw [e2] at h; simp [lin] at h
  rw [lin_cut] at h
  by_cases c : (cut1 10 s).2.2 = true
  · rw [if_pos c] at h
    simp only [List.nil_append, Prod.mk.injEq, List.cons.injEq] at h
    exact ⟨h.1.1, .inl ⟨c, Prod.ext h.1.2 h.2⟩, hne⟩
  · rw [if_neg c, if_neg (by simpa using hne)] at h
    simp only [List.nil_append, Prod.mk.injEq, List.cons.injEq] at h
    have := cut1_no 10 s (Bool.eq_false_iff.2 c)
    exact ⟨by rw [this.1]; exact h.1.1, .inr ⟨Bool.eq_false_iff.2 c, h.1.2.symm, h.2.symm⟩, hne⟩
theorem parse_loop (e : Bool) : ∀ (ls : List (List UInt8)) (s : List UInt8) (all : List (List UInt8)) (out : List S33), lin [] s = (ls, e) → s.length ≤ 70000 → all.drop out.length = ls → out.length + ls.length = all.length → all.length ≤ 1000000 → (∀ x, x ∈ out → Wf33 x) →
    ∃ r, Ev (fun k => lot_Parse.l0 k (ba s) out) r ∧ Ev (fun k => spileref22_Parse.l0 k (all.map ba) e out (out.length : Int)) r ∧ runR r (run e ls out) := by
  intro ls
  induction ls with
  | nil =>
    intro s all out h1 h2 h3 h4 h5 h6
    obtain ⟨rfl, rfl⟩ := lin_nil h1
    have hw : ∀ i, 0 ≤ i → i < (out.length : Int) → Wf33 (rd_T33 out i) := fun i g0 g1 => h6 _ (rd33_mem g0 g1)
    obtain ⟨c, c1, c2, c3⟩ := check_iff out (by omega) hw
    refine ⟨fin c out, Ev.step (fun k => lot_Parse.l0.eq_2 ..) (evp (by rw [ba_toList]) (evb c1 ?_)), Ev.step (fun k => spileref22_Parse.l0.eq_2 ..) (evn (by rw [List.length_map]; simp at h4; omega) (evb c2 ?_)), ⟨c, rfl, c3⟩, h6⟩
    · by_cases q : c.2 = 0
      · exact evp q (evr (by unfold fin; rw [if_pos q]))
      · exact evn q (evr (by unfold fin; rw [if_neg q]))
    · by_cases q : c.2 = 0
      · exact evp q (evr (by unfold fin; rw [if_pos q]))
      · exact evn q (evr (by unfold fin; rw [if_neg q]))
  | cons l r ih =>
    intro s all out h1 h2 h3 h4 h5 h6
    obtain ⟨e1, e2, hne⟩ := lin_next h1
    have hc := cut_ev (ba s) (by rw [ba_size]; omega)
    rw [ba_list, e1] at hc
    have hll : l.length ≤ 70000 := by
      rcases e2 with ⟨c, _⟩ | ⟨c, _⟩
      · have := congrArg List.length (cut1_sum 10 s c)
        rw [List.length_append, e1] at this; omega
      · have := (cut1_no 10 s c).1
        rw [← e1, this]; exact h2
    have hread := lot_read_ev l hll
    obtain ⟨rr, q1, q2⟩ := ref_read_ev l hll
    have hlt : out.length < all.length := by simp at h4; omega
    have hat : all[out.length] = l := by
      rw [List.drop_eq_getElem_cons hlt] at h3
      exact (List.cons.inj h3).1
    have hat2 := word_at all out.length hlt
    rw [hat] at hat2
    have lotside : ∀ x, Ev (fun k => if (cut1 10 s).2.2 = true then (if (readR (lineL l)).2.2.2.2 = true then (if out.length < 2932031007402 then (lot_Parse.l0 k (ba (cut1 10 s).2.1) (out ++ [(⟨(readR (lineL l)).1, (⟨(readR (lineL l)).2.1, (readR (lineL l)).2.2.1⟩ : S26), (readR (lineL l)).2.2.2.1⟩ : S33)])) else none) else (some (([] : List S33), (out.length : Int), 3))) else (some (([] : List S33), (out.length : Int), 3))) x → Ev (fun k => lot_Parse.l0 k (ba s) out) x := by
      intro x h
      exact Ev.step (fun k => lot_Parse.l0.eq_2 ..) (evn (by rw [ba_toList]; exact hne) (evb (evc (fun _ => rfl) hc) (evb hread h)))
    have refside : ∀ x, Ev (fun k => if rr.2.2.2.2 = true then (if (out.length : Int) = (wrap64 (((all.map ba).length : Int) - 1)) then (if e = true then (if out.length < 2932031007402 then (spileref22_Parse.l0 k (all.map ba) e (out ++ [(⟨rr.1, (⟨rr.2.1, rr.2.2.1⟩ : S26), rr.2.2.2.1⟩ : S33)]) (wrap64 ((out.length : Int) + 1))) else none) else (some (([] : List S33), (out.length : Int), 3))) else (if out.length < 2932031007402 then (spileref22_Parse.l0 k (all.map ba) e (out ++ [(⟨rr.1, (⟨rr.2.1, rr.2.2.1⟩ : S26), rr.2.2.2.1⟩ : S33)]) (wrap64 ((out.length : Int) + 1))) else none)) else (some (([] : List S33), (out.length : Int), 3))) x → Ev (fun k => spileref22_Parse.l0 k (all.map ba) e out (out.length : Int)) x := by
      intro x h
      refine Ev.step (fun k => spileref22_Parse.l0.eq_2 ..) ?_
      rw [hat2]
      exact evp (by rw [List.length_map]; omega) (evp (by omega) (evb q1 h))
    rw [run_cons]
    cases hx : lineL l with
    | none =>
      rw [hx] at q2 lotside
      refine ⟨([], (out.length : Int), 3), lotside _ ?_, refside _ (evn (by rw [q2]; simp) (Ev.now _)), rfl⟩
      by_cases c : (cut1 10 s).2.2 = true
      · exact evp c (evn (by simp [readR]) (Ev.now _))
      · exact evn c (Ev.now _)
    | some x =>
      rw [hx] at q2 lotside
      simp only [readOK] at q2
      subst q2
      simp only []
      have hw1 : wrap64 (((all.map ba).length : Int) - 1) = (all.length : Int) - 1 := by rw [List.length_map, w64 (by omega) (by omega)]
      have hw2 : wrap64 ((out.length : Int) + 1) = ((out ++ [x]).length : Int) := by rw [w64 (by omega) (by omega), List.length_append]; simp
      rw [hw1, hw2] at refside
      rcases e2 with ⟨c, hrest⟩ | ⟨c, rfl, rfl⟩
      · have hno : ¬ (r = [] ∧ e = false) := fun h => by
          have := (lin_nil (s := (cut1 10 s).2.1) (e := e) (by rw [hrest, h.1])).2
          rw [h.2] at this; cases this
        rw [if_neg hno]
        have hl2 := cut1_len 10 s c
        obtain ⟨y, y1, y2, y3⟩ := ih (cut1 10 s).2.1 all (out ++ [x]) hrest (by omega) (by
          rw [List.length_append, show out.length + [x].length = out.length + 1 from rfl, ← List.drop_drop, h3]; rfl) (by rw [List.length_append]; simp at h4 ⊢; omega) h5 (fun z hz => by
            rcases List.mem_append.1 hz with hz | hz
            · exact h6 z hz
            · simp at hz; rw [hz]; exact lineL_good hll hx)
        refine ⟨y, lotside _ (evp c (evp rfl (evp (by omega) y1))), refside _ (evp rfl ?_), y3⟩
        by_cases c3 : (out.length : Int) = (all.length : Int) - 1
        · have hre : r = [] := by
            simp at h4
            exact List.eq_nil_of_length_eq_zero (by omega)
          have hee : e = true := by
            cases e with
            | true => rfl
            | false => exact absurd ⟨hre, rfl⟩ hno
          exact evp c3 (evp hee (evp (by omega) y2))
        · exact evn c3 (evp (by omega) y2)
      · rw [if_pos ⟨rfl, rfl⟩]
        exact ⟨([], (out.length : Int), 3), lotside _ (evn (by rw [c]; simp) (Ev.now _)), refside _ (evp rfl (evp (by simp at h4; omega) (evn (by simp) (Ev.now _)))), rfl⟩
theorem parse_both (s : ByteArray) (hs : s.size ≤ 65536) : ∃ r, Ev (fun k => lot_Parse.f k s) r ∧ Ev (fun k => spileref22_Parse.f k s) r ∧ runR r (run (lin [] s.data.toList).2 (lin [] s.data.toList).1 []) := by
  have hl := lines_ev s (by omega)
  have hn : ∀ t : List UInt8, ∀ p, (lin p t).1.length ≤ t.length + 1 := by
    intro t
    induction t with
    | nil => intro p; unfold lin; split <;> simp
    | cons b r ih =>
      intro p
      rw [lin_cons]
      by_cases c : b = 10
      · rw [if_pos c]; have := ih []; simp; omega
      · rw [if_neg c]; have := ih (p ++ [b]); simp; omega
  have hlen := hn s.data.toList []
  rw [size_data] at hlen
  obtain ⟨r, r1, r2, r3⟩ := parse_loop (lin [] s.data.toList).2 (lin [] s.data.toList).1 s.data.toList (lin [] s.data.toList).1 [] rfl (by rw [size_data]; omega) rfl (by simp) (by omega) (by simp)
  rw [ba_data] at r1
  exact ⟨r, evn (by omega) r1, evn (by omega) (evb hl r2), r3⟩
end Go.Proofs.YtgjoenoknknoiaaDoor.PL
