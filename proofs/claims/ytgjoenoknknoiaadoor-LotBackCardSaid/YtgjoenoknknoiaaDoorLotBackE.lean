/-
A part of what these laws rest on: contracts of the functions that they reach, and plain lemmas.
-/
import Derived.Test.YtgjoenoknknoiaaDoorLotBackD
set_option linter.unusedVariables false
set_option linter.unusedSimpArgs false
namespace Go.Proofs.YtgjoenoknknoiaaDoor.Pr
open Go.RowKit Go.Proofs.YtgjoenoknknoiaaDoorW.PrintWords Go.Proofs.YtgjoenoknknoiaaDoorW.PrintLast Go.Proofs.YtgjoenoknknoiaaDoorW.PrintMore Go.Proofs.YtgjoenoknknoiaaDoor.X
attribute [local go_sem] max2_int min2_int max_two min_two max_three min_three max_four min_four   -- for this text's walks alone
set_option linter.unusedVariables false
set_option linter.unusedSimpArgs false
mutual
def lot_read.j0 : Nat → List ByteArray → Bool → Option (Int × Int × Int × (List (S35)) × Bool)
 | 0, _, _ => none
 | k + 1, x4, x21 => if x21 = true then (some (0, 0, 0, ([] : List (S35)), false)) else (if 4 ≤ (x4.length : Int) then ((lot_pairs.f k (x4.take 4) (([(⟨#[108, 111, 116]⟩ : ByteArray), (⟨#[109, 97, 115, 115]⟩ : ByteArray)] : List ByteArray))).bind fun bt504 => ((lot_pairs.f k (x4.drop 4) (([(⟨#[102, 105, 108, 108]⟩ : ByteArray), (⟨#[97, 108, 99, 111, 104, 111, 108]⟩ : ByteArray)] : List ByteArray))).bind fun bt515 => (if bt504.2 = true then (lot_read.j1 k bt504.1 bt515.1 (!bt515.2)) else (lot_read.j1 k bt504.1 bt515.1 true)))) else (none))
def lot_read.j1 : Nat → List Int → List Int → Bool → Option (Int × Int × Int × (List (S35)) × Bool)
 | 0, _, _, _ => none
 | k + 1, x5, x7, x42 => if x42 = true then (some (0, 0, 0, ([] : List (S35)), false)) else (if 0 < (x5.length : Int) then (if 1 < (x5.length : Int) then (lot_read.l0 k x7 0 (rd x5 0) 0 (rd x5 1) ([] : List (S35))) else (none)) else (none))
def lot_read.l0 : Nat → List Int → Int → Int → Int → Int → List (S35) → Option (Int × Int × Int × (List (S35)) × Bool)
 | 0, _, _, _, _, _, _ => none
 | k + 1, x7, x10, x522000, x522001, x522002, x522003 => if x10 < (x7.length : Int) then (if 0 ≤ x10 then (if 0 ≤ (wrap64 (x10 + 1)) then (if (wrap64 (x10 + 1)) < (x7.length : Int) then (if x522003.length < 8796093022208 then (lot_read.l0 k x7 (wrap64 (x10 + 2)) x522000 (wrap64 (x522001 + (rd x7 (wrap64 (x10 + 1))))) x522002 (x522003 ++ [(⟨rd x7 x10, rd x7 (wrap64 (x10 + 1))⟩ : S35)])) else (none)) else (none)) else (none)) else (none)) else (some (x522000, x522001, x522002, x522003, true))
end
def lot_read.f (k : Nat) (a0 : ByteArray) : Option (Int × Int × Int × (List (S35)) × Bool) := (strings_Split.f a0 (⟨#[32]⟩ : ByteArray)).bind fun t494 => (if (t494.length : Int) < 4 then (lot_read.j0 k t494 true) else (lot_read.j0 k t494 (((t494.length : Int) % 4) != 0)))
def lot_read.T8 : Bool × List (List Nat × List Nat) := (true, [([], []), ([0], [0]), ([1], [1]), ([], []), ([3], [3]), ([4], [4]), ([5], [5]), ([2, 6], [2, 6]), ([], []), ([8, 7, 0, 1, 2, 3, 4, 5, 6, 7, 8], [7, 8])])
def lot_read.B8 : List Nat := [0, 1, 3, 0, 8, 24, 56, 127, 0, 511]
theorem lot_read.tab8 : rtab .any (opsOf Tryd.f54 8) = lot_read.T8 := by kernel_rfl
theorem lot_read.bits8 : waitsOk lot_read.T8.2 lot_read.B8 = true := by kernel_rfl
def lot_read.T12 : Bool × List (List Nat × List Nat) := (true, [([], []), ([0], [0]), ([], []), ([], []), ([2, 3], [2, 3]), ([4], [4]), ([], []), ([], []), ([7], [7]), ([6, 8], [6, 8]), ([9], [9]), ([5, 10], [5, 10]), ([11], [11]), ([1, 12], [1, 12]), ([0, 1, 2, 3, 4, 5, 6, 7, 8, 9, 10, 11, 12, 13], []), ([14, 13, 13, 0, 1, 2, 3, 4, 5, 6, 7, 8, 9, 10, 11, 12, 13], [13, 14])])
def lot_read.B12 : List Nat := [0, 1, 0, 0, 12, 28, 0, 0, 128, 448, 960, 2044, 4092, 8191, 16383, 32767]
theorem lot_read.tab12 : rtab .any (opsOf Tryd.f54 12) = lot_read.T12 := by kernel_rfl
theorem lot_read.bits12 : waitsOk lot_read.T12.2 lot_read.B12 = true := by kernel_rfl
def lot_read.T13 : Bool × List (List Nat × List Nat) := (true, [([], []), ([0], [0]), ([1], [1]), ([], []), ([], []), ([4], [4]), ([3, 5], [3, 5]), ([6], [6]), ([2, 7], [2, 7]), ([0, 1, 2, 3, 4, 5, 6, 7, 8], []), ([9, 0, 1, 2, 3, 4, 5, 6, 7, 8], [9]), ([10, 8, 0, 1, 2, 3, 4, 5, 6, 7, 8], [8, 10])])
def lot_read.B13 : List Nat := [0, 1, 3, 0, 0, 16, 56, 120, 255, 511, 1023, 2047]
theorem lot_read.tab13 : rtab .any (opsOf Tryd.f54 13) = lot_read.T13 := by kernel_rfl
theorem lot_read.bits13 : waitsOk lot_read.T13.2 lot_read.B13 = true := by kernel_rfl
set_option maxHeartbeats 8000000 in
set_option maxRecDepth 100000 in
theorem lot_read.calls (k : Nat) (a0 : ByteArray) (r1 : Int) (r2 : Int) (r3 : Int) (r4 : List (S35)) (r5 : Bool) (w : World) (hG : GI w) (h : lot_read.f k a0 = some (r1, r2, r3, r4, r5)) :
  Calls Tryd.prog 54 #[.string a0] w fun e w' => ∃ v3_ : Value, e = .returned (.tuple #[.agg #[.int .i64 r1, .int .i64 r2, .int .i64 r3, v3_], .bool r5]) ∧ Kd.R k35 35 w' w.heap.size (fun _ => True) v3_ r4 ∧ Below w.heap.size w w' := by
 have hu33 := Tryd.underlying33
 have hu26 := Tryd.underlying26
 have hu35 := Tryd.underlying35
 have HG := Aside0.mk hG
 clear hG
 have HB := Aside0.mk (Below.refl w.heap.size w)
 have H : ((strings_Split.f a0 (⟨#[32]⟩ : ByteArray)).bind fun t494 => (if (t494.length : Int) < 4 then (lot_read.j0 k t494 true) else (lot_read.j0 k t494 (((t494.length : Int) % 4) != 0)))) = some (r1, r2, r3, r4, r5) := h
 clear h
 replace H := Option.bind_eq_some_iff.mp H
 obtain ⟨t494, A20, H⟩ := H
 replace H : (if (t494.length : Int) < 4 then (lot_read.j0 k t494 true) else (lot_read.j0 k t494 (((t494.length : Int) % 4) != 0))) = some (r1, r2, r3, r4, r5) := H
 have A2 := Aside0.mk A20
 clear A20
 have HC3 := Aside0.mk H
 clear H
 go_enter Tryd.func54, Tryd.ntmps54
 go_upto_region 2 with (first | ((with_reducible refine gate_dst (N := 2) rfl ?_); (try (refine gate_guard (by rfl) ?_; dsimp only)); refine box_event ?hg (N := 2) ?hd (cs := #[.int .i64 0, .int .i64 0, .int .i64 0, .slice none 0 0]) (t := 33) ?hr ?_; (case hd => rfl); (case hg => rfl); (case hr => first | (go_simp; done) | (go_simp; rfl)); intro gb493 hg w4 hbox hb; have n0_ := Aside0.mk (below_step (by repeat (first | (with_reducible first | exact HB.out | apply below_alloc | apply pw_below_drewN | apply below_drew1) | exact HB.out)) hb); have n1_ := Aside0.mk (hbox); have n2_ := Aside0.mk ((by rw [hg]; exact (below_size (by repeat (first | (with_reducible first | exact HB.out | apply below_alloc | apply pw_below_drewN | apply below_drew1) | exact HB.out))) : w.heap.size ≤ gb493)); have n3_ := Aside0.mk ((by rw [hg]; exact (below_size (by repeat (first | (with_reducible first | exact HB.out | apply below_alloc | apply pw_below_drewN | apply below_drew1) | exact HB.out))) : w.heap.size ≤ gb493)); clear HB; have HB := n0_; have BK493 := n1_; have GW493 := n2_; have GE493 := n3_; clear n0_ n1_ n2_ n3_; clear hb hbox hg) | ((with_reducible refine gate_callee (f := 65) rfl ?_); refine goesL_ (some 12) rfl rfl Tryd.func65 (by kernel_rfl) rfl #[.string a0, .string (⟨#[32]⟩ : ByteArray)] rfl (by (try simp only [List.map_toArray, List.map_cons, List.map_nil]); first | done | rfl | (simp only [List.length_drop, List.length_take]; rfl)) ?_; (with_reducible refine (strings_Split.calls a0 (⟨#[32]⟩ : ByteArray) t494 _ ?side1 A2.out).mono ?_); (case side1 => exact GI.below HG.out (by repeat (first | (with_reducible first | exact HB.out | apply below_alloc | apply pw_below_drewN | apply below_drew1 | refine below_set ?_ GE493.out) | exact HB.out))); rintro e w5 ⟨v495, rfl, ho0, hb⟩; refine ⟨_, rfl, ?_⟩; have n0_ := Aside0.mk (Kd.R_lower ho0 (below_size (by repeat (first | (with_reducible first | exact HB.out | apply below_alloc | apply pw_below_drewN | apply below_drew1 | refine below_set ?_ GE493.out) | exact HB.out)))); have n1_ := Aside0.mk (blk_below (g := gb493) (o := .cells #[.int .i64 0, .int .i64 0, .int .i64 0, .slice none 0 0] 33 (0, 0)) (by (with_reducible repeat (first | refine blk_drewN ?_ _ | refine blk_drew ?_ | refine blk_alloc ?_ _)); exact BK493.out) hb); have n2_ := Aside0.mk (below_step (by repeat (first | (with_reducible first | exact HB.out | apply below_alloc | apply pw_below_drewN | apply below_drew1 | refine below_set ?_ GE493.out) | exact HB.out)) hb); clear BK493; clear HB; have HO496 := n0_; have BK493 := n1_; have HB := n2_; clear n0_ n1_ n2_; (try clear hb); (try clear hb2); (try clear hk); (try clear hi); (try clear ho0)))
 (try simp only [Act.put, List.setIfInBounds_toArray, List.set_cons_zero, List.set_cons_succ])
 go_cut [21] (fun v21 wc => ∃ (kq : Nat) (x21_2 : Bool), v21 = .bool x21_2 ∧ Aside0 (lot_read.j0 kq t494 x21_2 = some (r1, r2, r3, r4, r5)) ∧ Aside0 (kq ≤ k) ∧ Aside0 (Kd.R Kd.string 9 wc w.heap.size (fun _ => True) v495 t494) ∧ Aside0 (wc.heap[gb493]? = some (.cells #[.int .i64 0, .int .i64 0, .int .i64 0, (.slice none 0 0)] 33 (0, 0))) ∧ Aside0 (Below w.heap.size w wc))
 case first =>
  have H := HC3.out
  clear HC3
  by_cases c6 : (t494.length : Int) < 4
  ·
   rw [if_pos c6] at H
   have c6b0 : decide ((t494.length : Int) < 4) = true := decide_eq_true c6
   have c6b1 : decide (t494.length < 4) = true := decide_eq_true (by omega)
   clear c6
   (first | rw [c6b0] | (simp only [i64_w, i32_w]; rw [c6b0]) | skip)
   have H' := Aside0.mk H
   clear H
   obtain ⟨Ao7, co7, eo7⟩ := Kd.R_slice HO496.out
   subst eo7
   go_wp2
   go_meet
   case rel => exact ⟨_, (true), (by first | rfl | (simp; done) | (simp [*]; done)), H', ⟨by first | omega | exact Nat.le_refl _⟩, ⟨by (with_reducible repeat (first | apply Kd.R_alloc | apply Kd.R_drewN | apply Kd.R_drew)); exact HO496.out⟩, ⟨by (with_reducible repeat (first | refine blk_drewN ?_ _ | refine blk_drew ?_ | refine blk_alloc ?_ _)); exact BK493.out⟩, ⟨by repeat (first | (with_reducible first | exact HB.out | apply below_alloc | apply pw_below_drewN | apply below_drew1 | refine below_set ?_ GE493.out) | exact HB.out)⟩⟩
  ·
   rw [if_neg c6] at H
   have c6b0 : decide ((t494.length : Int) < 4) = false := decide_eq_false c6
   have c6b1 : decide (t494.length < 4) = false := decide_eq_false (by omega)
   clear c6
   (first | rw [c6b0] | (simp only [i64_w, i32_w]; rw [c6b0]) | skip)
   have H' := Aside0.mk H
   clear H
   obtain ⟨Ao8, co8, eo8⟩ := Kd.R_slice HO496.out
   subst eo8
   go_wp2
   go_meet
   case rel => exact ⟨_, ((((t494.length : Int) % 4) != 0)), (by first | rfl | (simp; done) | (simp [*]; done)), H', ⟨by first | omega | exact Nat.le_refl _⟩, ⟨by (with_reducible repeat (first | apply Kd.R_alloc | apply Kd.R_drewN | apply Kd.R_drew)); exact HO496.out⟩, ⟨by (with_reducible repeat (first | refine blk_drewN ?_ _ | refine blk_drew ?_ | refine blk_alloc ?_ _)); exact BK493.out⟩, ⟨by repeat (first | (with_reducible first | exact HB.out | apply below_alloc | apply pw_below_drewN | apply below_drew1 | refine below_set ?_ GE493.out) | exact HB.out)⟩⟩
 case rest =>
  clear HC3
  try clear p2
  try clear c5
  try clear c6
  try clear c6b0
  try clear c6b1
  obtain ⟨kq, x21_2, rfl, HA, HJ2, HO_4, BK493, HB⟩ := hcut
  cases kq with
  | zero => exact absurd HA.out (by simp [lot_read.j0])
  | succ kj2 =>
   have H := HA.out
   clear HA
   simp only [lot_read.j0] at H
   by_cases c9 : x21_2 = true
   ·
    subst c9
    have H1 : (some (0, 0, 0, ([] : List (S35)), false)) = some (r1, r2, r3, r4, r5) := by rw [if_pos rfl] at H; exact H
    clear H
    have H := H1
    clear H1
    simp only [Option.some.injEq, Prod.mk.injEq] at H
    obtain ⟨rfl, rfl, rfl, rfl, rfl⟩ := H
    have hcz10_0 : wc.cell? ⟨gb493, 0, none⟩ = some (.int .i64 0) := (blk_cell BK493.out 0).trans rfl
    have hcz10_1 : wc.cell? ⟨gb493, 1, none⟩ = some (.int .i64 0) := (blk_cell BK493.out 1).trans rfl
    have hcz10_2 : wc.cell? ⟨gb493, 2, none⟩ = some (.int .i64 0) := (blk_cell BK493.out 2).trans rfl
    have hcz10_3 : wc.cell? ⟨gb493, 3, none⟩ = some (.slice none 0 0) := (blk_cell BK493.out 3).trans rfl
    have hfz10_0 := blk_frozen BK493.out 0
    have hfz10_1 := blk_frozen BK493.out 1
    have hfz10_2 := blk_frozen BK493.out 2
    have hfz10_3 := blk_frozen BK493.out 3
    go_wp2
    refine bodyPost_ret (results_ct rfl _ _ gb493 33 #[.int .i64 0, .int .i64 0, .int .i64 0, .slice none 0 0] (0, 0) _ rfl (by (with_reducible repeat (first | refine blk_drewN ?_ _ | refine blk_drew ?_ | refine blk_alloc ?_ _)); refine blk_put (cs := #[.int .i64 0, .int .i64 0, .int .i64 0, .slice none 0 0]) ?_ 3 _ rfl; (with_reducible repeat (first | refine blk_drewN ?_ _ | refine blk_drew ?_ | refine blk_alloc ?_ _)); refine blk_put (cs := #[.int .i64 0, .int .i64 0, .int .i64 0, .slice none 0 0]) ?_ 2 _ rfl; (with_reducible repeat (first | refine blk_drewN ?_ _ | refine blk_drew ?_ | refine blk_alloc ?_ _)); refine blk_put (cs := #[.int .i64 0, .int .i64 0, .int .i64 0, .slice none 0 0]) ?_ 1 _ rfl; (with_reducible repeat (first | refine blk_drewN ?_ _ | refine blk_drew ?_ | refine blk_alloc ?_ _)); refine blk_put (cs := #[.int .i64 0, .int .i64 0, .int .i64 0, .slice none 0 0]) ?_ 0 _ rfl; (with_reducible repeat (first | refine blk_drewN ?_ _ | refine blk_drew ?_ | refine blk_alloc ?_ _)); exact BK493.out) Tryd.underlying33 rfl (by kernel_rfl)) rfl ?_
    exact ⟨_, by first | rfl | (simp [errW_none, errW_some] <;> rfl) | (simp [*, errW_none, errW_some] <;> rfl), by first | exact Kd.R_nil _ _ _ _ _ | exact Kd.N_nil _ _ _ _ _ | exact Kd.V_nil _ _ _ _ _ | exact Kd.Q_nil _ _ _ _ _ | exact Kd.S_nil _ _ _ _ _, by repeat (first | (with_reducible first | exact HB.out | apply below_alloc | apply pw_below_drewN | apply below_drew1 | refine below_set ?_ GE493.out) | exact HB.out)⟩
   ·
    replace c9 := Bool.eq_false_iff.mpr c9
    subst c9
    have H1 : (if 4 ≤ (t494.length : Int) then ((lot_pairs.f kj2 (t494.take 4) (([(⟨#[108, 111, 116]⟩ : ByteArray), (⟨#[109, 97, 115, 115]⟩ : ByteArray)] : List ByteArray))).bind fun bt504 => ((lot_pairs.f kj2 (t494.drop 4) (([(⟨#[102, 105, 108, 108]⟩ : ByteArray), (⟨#[97, 108, 99, 111, 104, 111, 108]⟩ : ByteArray)] : List ByteArray))).bind fun bt515 => (if bt504.2 = true then (lot_read.j1 kj2 bt504.1 bt515.1 (!bt515.2)) else (lot_read.j1 kj2 bt504.1 bt515.1 true)))) else (none)) = some (r1, r2, r3, r4, r5) := by rw [if_neg (show ¬ (false = true) by decide)] at H; exact H
    clear H
    have H := H1
    clear H1
    by_cases c11 : 4 ≤ (t494.length : Int)
    ·
     rw [if_pos c11] at H
     have c11b0 := eq_true c11
     have c11b1 : decide (4 ≤ (t494.length : Int)) = true := decide_eq_true c11
     clear c11
     obtain ⟨y497, hy497⟩ : ∃ y_ : List ByteArray, y_ = (t494.take 4) := ⟨_, rfl⟩
     replace H : ((lot_pairs.f kj2 y497 (([(⟨#[108, 111, 116]⟩ : ByteArray), (⟨#[109, 97, 115, 115]⟩ : ByteArray)] : List ByteArray))).bind fun bt504 => ((lot_pairs.f kj2 (t494.drop 4) (([(⟨#[102, 105, 108, 108]⟩ : ByteArray), (⟨#[97, 108, 99, 111, 104, 111, 108]⟩ : ByteArray)] : List ByteArray))).bind fun bt515 => (if bt504.2 = true then (lot_read.j1 kj2 bt504.1 bt515.1 (!bt515.2)) else (lot_read.j1 kj2 bt504.1 bt515.1 true)))) = some (r1, r2, r3, r4, r5) := by first | (rw [hy497]; with_reducible exact H) | (have H2_ := (Option.bind_some _ _).symm.trans H; rw [hy497]; with_reducible exact H2_) | (have H2_ := (Option.bind_some _ _).symm.trans H; with_reducible exact H2_) | with_reducible exact H | (rw [hy497]; exact H) | exact H
     have Ny497 := Aside0.mk hy497
     clear hy497
     obtain ⟨y501, hy501⟩ : ∃ y_ : List ByteArray, y_ = (([(⟨#[108, 111, 116]⟩ : ByteArray), (⟨#[109, 97, 115, 115]⟩ : ByteArray)] : List ByteArray)) := ⟨_, rfl⟩
     replace H : ((lot_pairs.f kj2 y497 y501).bind fun bt504 => ((lot_pairs.f kj2 (t494.drop 4) (([(⟨#[102, 105, 108, 108]⟩ : ByteArray), (⟨#[97, 108, 99, 111, 104, 111, 108]⟩ : ByteArray)] : List ByteArray))).bind fun bt515 => (if bt504.2 = true then (lot_read.j1 kj2 bt504.1 bt515.1 (!bt515.2)) else (lot_read.j1 kj2 bt504.1 bt515.1 true)))) = some (r1, r2, r3, r4, r5) := by first | (rw [hy501]; with_reducible exact H) | (have H2_ := (Option.bind_some _ _).symm.trans H; rw [hy501]; with_reducible exact H2_) | (have H2_ := (Option.bind_some _ _).symm.trans H; with_reducible exact H2_) | with_reducible exact H | (rw [hy501]; exact H) | exact H
     have Ny501 := Aside0.mk hy501
     clear hy501
     replace H := Option.bind_eq_some_iff.mp H
     obtain ⟨⟨t504, t505⟩, A120, H⟩ := H
     replace H : ((lot_pairs.f kj2 (t494.drop 4) (([(⟨#[102, 105, 108, 108]⟩ : ByteArray), (⟨#[97, 108, 99, 111, 104, 111, 108]⟩ : ByteArray)] : List ByteArray))).bind fun bt515 => (if t505 = true then (lot_read.j1 kj2 t504 bt515.1 (!bt515.2)) else (lot_read.j1 kj2 t504 bt515.1 true))) = some (r1, r2, r3, r4, r5) := H
     have A12 := Aside0.mk A120
     clear A120
     have c13b0 := eq_true (of_decide_eq_true (by first | (with_reducible assumption) | assumption) : 4 ≤ (t494.length : Int))
     obtain ⟨y508, hy508⟩ : ∃ y_ : List ByteArray, y_ = (t494.drop 4) := ⟨_, rfl⟩
     replace H : ((lot_pairs.f kj2 y508 (([(⟨#[102, 105, 108, 108]⟩ : ByteArray), (⟨#[97, 108, 99, 111, 104, 111, 108]⟩ : ByteArray)] : List ByteArray))).bind fun bt515 => (if t505 = true then (lot_read.j1 kj2 t504 bt515.1 (!bt515.2)) else (lot_read.j1 kj2 t504 bt515.1 true))) = some (r1, r2, r3, r4, r5) := by first | (rw [hy508]; with_reducible exact H) | (have H2_ := (Option.bind_some _ _).symm.trans H; rw [hy508]; with_reducible exact H2_) | (have H2_ := (Option.bind_some _ _).symm.trans H; with_reducible exact H2_) | with_reducible exact H | (rw [hy508]; exact H) | exact H
     have Ny508 := Aside0.mk hy508
     clear hy508
     obtain ⟨y512, hy512⟩ : ∃ y_ : List ByteArray, y_ = (([(⟨#[102, 105, 108, 108]⟩ : ByteArray), (⟨#[97, 108, 99, 111, 104, 111, 108]⟩ : ByteArray)] : List ByteArray)) := ⟨_, rfl⟩
     replace H : ((lot_pairs.f kj2 y508 y512).bind fun bt515 => (if t505 = true then (lot_read.j1 kj2 t504 bt515.1 (!bt515.2)) else (lot_read.j1 kj2 t504 bt515.1 true))) = some (r1, r2, r3, r4, r5) := by first | (rw [hy512]; with_reducible exact H) | (have H2_ := (Option.bind_some _ _).symm.trans H; rw [hy512]; with_reducible exact H2_) | (have H2_ := (Option.bind_some _ _).symm.trans H; with_reducible exact H2_) | with_reducible exact H | (rw [hy512]; exact H) | exact H
     have Ny512 := Aside0.mk hy512
     clear hy512
     replace H := Option.bind_eq_some_iff.mp H
     obtain ⟨⟨t515, t516⟩, A140, H⟩ := H
     replace H : (if t505 = true then (lot_read.j1 kj2 t504 t515 (!t516)) else (lot_read.j1 kj2 t504 t515 true)) = some (r1, r2, r3, r4, r5) := H
     have A14 := Aside0.mk A140
     clear A140
     have HC15 := Aside0.mk H
     clear H
     obtain ⟨Ao17, co17, eo17⟩ := Kd.R_slice HO_4.out
     subst eo17
     have q16 : (4 : Int) ≤ ((t494.length : Int) : Int) := of_decide_eq_true (by first | (with_reducible assumption) | assumption)
     obtain ⟨i016, hi016, _, hsz16, _⟩ := info_parts info9
     have hroom16 : t494.length ≤ co17 := (Kd.R_reads' HO_4.out).2.1
     have hC16 : Kd.C Kd.string _ Ao17 t494.length t494 := (Kd.R_reads' HO_4.out).2.2
     have hcut16 := cut_to (P := Tryd.prog) 79 9 .i64 Tryd.underlying79 hi016 Ao17 t494.length co17 4 (by omega) q16 hroom16
     have hr16 := Kd.C_take (m := 4) hC16 (by omega)
     have hy16 : y497.length = (4 : Int).toNat := (by rw [Ny497.out, List.length_take]; omega)
     rw [← Ny497.out] at hr16
     rw [← hy16] at hcut16
     have HR500 := Aside0.mk hr16
     have HC500 := Aside0.mk (show y497.length ≤ co17 from by omega)
     clear hr16 hC16 hroom16 hi016 hsz16
     have KY16 := Aside0.mk hy16
     clear hy16
     have KL16 := Aside0.mk (show 4 ≤ t494.length from by omega)
     replace q16 := eq_true q16
     go_upto_region 6 with (first | ((with_reducible refine gate_dst (N := 26) rfl ?_); (try (refine gate_guard (by rfl) ?_; dsimp only)); refine Kd.R_lit Kd.string _ 9 ?hg (N := 26) ?hd (xs := ([(⟨#[108, 111, 116]⟩ : ByteArray), (⟨#[109, 97, 115, 115]⟩ : ByteArray)] : List ByteArray)) (inner := [.string (⟨#[108, 111, 116]⟩ : ByteArray), .string (⟨#[109, 97, 115, 115]⟩ : ByteArray)]) (ok := fun _ => True) (okp := fun _ => True) ?hr ?hp (fun _ hk => hk) trivial (Below.refl _ _) (Nat.le_refl _) (by simp) ?_; (case hd => rfl); (case hg => rfl); (case hr => first | (go_simp; done) | (go_simp; rfl)); (case hp => exact (Reps.one (show Kd.M Kd.string _ _ _ (⟨#[108, 111, 116]⟩ : ByteArray) [.string (⟨#[108, 111, 116]⟩ : ByteArray)] from rfl) (Reps.one (show Kd.M Kd.string _ _ _ (⟨#[109, 97, 115, 115]⟩ : ByteArray) [.string (⟨#[109, 97, 115, 115]⟩ : ByteArray)] from rfl) (Reps.none _ _)))); intro v502 w18 ho19 hb hg_ hnew_; clear hg_ hnew_; (first | rw [← Ny501.out] at ho19 | (simp only [Int.reduceToNat] at ho19; rw [← Ny501.out] at ho19)); have n0_ := Aside0.mk (Kd.R_elder' (by (with_reducible repeat (first | apply Kd.R_alloc | apply Kd.R_drewN | apply Kd.R_drew)); exact HO_4.out) (Kd.R_base ho19) hb); have n1_ := Aside0.mk (Kd.R_lower (Kd.R_new' ho19 (Kd.R_lt (by (with_reducible repeat (first | apply Kd.R_alloc | apply Kd.R_drewN | apply Kd.R_drew)); exact HO_4.out))) (below_size (by repeat (first | (with_reducible first | exact HB.out | apply below_alloc | apply pw_below_drewN | apply below_drew1 | refine below_set ?_ GE493.out) | exact HB.out)))); have n2_ := Aside0.mk (blk_below (g := gb493) (o := .cells #[.int .i64 0, .int .i64 0, .int .i64 0, .slice none 0 0] 33 (0, 0)) (by (with_reducible repeat (first | refine blk_drewN ?_ _ | refine blk_drew ?_ | refine blk_alloc ?_ _)); exact BK493.out) hb); have n3_ := Aside0.mk (Kd.C_below (by repeat (first | (with_reducible exact HR500.out) | (with_reducible refine Kd.C_alloc ?_ _) | (with_reducible refine Kd.C_drewN ?_ _) | (with_reducible refine Kd.C_drew ?_) | exact HR500.out)) hb); have n4_ := Aside0.mk (below_step (by repeat (first | (with_reducible first | exact HB.out | apply below_alloc | apply pw_below_drewN | apply below_drew1 | refine below_set ?_ GE493.out) | exact HB.out)) hb); clear HO_4; clear BK493; clear HR500; clear HB; have HO_4 := n0_; have HO503 := n1_; have BK493 := n2_; have HR500 := n3_; have HB := n4_; clear n0_ n1_ n2_ n3_ n4_; clear hb ho19; obtain ⟨Ao20, co20, eo20⟩ := Kd.R_slice HO503.out; subst eo20) | ((with_reducible refine gate_callee (f := 66) rfl ?_); refine goesL_ (some 27) rfl rfl Tryd.func66 (by kernel_rfl) rfl #[.slice Ao17 y497.length co17, .slice Ao20 y501.length co20] rfl (by (try simp only [List.map_toArray, List.map_cons, List.map_nil]); first | done | rfl | (simp only [List.length_drop, List.length_take]; rfl)) ?_; (with_reducible refine (lot_pairs.calls kj2 _ _ y497 _ _ y501 t504 t505 _ ?side1 ?side2 ?side3 ?side4 ?side5 A12.out).mono ?_); (case side1 => repeat (first | exact (by repeat (first | (with_reducible exact HR500.out) | (with_reducible refine Kd.C_alloc ?_ _) | (with_reducible refine Kd.C_drewN ?_ _) | (with_reducible refine Kd.C_drew ?_) | exact HR500.out)) | (with_reducible refine Kd.C_alloc ?_ _) | (with_reducible refine Kd.C_drewN ?_ _) | (with_reducible refine Kd.C_drew ?_))); (case side2 => exact HC500.out); (case side3 => repeat (first | exact (Kd.R_reads' HO503.out).2.2 | (with_reducible refine Kd.C_alloc ?_ _) | (with_reducible refine Kd.C_drewN ?_ _) | (with_reducible refine Kd.C_drew ?_))); (case side4 => exact (Kd.R_reads' HO503.out).2.1); (case side5 => exact GI.below HG.out (by repeat (first | (with_reducible first | exact HB.out | apply below_alloc | apply pw_below_drewN | apply below_drew1 | refine below_set ?_ GE493.out) | exact HB.out))); rintro e w21 ⟨v506, rfl, ho0, hb⟩; refine ⟨_, rfl, ?_⟩; have n0_ := Aside0.mk (Kd.R_below (by (with_reducible repeat (first | apply Kd.R_alloc | apply Kd.R_drewN | apply Kd.R_drew)); exact HO_4.out) hb); have n1_ := Aside0.mk (Kd.R_below (by (with_reducible repeat (first | apply Kd.R_alloc | apply Kd.R_drewN | apply Kd.R_drew)); exact HO503.out) hb); have n2_ := Aside0.mk (Kd.R_lower ho0 (below_size (by repeat (first | (with_reducible first | exact HB.out | apply below_alloc | apply pw_below_drewN | apply below_drew1 | refine below_set ?_ GE493.out) | exact HB.out)))); have n3_ := Aside0.mk (blk_below (g := gb493) (o := .cells #[.int .i64 0, .int .i64 0, .int .i64 0, .slice none 0 0] 33 (0, 0)) (by (with_reducible repeat (first | refine blk_drewN ?_ _ | refine blk_drew ?_ | refine blk_alloc ?_ _)); exact BK493.out) hb); have n4_ := Aside0.mk (Kd.C_below (by repeat (first | (with_reducible exact HR500.out) | (with_reducible refine Kd.C_alloc ?_ _) | (with_reducible refine Kd.C_drewN ?_ _) | (with_reducible refine Kd.C_drew ?_) | exact HR500.out)) hb); have n5_ := Aside0.mk (below_step (by repeat (first | (with_reducible first | exact HB.out | apply below_alloc | apply pw_below_drewN | apply below_drew1 | refine below_set ?_ GE493.out) | exact HB.out)) hb); clear HO_4; clear HO503; clear BK493; clear HR500; clear HB; have HO_4 := n0_; have HO503 := n1_; have HO507 := n2_; have BK493 := n3_; have HR500 := n4_; have HB := n5_; clear n0_ n1_ n2_ n3_ n4_ n5_; (try clear hb); (try clear hb2); (try clear hk); (try clear hi); (try clear ho0); have q22 : (4 : Int) ≤ ((t494.length : Int) : Int) := of_decide_eq_true (by first | (with_reducible assumption) | assumption); obtain ⟨i022, hi022, _, hsz22, _⟩ := info_parts info9; have hroom22 : t494.length ≤ co17 := (Kd.R_reads' HO_4.out).2.1; have hC22 : Kd.C Kd.string _ Ao17 t494.length t494 := (Kd.R_reads' HO_4.out).2.2; have hcut22 := cut_from (P := Tryd.prog) 79 9 .i64 Tryd.underlying79 hi022 1 hsz22 Ao17 t494.length co17 4 (by omega) q22; have hr22 := Kd.C_drop (m := (4 : Int).toNat) (c := co17) hC22 (by omega) hroom22; obtain ⟨A22, hA22⟩ : ∃ A1, A1 = (if co17 = (4 : Int).toNat then Ao17 else (Ao17 : Option Addr).map (·.add ((4 : Int).toNat * 1))) := ⟨_, rfl⟩; obtain ⟨c22, hc22⟩ : ∃ c1, c1 = co17 - (4 : Int).toNat := ⟨_, rfl⟩; have hy22 : y508.length = t494.length - (4 : Int).toNat := (by rw [Ny508.out, List.length_drop] <;> omega); rw [show (t494).drop (4 : Int).toNat = y508 from Ny508.out.symm] at hr22; replace hr22 : Kd.C Kd.string _ A22 y508.length y508 := (by rw [hA22]; exact hr22); rw [← hy22, ← hA22, ← hc22] at hcut22; have HR511 := Aside0.mk hr22; have HC511 := Aside0.mk (show y508.length ≤ c22 from by rw [hy22, hc22]; exact Nat.sub_le_sub_right hroom22 _); clear hr22 hC22 hroom22 hi022 hsz22 hc22; have KY22 := Aside0.mk hy22; have KA22 := Aside0.mk hA22; clear hy22 hA22; have KL22 := Aside0.mk (show 4 ≤ t494.length from by omega); replace q22 := eq_true q22) | ((with_reducible refine gate_dst (N := 33) rfl ?_); (try (refine gate_guard (by rfl) ?_; dsimp only)); refine Kd.R_lit Kd.string _ 9 ?hg (N := 33) ?hd (xs := ([(⟨#[102, 105, 108, 108]⟩ : ByteArray), (⟨#[97, 108, 99, 111, 104, 111, 108]⟩ : ByteArray)] : List ByteArray)) (inner := [.string (⟨#[102, 105, 108, 108]⟩ : ByteArray), .string (⟨#[97, 108, 99, 111, 104, 111, 108]⟩ : ByteArray)]) (ok := fun _ => True) (okp := fun _ => True) ?hr ?hp (fun _ hk => hk) trivial (Below.refl _ _) (Nat.le_refl _) (by simp) ?_; (case hd => rfl); (case hg => rfl); (case hr => first | (go_simp; done) | (go_simp; rfl)); (case hp => exact (Reps.one (show Kd.M Kd.string _ _ _ (⟨#[102, 105, 108, 108]⟩ : ByteArray) [.string (⟨#[102, 105, 108, 108]⟩ : ByteArray)] from rfl) (Reps.one (show Kd.M Kd.string _ _ _ (⟨#[97, 108, 99, 111, 104, 111, 108]⟩ : ByteArray) [.string (⟨#[97, 108, 99, 111, 104, 111, 108]⟩ : ByteArray)] from rfl) (Reps.none _ _)))); intro v513 w23 ho24 hb hg_ hnew_; clear hg_ hnew_; (first | rw [← Ny512.out] at ho24 | (simp only [Int.reduceToNat] at ho24; rw [← Ny512.out] at ho24)); have n0_ := Aside0.mk (Kd.R_elder' (by (with_reducible repeat (first | apply Kd.R_alloc | apply Kd.R_drewN | apply Kd.R_drew)); exact HO_4.out) (Kd.R_base ho24) hb); have n1_ := Aside0.mk (Kd.R_elder' (by (with_reducible repeat (first | apply Kd.R_alloc | apply Kd.R_drewN | apply Kd.R_drew)); exact HO503.out) (Kd.R_base ho24) hb); have n2_ := Aside0.mk (Kd.R_below (by (with_reducible repeat (first | apply Kd.R_alloc | apply Kd.R_drewN | apply Kd.R_drew)); exact HO507.out) hb); have n3_ := Aside0.mk (Kd.R_lower (Kd.R_new' (Kd.R_new' ho24 (Kd.R_lt (by (with_reducible repeat (first | apply Kd.R_alloc | apply Kd.R_drewN | apply Kd.R_drew)); exact HO_4.out))) (Kd.R_lt (by (with_reducible repeat (first | apply Kd.R_alloc | apply Kd.R_drewN | apply Kd.R_drew)); exact HO503.out))) (below_size (by repeat (first | (with_reducible first | exact HB.out | apply below_alloc | apply pw_below_drewN | apply below_drew1 | refine below_set ?_ GE493.out) | exact HB.out)))); have n4_ := Aside0.mk (blk_below (g := gb493) (o := .cells #[.int .i64 0, .int .i64 0, .int .i64 0, .slice none 0 0] 33 (0, 0)) (by (with_reducible repeat (first | refine blk_drewN ?_ _ | refine blk_drew ?_ | refine blk_alloc ?_ _)); exact BK493.out) hb); have n5_ := Aside0.mk (Kd.C_below (by repeat (first | (with_reducible exact HR500.out) | (with_reducible refine Kd.C_alloc ?_ _) | (with_reducible refine Kd.C_drewN ?_ _) | (with_reducible refine Kd.C_drew ?_) | exact HR500.out)) hb); have n6_ := Aside0.mk (Kd.C_below (by repeat (first | (with_reducible exact HR511.out) | (with_reducible refine Kd.C_alloc ?_ _) | (with_reducible refine Kd.C_drewN ?_ _) | (with_reducible refine Kd.C_drew ?_) | exact HR511.out)) hb); have n7_ := Aside0.mk (below_step (by repeat (first | (with_reducible first | exact HB.out | apply below_alloc | apply pw_below_drewN | apply below_drew1 | refine below_set ?_ GE493.out) | exact HB.out)) hb); clear HO_4; clear HO503; clear HO507; clear BK493; clear HR500; clear HR511; clear HB; have HO_4 := n0_; have HO503 := n1_; have HO507 := n2_; have HO514 := n3_; have BK493 := n4_; have HR500 := n5_; have HR511 := n6_; have HB := n7_; clear n0_ n1_ n2_ n3_ n4_ n5_ n6_ n7_; clear hb ho24; obtain ⟨Ao25, co25, eo25⟩ := Kd.R_slice HO514.out; subst eo25) | ((with_reducible refine gate_callee (f := 66) rfl ?_); refine goesL_ (some 34) rfl rfl Tryd.func66 (by kernel_rfl) rfl #[.slice A22 y508.length c22, .slice Ao25 y512.length co25] rfl (by (try simp only [List.map_toArray, List.map_cons, List.map_nil]); first | done | rfl | (simp only [List.length_drop, List.length_take]; rfl)) ?_; (with_reducible refine (lot_pairs.calls kj2 _ _ y508 _ _ y512 t515 t516 _ ?side1 ?side2 ?side3 ?side4 ?side5 A14.out).mono ?_); (case side1 => repeat (first | exact (by repeat (first | (with_reducible exact HR511.out) | (with_reducible refine Kd.C_alloc ?_ _) | (with_reducible refine Kd.C_drewN ?_ _) | (with_reducible refine Kd.C_drew ?_) | exact HR511.out)) | (with_reducible refine Kd.C_alloc ?_ _) | (with_reducible refine Kd.C_drewN ?_ _) | (with_reducible refine Kd.C_drew ?_))); (case side2 => exact HC511.out); (case side3 => repeat (first | exact (Kd.R_reads' HO514.out).2.2 | (with_reducible refine Kd.C_alloc ?_ _) | (with_reducible refine Kd.C_drewN ?_ _) | (with_reducible refine Kd.C_drew ?_))); (case side4 => exact (Kd.R_reads' HO514.out).2.1); (case side5 => exact GI.below HG.out (by repeat (first | (with_reducible first | exact HB.out | apply below_alloc | apply pw_below_drewN | apply below_drew1 | refine below_set ?_ GE493.out) | exact HB.out))); rintro e w26 ⟨v517, rfl, ho0, hb⟩; refine ⟨_, rfl, ?_⟩; have n0_ := Aside0.mk (Kd.R_below (by (with_reducible repeat (first | apply Kd.R_alloc | apply Kd.R_drewN | apply Kd.R_drew)); exact HO_4.out) hb); have n1_ := Aside0.mk (Kd.R_below (by (with_reducible repeat (first | apply Kd.R_alloc | apply Kd.R_drewN | apply Kd.R_drew)); exact HO503.out) hb); have n2_ := Aside0.mk (Kd.R_elder' (by (with_reducible repeat (first | apply Kd.R_alloc | apply Kd.R_drewN | apply Kd.R_drew)); exact HO507.out) (Kd.R_base ho0) hb); have n3_ := Aside0.mk (Kd.R_below (by (with_reducible repeat (first | apply Kd.R_alloc | apply Kd.R_drewN | apply Kd.R_drew)); exact HO514.out) hb); have n4_ := Aside0.mk (Kd.R_lower (Kd.R_new' ho0 (Kd.R_lt (by (with_reducible repeat (first | apply Kd.R_alloc | apply Kd.R_drewN | apply Kd.R_drew)); exact HO507.out))) (below_size (by repeat (first | (with_reducible first | exact HB.out | apply below_alloc | apply pw_below_drewN | apply below_drew1 | refine below_set ?_ GE493.out) | exact HB.out)))); have n5_ := Aside0.mk (blk_below (g := gb493) (o := .cells #[.int .i64 0, .int .i64 0, .int .i64 0, .slice none 0 0] 33 (0, 0)) (by (with_reducible repeat (first | refine blk_drewN ?_ _ | refine blk_drew ?_ | refine blk_alloc ?_ _)); exact BK493.out) hb); have n6_ := Aside0.mk (Kd.C_below (by repeat (first | (with_reducible exact HR500.out) | (with_reducible refine Kd.C_alloc ?_ _) | (with_reducible refine Kd.C_drewN ?_ _) | (with_reducible refine Kd.C_drew ?_) | exact HR500.out)) hb); have n7_ := Aside0.mk (Kd.C_below (by repeat (first | (with_reducible exact HR511.out) | (with_reducible refine Kd.C_alloc ?_ _) | (with_reducible refine Kd.C_drewN ?_ _) | (with_reducible refine Kd.C_drew ?_) | exact HR511.out)) hb); have n8_ := Aside0.mk (below_step (by repeat (first | (with_reducible first | exact HB.out | apply below_alloc | apply pw_below_drewN | apply below_drew1 | refine below_set ?_ GE493.out) | exact HB.out)) hb); clear HO_4; clear HO503; clear HO507; clear HO514; clear BK493; clear HR500; clear HR511; clear HB; have HO_4 := n0_; have HO503 := n1_; have HO507 := n2_; have HO514 := n3_; have HO518 := n4_; have BK493 := n5_; have HR500 := n6_; have HR511 := n7_; have HB := n8_; clear n0_ n1_ n2_ n3_ n4_ n5_ n6_ n7_ n8_; (try clear hb); (try clear hb2); (try clear hk); (try clear hi); (try clear ho0)))
     (try simp only [Act.put, List.setIfInBounds_toArray, List.set_cons_zero, List.set_cons_succ])
     go_cut [42] (fun v42 wc => ∃ (kq : Nat) (x42_14 : Bool), v42 = .bool x42_14 ∧ Aside0 (lot_read.j1 kq t504 t515 x42_14 = some (r1, r2, r3, r4, r5)) ∧ Aside0 (kq ≤ kj2) ∧ Aside0 (Kd.R (Kd.int .i64) 3 wc w.heap.size (fun k_ => some k_ ≠ (v517 : Value).ownBlock) v506 t504) ∧ Aside0 (Kd.R (Kd.int .i64) 3 wc w.heap.size (fun k_ => some k_ ≠ (v506 : Value).ownBlock) v517 t515) ∧ Aside0 (wc.heap[gb493]? = some (.cells #[.int .i64 0, .int .i64 0, .int .i64 0, (.slice none 0 0)] 33 (0, 0))) ∧ Aside0 (Below w.heap.size w wc))
     case first =>
      have H := HC15.out
      clear HC15
      by_cases c27 : t505 = true
      ·
       subst c27
       have H1 : (lot_read.j1 kj2 t504 t515 (!t516)) = some (r1, r2, r3, r4, r5) := by rw [if_pos rfl] at H; exact H
       clear H
       have H := H1
       clear H1
       have H' := Aside0.mk H
       clear H
       go_wp2
       go_meet
       case rel => exact ⟨_, (!t516), (by first | rfl | (simp; done) | (simp [*]; done)), H', ⟨by have := HJ2.out; first | omega | exact Nat.le_refl _⟩, ⟨by (with_reducible repeat (first | apply Kd.R_alloc | apply Kd.R_drewN | apply Kd.R_drew)); exact Kd.R_mono HO507.out (fun _ hk => hk.2)⟩, ⟨by (with_reducible repeat (first | apply Kd.R_alloc | apply Kd.R_drewN | apply Kd.R_drew)); exact Kd.R_mono HO518.out (fun _ hk => hk.2)⟩, ⟨by (with_reducible repeat (first | refine blk_drewN ?_ _ | refine blk_drew ?_ | refine blk_alloc ?_ _)); exact BK493.out⟩, ⟨by repeat (first | (with_reducible first | exact HB.out | apply below_alloc | apply pw_below_drewN | apply below_drew1 | refine below_set ?_ GE493.out) | exact HB.out)⟩⟩
      ·
       replace c27 := Bool.eq_false_iff.mpr c27
       subst c27
       have H1 : (lot_read.j1 kj2 t504 t515 true) = some (r1, r2, r3, r4, r5) := by rw [if_neg (show ¬ (false = true) by decide)] at H; exact H
       clear H
       have H := H1
       clear H1
       have H' := Aside0.mk H
       clear H
       go_wp2
       go_meet
       case rel => exact ⟨_, (true), (by first | rfl | (simp; done) | (simp [*]; done)), H', ⟨by have := HJ2.out; first | omega | exact Nat.le_refl _⟩, ⟨by (with_reducible repeat (first | apply Kd.R_alloc | apply Kd.R_drewN | apply Kd.R_drew)); exact Kd.R_mono HO507.out (fun _ hk => hk.2)⟩, ⟨by (with_reducible repeat (first | apply Kd.R_alloc | apply Kd.R_drewN | apply Kd.R_drew)); exact Kd.R_mono HO518.out (fun _ hk => hk.2)⟩, ⟨by (with_reducible repeat (first | refine blk_drewN ?_ _ | refine blk_drew ?_ | refine blk_alloc ?_ _)); exact BK493.out⟩, ⟨by repeat (first | (with_reducible first | exact HB.out | apply below_alloc | apply pw_below_drewN | apply below_drew1 | refine below_set ?_ GE493.out) | exact HB.out)⟩⟩
     case rest =>
      clear HC15
      try clear c1
      try clear q1
      try clear c2
      try clear p2
      try clear q2
      try clear c5
      try clear c6
      try clear c6b0
      try clear c6b1
      try clear c9
      try clear c11
      try clear c11b0
      try clear c11b1
      try clear c13
      try clear c13b0
      try clear q16
      try clear c22
      try clear q22
      try clear c27
      try clear hcz10_0
      try clear hcz10_1
      try clear hcz10_2
      try clear hcz10_3
      try clear hfz10_0
      try clear hfz10_1
      try clear hfz10_2
      try clear hfz10_3
      try clear p2
      try clear q16
      try clear q22
      obtain ⟨kq, x42_14, rfl, HA, HJ14, HO_5, HO_7, BK493, HB⟩ := hcut
      cases kq with
      | zero => exact absurd HA.out (by simp [lot_read.j1])
      | succ kj14 =>
       have H := HA.out
       clear HA
       simp only [lot_read.j1] at H
       by_cases c28 : x42_14 = true
       ·
        subst c28
        have H1 : (some (0, 0, 0, ([] : List (S35)), false)) = some (r1, r2, r3, r4, r5) := by rw [if_pos rfl] at H; exact H
        clear H
        have H := H1
        clear H1
        simp only [Option.some.injEq, Prod.mk.injEq] at H
        obtain ⟨rfl, rfl, rfl, rfl, rfl⟩ := H
        have hcz29_0 : wc.cell? ⟨gb493, 0, none⟩ = some (.int .i64 0) := (blk_cell BK493.out 0).trans rfl
        have hcz29_1 : wc.cell? ⟨gb493, 1, none⟩ = some (.int .i64 0) := (blk_cell BK493.out 1).trans rfl
        have hcz29_2 : wc.cell? ⟨gb493, 2, none⟩ = some (.int .i64 0) := (blk_cell BK493.out 2).trans rfl
        have hcz29_3 : wc.cell? ⟨gb493, 3, none⟩ = some (.slice none 0 0) := (blk_cell BK493.out 3).trans rfl
        have hfz29_0 := blk_frozen BK493.out 0
        have hfz29_1 := blk_frozen BK493.out 1
        have hfz29_2 := blk_frozen BK493.out 2
        have hfz29_3 := blk_frozen BK493.out 3
        go_wp2
        refine bodyPost_ret (results_ct rfl _ _ gb493 33 #[.int .i64 0, .int .i64 0, .int .i64 0, .slice none 0 0] (0, 0) _ rfl (by (with_reducible repeat (first | refine blk_drewN ?_ _ | refine blk_drew ?_ | refine blk_alloc ?_ _)); refine blk_put (cs := #[.int .i64 0, .int .i64 0, .int .i64 0, .slice none 0 0]) ?_ 3 _ rfl; (with_reducible repeat (first | refine blk_drewN ?_ _ | refine blk_drew ?_ | refine blk_alloc ?_ _)); refine blk_put (cs := #[.int .i64 0, .int .i64 0, .int .i64 0, .slice none 0 0]) ?_ 2 _ rfl; (with_reducible repeat (first | refine blk_drewN ?_ _ | refine blk_drew ?_ | refine blk_alloc ?_ _)); refine blk_put (cs := #[.int .i64 0, .int .i64 0, .int .i64 0, .slice none 0 0]) ?_ 1 _ rfl; (with_reducible repeat (first | refine blk_drewN ?_ _ | refine blk_drew ?_ | refine blk_alloc ?_ _)); refine blk_put (cs := #[.int .i64 0, .int .i64 0, .int .i64 0, .slice none 0 0]) ?_ 0 _ rfl; (with_reducible repeat (first | refine blk_drewN ?_ _ | refine blk_drew ?_ | refine blk_alloc ?_ _)); exact BK493.out) Tryd.underlying33 rfl (by kernel_rfl)) rfl ?_
        exact ⟨_, by first | rfl | (simp [errW_none, errW_some] <;> rfl) | (simp [*, errW_none, errW_some] <;> rfl), by first | exact Kd.R_nil _ _ _ _ _ | exact Kd.N_nil _ _ _ _ _ | exact Kd.V_nil _ _ _ _ _ | exact Kd.Q_nil _ _ _ _ _ | exact Kd.S_nil _ _ _ _ _, by repeat (first | (with_reducible first | exact HB.out | apply below_alloc | apply pw_below_drewN | apply below_drew1 | refine below_set ?_ GE493.out) | exact HB.out)⟩
       ·
        replace c28 := Bool.eq_false_iff.mpr c28
        subst c28
        have H1 : (if 0 < (t504.length : Int) then (if 1 < (t504.length : Int) then (lot_read.l0 kj14 t515 0 (rd t504 0) 0 (rd t504 1) ([] : List (S35))) else (none)) else (none)) = some (r1, r2, r3, r4, r5) := by rw [if_neg (show ¬ (false = true) by decide)] at H; exact H
        clear H
        have H := H1
        clear H1
        by_cases c30 : 0 < (t504.length : Int)
        ·
         rw [if_pos c30] at H
         have c30b0 : decide (0 < (t504.length : Int)) = true := decide_eq_true c30
         have c30b1 : decide (0 < t504.length) = true := decide_eq_true (by omega)
         clear c30
         by_cases c31 : 1 < (t504.length : Int)
         ·
          rw [if_pos c31] at H
          have c31b0 : decide (1 < (t504.length : Int)) = true := decide_eq_true c31
          have c31b1 : decide (1 < t504.length) = true := decide_eq_true (by omega)
          clear c31
          have H' := Aside0.mk H
          clear H
          try go_wp2
          have n0_ := Aside0.mk (Kd.R_drew HO_5.out)
          have n1_ := Aside0.mk (Kd.R_drew HO_7.out)
          have n2_ := Aside0.mk (blk_drew BK493.out)
          have n3_ := Aside0.mk (below_drew1 HB.out)
          clear HO_5
          clear HO_7
          clear BK493
          clear HB
          have HO_5 := n0_
          have HO_7 := n1_
          have BK493 := n2_
          have HB := n3_
          clear n0_ n1_ n2_ n3_
          obtain ⟨Ao33, co33, eo33⟩ := Kd.R_slice HO_5.out
          (first | subst eo33 | (injection eo33 with f1_ f2_ f3_; have f4_ := f1_.symm; have f5_ := f3_.symm; clear f1_ f2_ f3_; subst f4_; subst f5_))
          have p519 : 0 ≤ (0 : Int) := (by omega)
          have q519 : 0 < (t504.length : Int) := of_decide_eq_true (by first | (with_reducible assumption) | assumption)
          obtain ⟨ad519, e519, hx519_0⟩ := Kd.at_int (Kd.R_reads' HO_5.out).2.2 0 p519 q519
          cases e519
          have qi519 : (0 < t504.length) = True := eq_true (by omega)
          (try rw [show ((0 : Int)).toNat = 0 from rfl] at hx519_0)
          (try rw [Addr.add_zero'] at hx519_0)
          replace p519 := eq_true p519
          replace q519 := eq_true q519
          have p520 : 0 ≤ (1 : Int) := (by omega)
          have q520 : 1 < (t504.length : Int) := of_decide_eq_true (by first | (with_reducible assumption) | assumption)
          obtain ⟨ad520, e520, hx520_0⟩ := Kd.at_int (Kd.R_reads' HO_5.out).2.2 1 p520 q520
          obtain rfl : ad519 = ad520 := (by injection e520)
          (try simp only [show (1 : Int).toNat = 1 from rfl, Nat.reduceMul, Nat.reduceEqDiff, Go.Addr.add, ↓reduceIte] at hx520_0)
          have qi520 : (1 < t504.length) = True := eq_true (by omega)
          (try rw [show ((1 : Int)).toNat = 1 from rfl] at hx520_0)
          replace p520 := eq_true p520
          replace q520 := eq_true q520
          refine start_ (n := 10) (S := fun w' => w'.cell? ad519 = some (.int .i64 (rd t504 0)) ∧ w'.cell? ⟨ad519.block, ad519.off + 1, none⟩ = some (.int .i64 (rd t504 1))) (ds := []) #[false, false, false, false, false, false, false, false, false, false] (by kernel_rfl) rfl rfl ⟨hx519_0, hx520_0⟩ (fun hHeld => ?_); refine with_tabW lot_read.tab8 lot_read.bits8 (fun HT_ HW_ => ?_)
          generalize wc.drew = w32 at HO_5 HO_7 BK493 HB hx519_0 hx520_0 hHeld ⊢
          refine pure_ (i := 0) (N := some 44) (v := ?_) (a' := ?_) #[true, false, false, false, false, false, false, false, false, false] rfl rfl (any_of HT_.out (by kernel_rfl)) (fun _ _ _ h => h) (Or.inl ⟨by rfl, ?_⟩) ?_ ?_
          rotate_left
          ·
           intro w'
           go_simp
           with_reducible rfl
          rotate_left
          ·
           simp only [Act.put, List.setIfInBounds_toArray, List.set_cons_zero, List.set_cons_succ, i64_w, i32_w]
           rfl
          refine pure_ (i := 1) (N := some 45) (v := ?_) (a' := ?_) #[true, true, false, false, false, false, false, false, false, false] rfl rfl (any_of HT_.out (by kernel_rfl)) (fun _ _ _ h => h) (Or.inl ⟨by rfl, ?_⟩) ?_ ?_
          rotate_left
          ·
           intro w'
           go_simp
           with_reducible rfl
          rotate_left
          ·
           simp only [Act.put, List.setIfInBounds_toArray, List.set_cons_zero, List.set_cons_succ, i64_w, i32_w]
           rfl
          refine pure_ (i := 3) (N := some 47) (v := ?_) (a' := ?_) #[true, true, false, true, false, false, false, false, false, false] rfl rfl (any_of HT_.out (by kernel_rfl)) (fun _ _ _ h => h) (Or.inl ⟨by rfl, ?_⟩) ?_ ?_
          rotate_left
          ·
           intro w'
           go_simp
           with_reducible rfl
          rotate_left
          ·
           simp only [Act.put, List.setIfInBounds_toArray, List.set_cons_zero, List.set_cons_succ, i64_w, i32_w]
           rfl
          refine pure_ (i := 4) (N := some 48) (v := ?_) (a' := ?_) #[true, true, false, true, true, false, false, false, false, false] rfl rfl (any_of HT_.out (by kernel_rfl)) (fun _ _ _ h => h) (Or.inl ⟨by rfl, ?_⟩) ?_ ?_
          rotate_left
          ·
           intro w'
           go_simp
           with_reducible rfl
          rotate_left
          ·
           simp only [Act.put, List.setIfInBounds_toArray, List.set_cons_zero, List.set_cons_succ, i64_w, i32_w]
           rfl
          refine take_ (i := 2) (N := some 46) (v := ?_) (a' := ?_) #[true, true, true, true, true, false, false, false, false, false] rfl rfl (take_ofW HT_.out HW_.out (by kernel_rfl)) (fun _ _ _ h => h) (Or.inl ⟨by rfl, ?_⟩) hHeld ?_ ?_
          rotate_left
          ·
           rintro w' ⟨s0, s1⟩
           go_simp
           with_reducible rfl
          rotate_left
          ·
           simp only [Act.put, List.setIfInBounds_toArray, List.set_cons_zero, List.set_cons_succ, i64_w, i32_w]
           rfl
          refine take_ (i := 5) (N := some 49) (v := ?_) (a' := ?_) #[true, true, true, true, true, true, false, false, false, false] rfl rfl (take_ofW HT_.out HW_.out (by kernel_rfl)) (fun _ _ _ h => h) (Or.inl ⟨by rfl, ?_⟩) hHeld ?_ ?_
          rotate_left
          ·
           rintro w' ⟨s0, s1⟩
           go_simp
           with_reducible rfl
          rotate_left
          ·
           simp only [Act.put, List.setIfInBounds_toArray, List.set_cons_zero, List.set_cons_succ, i64_w, i32_w]
           rfl
          refine pure_ (i := 6) (N := some 50) (v := ?_) (a' := ?_) #[true, true, true, true, true, true, true, false, false, false] rfl rfl (any_of HT_.out (by kernel_rfl)) (fun _ _ _ h => h) (Or.inl ⟨by rfl, ?_⟩) ?_ ?_
          rotate_left
          ·
           intro w'
           go_simp
           with_reducible rfl
          rotate_left
          ·
           simp only [Act.put, List.setIfInBounds_toArray, List.set_cons_zero, List.set_cons_succ, i64_w, i32_w]
           rfl
          refine pure_ (i := 7) (N := some 51) (v := ?_) (a' := ?_) #[true, true, true, true, true, true, true, true, false, false] rfl rfl (any_of HT_.out (by kernel_rfl)) (fun _ _ _ h => h) (Or.inl ⟨by rfl, ?_⟩) ?_ ?_
          rotate_left
          ·
           intro w'
           go_simp
           with_reducible rfl
          rotate_left
          ·
           simp only [Act.put, List.setIfInBounds_toArray, List.set_cons_zero, List.set_cons_succ, i64_w, i32_w]
           rfl
          refine one_ (i := 8) (N := some 9) #[true, true, true, true, true, true, true, true, true, false] rfl rfl (one_of HT_.out (by kernel_rfl)) (by decide) (fun K hK => ?_)
          refine box_step ?hg (N := 9) ?hd (cs := #[.int .i64 0, .int .i64 0, .int .i64 0, .slice none 0 0]) (t := 33) ?hr ?_; (case hd => rfl); (case hg => rfl); (case hr => first | (go_simp; done) | (go_simp; rfl))
          intro gb521 hg w34 hbox hb
          have HS0_ := (hb.cell (World.block_lt_of_cell? _ _ (hHeld.1))).trans (hHeld.1)
          have HS1_ := (hb.cell (World.block_lt_of_cell? _ _ (hHeld.2))).trans (hHeld.2)
          have n0_ := Aside0.mk (Kd.R_below (by (with_reducible repeat (first | apply Kd.R_alloc | apply Kd.R_drewN | apply Kd.R_drew)); exact HO_5.out) hb)
          have n1_ := Aside0.mk (Kd.R_below (by (with_reducible repeat (first | apply Kd.R_alloc | apply Kd.R_drewN | apply Kd.R_drew)); exact HO_7.out) hb)
          have n2_ := Aside0.mk (blk_below (g := gb493) (o := .cells #[.int .i64 0, .int .i64 0, .int .i64 0, .slice none 0 0] 33 (0, 0)) (by (with_reducible repeat (first | refine blk_drewN ?_ _ | refine blk_drew ?_ | refine blk_alloc ?_ _)); exact BK493.out) hb)
          have n3_ := Aside0.mk (below_step (by repeat (first | (with_reducible first | exact HB.out | apply below_alloc | apply pw_below_drewN | apply below_drew1 | refine below_set ?_ GE493.out) | exact HB.out)) hb)
          have n4_ := Aside0.mk (hbox)
          have n5_ := Aside0.mk ((by rw [hg]; exact (below_size (by repeat (first | (with_reducible first | exact HB.out | apply below_alloc | apply pw_below_drewN | apply below_drew1 | refine below_set ?_ GE493.out) | exact HB.out))) : w.heap.size ≤ gb521))
          have n6_ := Aside0.mk ((by rw [hg]; exact (below_size (by repeat (first | (with_reducible first | exact HB.out | apply below_alloc | apply pw_below_drewN | apply below_drew1 | refine below_set ?_ GE493.out) | exact HB.out))) : w.heap.size ≤ gb521))
          have n7_ := Aside0.mk ((by rw [hg]; exact Nat.ne_of_lt (blk_lt (g := gb493) (o := .cells #[.int .i64 0, .int .i64 0, .int .i64 0, .slice none 0 0] 33 (0, 0)) (by (with_reducible repeat (first | refine blk_drewN ?_ _ | refine blk_drew ?_ | refine blk_alloc ?_ _)); exact BK493.out)) : gb493 ≠ gb521))
          have n8_ := Aside0.mk ((by rw [hg]; exact Nat.ne_of_gt (blk_lt (g := gb493) (o := .cells #[.int .i64 0, .int .i64 0, .int .i64 0, .slice none 0 0] 33 (0, 0)) (by (with_reducible repeat (first | refine blk_drewN ?_ _ | refine blk_drew ?_ | refine blk_alloc ?_ _)); exact BK493.out)) : gb521 ≠ gb493))
          clear HO_5
          clear HO_7
          clear BK493
          clear HB
          have HO_5 := n0_
          have HO_7 := n1_
          have BK493 := n2_
          have HB := n3_
          have BK521 := n4_
          have GW521 := n5_
          have GE521 := n6_
          have NB493_521 := n7_
          have NB521_493 := n8_
          clear n0_ n1_ n2_ n3_ n4_ n5_ n6_ n7_ n8_
          clear hb hbox hg
          refine hK.out _ _ ⟨HS0_, HS1_⟩ (fun hHeld => ?_)
          clear hK K
          refine norm_ (a' := ?_) ?_ ?_
          rotate_left
          ·
           show Act.put _ (some 9) _ = _
           simp only [Act.put, List.setIfInBounds_toArray, List.set_cons_zero, List.set_cons_succ, i64_w, i32_w]
           rfl
          refine one_ (i := 9) (N := none) #[true, true, true, true, true, true, true, true, true, true] rfl rfl (one_of HT_.out (by kernel_rfl)) (by decide) (fun K hK => ?_)
          have hs35 : w34.cell? ⟨gb521, 0, none⟩ = some (.int .i64 0) := (blk_cell BK521.out 0).trans rfl
          have hfs35 := blk_frozen BK521.out 0
          have hns35_0 := NB493_521.out
          have hms35_0 := NB521_493.out
          have hs36 : w34.cell? ⟨gb521, 1, none⟩ = some (.int .i64 0) := (blk_cell BK521.out 1).trans rfl
          have hfs36 := blk_frozen BK521.out 1
          have hns36_0 := NB493_521.out
          have hms36_0 := NB521_493.out
          have hs37 : w34.cell? ⟨gb521, 2, none⟩ = some (.int .i64 0) := (blk_cell BK521.out 2).trans rfl
          have hfs37 := blk_frozen BK521.out 2
          have hns37_0 := NB493_521.out
          have hms37_0 := NB521_493.out
          have hs38 : w34.cell? ⟨gb521, 3, none⟩ = some (.slice none 0 0) := (blk_cell BK521.out 3).trans rfl
          have hfs38 := blk_frozen BK521.out 3
          have hns38_0 := NB493_521.out
          have hms38_0 := NB521_493.out
          refine skip_ (w1 := ?_) (by rfl) rfl ?_ ?_
          rotate_left
          ·
           go_simp
           rfl
          refine hK.out _ _ ⟨((cell_far (p := ⟨gb521, _, none⟩) (by first | exact Kd.own_blk (Kd.R_ne HO_5.out BK521.out (by decide)) | (rw [add_block]; exact Kd.own_blk (Kd.R_ne HO_5.out BK521.out (by decide))) | (show (Addr.add _ _).block ≠ _; rw [add_block]; exact Kd.own_blk (Kd.R_ne HO_5.out BK521.out (by decide))) | (dsimp only; exact Kd.own_blk (Kd.R_ne HO_5.out BK521.out (by decide)))) _).trans (((cell_far (p := ⟨gb521, _, none⟩) (by first | exact Kd.own_blk (Kd.R_ne HO_5.out BK521.out (by decide)) | (rw [add_block]; exact Kd.own_blk (Kd.R_ne HO_5.out BK521.out (by decide))) | (show (Addr.add _ _).block ≠ _; rw [add_block]; exact Kd.own_blk (Kd.R_ne HO_5.out BK521.out (by decide))) | (dsimp only; exact Kd.own_blk (Kd.R_ne HO_5.out BK521.out (by decide)))) _).trans (((cell_far (p := ⟨gb521, _, none⟩) (by first | exact Kd.own_blk (Kd.R_ne HO_5.out BK521.out (by decide)) | (rw [add_block]; exact Kd.own_blk (Kd.R_ne HO_5.out BK521.out (by decide))) | (show (Addr.add _ _).block ≠ _; rw [add_block]; exact Kd.own_blk (Kd.R_ne HO_5.out BK521.out (by decide))) | (dsimp only; exact Kd.own_blk (Kd.R_ne HO_5.out BK521.out (by decide)))) _).trans (((cell_far (p := ⟨gb521, _, none⟩) (by first | exact Kd.own_blk (Kd.R_ne HO_5.out BK521.out (by decide)) | (rw [add_block]; exact Kd.own_blk (Kd.R_ne HO_5.out BK521.out (by decide))) | (show (Addr.add _ _).block ≠ _; rw [add_block]; exact Kd.own_blk (Kd.R_ne HO_5.out BK521.out (by decide))) | (dsimp only; exact Kd.own_blk (Kd.R_ne HO_5.out BK521.out (by decide)))) _).trans (hHeld.1)))))))), ((cell_far (p := ⟨gb521, _, none⟩) (by first | exact Kd.own_blk (Kd.R_ne HO_5.out BK521.out (by decide)) | (rw [add_block]; exact Kd.own_blk (Kd.R_ne HO_5.out BK521.out (by decide))) | (show (Addr.add _ _).block ≠ _; rw [add_block]; exact Kd.own_blk (Kd.R_ne HO_5.out BK521.out (by decide))) | (dsimp only; exact Kd.own_blk (Kd.R_ne HO_5.out BK521.out (by decide)))) _).trans (((cell_far (p := ⟨gb521, _, none⟩) (by first | exact Kd.own_blk (Kd.R_ne HO_5.out BK521.out (by decide)) | (rw [add_block]; exact Kd.own_blk (Kd.R_ne HO_5.out BK521.out (by decide))) | (show (Addr.add _ _).block ≠ _; rw [add_block]; exact Kd.own_blk (Kd.R_ne HO_5.out BK521.out (by decide))) | (dsimp only; exact Kd.own_blk (Kd.R_ne HO_5.out BK521.out (by decide)))) _).trans (((cell_far (p := ⟨gb521, _, none⟩) (by first | exact Kd.own_blk (Kd.R_ne HO_5.out BK521.out (by decide)) | (rw [add_block]; exact Kd.own_blk (Kd.R_ne HO_5.out BK521.out (by decide))) | (show (Addr.add _ _).block ≠ _; rw [add_block]; exact Kd.own_blk (Kd.R_ne HO_5.out BK521.out (by decide))) | (dsimp only; exact Kd.own_blk (Kd.R_ne HO_5.out BK521.out (by decide)))) _).trans (((cell_far (p := ⟨gb521, _, none⟩) (by first | exact Kd.own_blk (Kd.R_ne HO_5.out BK521.out (by decide)) | (rw [add_block]; exact Kd.own_blk (Kd.R_ne HO_5.out BK521.out (by decide))) | (show (Addr.add _ _).block ≠ _; rw [add_block]; exact Kd.own_blk (Kd.R_ne HO_5.out BK521.out (by decide))) | (dsimp only; exact Kd.own_blk (Kd.R_ne HO_5.out BK521.out (by decide)))) _).trans (hHeld.2))))))))⟩ (fun hHeld => ?_)
          clear hK K
          refine done_ (done_of HT_.out (by kernel_rfl)) ?_
          try go_wp2
          go_loopg [10] kj14 (fun kq v10 w' => ∃ (x10_3 : Int) (x522001_3 : Int) (x522003_3 : List (S35)) (u522003 : Value), v10 = .int .i64 x10_3 ∧ Aside0 (lot_read.l0 kq t515 x10_3 (rd t504 0) x522001_3 (rd t504 1) x522003_3 = some (r1, r2, r3, r4, r5)) ∧ Aside0 (kq ≤ kj14) ∧ Aside0 (Kd.R (Kd.int .i64) 3 w' w.heap.size (fun _ => True) v517 t515) ∧ Aside0 (Kd.R k35 35 w' w.heap.size (fun _ => True) u522003 x522003_3) ∧ Aside0 (w'.heap[gb493]? = some (.cells #[.int .i64 0, .int .i64 0, .int .i64 0, (.slice none 0 0)] 33 (0, 0))) ∧ Aside0 (w'.heap[gb521]? = some (.cells #[.int .i64 (rd t504 0), .int .i64 x522001_3, .int .i64 (rd t504 1), u522003] 33 (0, 0))) ∧ Aside0 (Below w.heap.size w w'))
          case atStart => exact ⟨(0), (0), (([] : List (S35))), (.slice none 0 0), (by first | rfl | (simp; done) | (simp [*]; done)), H', ⟨Nat.le_refl _⟩, ⟨by (with_reducible repeat (first | apply Kd.R_alloc | apply Kd.R_drewN | apply Kd.R_drew)); exact Kd.R_mono (Kd.R_far (p := ⟨gb521, 3, none⟩) (Kd.R_far (p := ⟨gb521, 2, none⟩) (Kd.R_far (p := ⟨gb521, 1, none⟩) (Kd.R_far (p := ⟨gb521, 0, none⟩) (Kd.R_types HO_7.out BK521.out (by decide)) (fun _ hk => hk.2) (.int .i64 (rd t504 0))) (fun _ hk => hk.2) (.int .i64 0)) (fun _ hk => hk.2) (.int .i64 (rd t504 1))) (fun _ hk => hk.2) (.slice none 0 0)) (fun _ hk => trivial)⟩, ⟨by first | exact Kd.R_nil _ _ _ _ _ | exact Kd.N_nil _ _ _ _ _ | exact Kd.V_nil _ _ _ _ _ | exact Kd.Q_nil _ _ _ _ _ | exact Kd.S_nil _ _ _ _ _⟩, ⟨by (with_reducible repeat (first | refine blk_drewN ?_ _ | refine blk_drew ?_ | refine blk_alloc ?_ _)); refine blk_far ?_ NB493_521.out _; (with_reducible repeat (first | refine blk_drewN ?_ _ | refine blk_drew ?_ | refine blk_alloc ?_ _)); refine blk_far ?_ NB493_521.out _; (with_reducible repeat (first | refine blk_drewN ?_ _ | refine blk_drew ?_ | refine blk_alloc ?_ _)); refine blk_far ?_ NB493_521.out _; (with_reducible repeat (first | refine blk_drewN ?_ _ | refine blk_drew ?_ | refine blk_alloc ?_ _)); refine blk_far ?_ NB493_521.out _; (with_reducible repeat (first | refine blk_drewN ?_ _ | refine blk_drew ?_ | refine blk_alloc ?_ _)); exact BK493.out⟩, ⟨by (with_reducible repeat (first | refine blk_drewN ?_ _ | refine blk_drew ?_ | refine blk_alloc ?_ _)); refine blk_put (cs := #[.int .i64 (rd t504 0), .int .i64 0, .int .i64 (rd t504 1), .slice none 0 0]) ?_ 3 _ rfl; (with_reducible repeat (first | refine blk_drewN ?_ _ | refine blk_drew ?_ | refine blk_alloc ?_ _)); refine blk_put (cs := #[.int .i64 (rd t504 0), .int .i64 0, .int .i64 0, .slice none 0 0]) ?_ 2 _ rfl; (with_reducible repeat (first | refine blk_drewN ?_ _ | refine blk_drew ?_ | refine blk_alloc ?_ _)); refine blk_put (cs := #[.int .i64 (rd t504 0), .int .i64 0, .int .i64 0, .slice none 0 0]) ?_ 1 _ rfl; (with_reducible repeat (first | refine blk_drewN ?_ _ | refine blk_drew ?_ | refine blk_alloc ?_ _)); refine blk_put (cs := #[.int .i64 0, .int .i64 0, .int .i64 0, .slice none 0 0]) ?_ 0 _ rfl; (with_reducible repeat (first | refine blk_drewN ?_ _ | refine blk_drew ?_ | refine blk_alloc ?_ _)); exact BK521.out⟩, ⟨by repeat (first | (with_reducible first | exact HB.out | apply below_alloc | apply pw_below_drewN | apply below_drew1 | refine below_set ?_ GE493.out | refine below_set ?_ GE521.out) | exact HB.out)⟩⟩
          case round =>
           clear H'
           try clear c1
           try clear q1
           try clear c2
           try clear p2
           try clear q2
           try clear c3
           try clear c5
           try clear p5
           try clear q5
           try clear hx5
           try clear qi5
           try clear c6
           try clear c6b0
           try clear c6b1
           try clear c9
           try clear c11
           try clear c11b0
           try clear c11b1
           try clear c13
           try clear c13b0
           try clear q16
           try clear c22
           try clear q22
           try clear c27
           try clear c28
           try clear c30
           try clear c30b0
           try clear c30b1
           try clear c31
           try clear c31b0
           try clear c31b1
           try clear hcz10_0
           try clear hcz10_1
           try clear hcz10_2
           try clear hcz10_3
           try clear hcz29_0
           try clear hcz29_1
           try clear hcz29_2
           try clear hcz29_3
           try clear hfz10_0
           try clear hfz10_1
           try clear hfz10_2
           try clear hfz10_3
           try clear hfz29_0
           try clear hfz29_1
           try clear hfz29_2
           try clear hfz29_3
           try clear hx519_0
           try clear hx520_0
           try clear p2
           try clear p519
           try clear p520
           try clear q1
           try clear q16
           try clear q2
           try clear q22
           try clear q519
           try clear q520
           obtain ⟨x10_3, x522001_3, x522003_3, u522003, rfl, HA, HK3, HO_7, HO_522003, BK493, BK521, HB⟩ := hrel
           cases gk with
           | zero => exact absurd HA.out (by simp [lot_read.l0])
           | succ k3 =>
            have H := HA.out
            clear HA
            simp only [lot_read.l0] at H
            by_cases c39 : x10_3 < (t515.length : Int)
            ·
             rw [if_pos c39] at H
             have c39b0 : decide (x10_3 < (t515.length : Int)) = true := decide_eq_true c39
             clear c39
             by_cases c40 : 0 ≤ x10_3
             ·
              rw [if_pos c40] at H
              have c40b0 : decide (0 ≤ x10_3) = true := decide_eq_true c40
              clear c40
              obtain ⟨ji41, hji41⟩ : ∃ j_ : Int, (wrap64 (x10_3 + 1)) = j_ := ⟨_, rfl⟩
              replace H : (if 0 ≤ (ji41) then (if (ji41) < (t515.length : Int) then (if x522003_3.length < 8796093022208 then (lot_read.l0 k3 t515 (wrap64 (x10_3 + 2)) (rd t504 0) (wrap64 (x522001_3 + (rd t515 (ji41)))) (rd t504 1) (x522003_3 ++ [(⟨rd t515 x10_3, rd t515 (ji41)⟩ : S35)])) else (none)) else (none)) else (none)) = some (r1, r2, r3, r4, r5) := by first | (rw [hji41] at H; exact H) | (simp only [hji41] at H ⊢; exact H)
              have hji41w : (IntKind.i64.wrap (x10_3 + 1)) = ji41 := (i64_w _).trans hji41
              by_cases c42 : 0 ≤ (ji41)
              ·
               rw [if_pos c42] at H
               have c42b0 : decide (0 ≤ (ji41)) = true := decide_eq_true c42
               clear c42
               by_cases c43 : (ji41) < (t515.length : Int)
               ·
                rw [if_pos c43] at H
                have c43b0 : decide ((ji41) < (t515.length : Int)) = true := decide_eq_true c43
                clear c43
                by_cases c44 : x522003_3.length < 8796093022208
                ·
                 rw [if_pos c44] at H
                 have LMc44 := Aside0.mk c44
                 clear c44
                 obtain ⟨y524, hy524⟩ : ∃ y_ : List (S35), y_ = (x522003_3 ++ [(⟨rd t515 x10_3, rd t515 (ji41)⟩ : S35)]) := ⟨_, rfl⟩
                 replace H : (lot_read.l0 k3 t515 (wrap64 (x10_3 + 2)) (rd t504 0) (wrap64 (x522001_3 + (rd t515 (ji41)))) (rd t504 1) y524) = some (r1, r2, r3, r4, r5) := by first | (rw [hy524]; with_reducible exact H) | (have H2_ := (Option.bind_some _ _).symm.trans H; rw [hy524]; with_reducible exact H2_) | (have H2_ := (Option.bind_some _ _).symm.trans H; with_reducible exact H2_) | with_reducible exact H | (rw [hy524]; exact H) | exact H
                 have Ny524 := Aside0.mk hy524
                 clear hy524
                 have H' := Aside0.mk H
                 clear H
                 obtain ⟨Ao45, co45, eo45⟩ := Kd.R_slice HO_7.out
                 subst eo45
                 try go_wp2
                 have n0_ := Aside0.mk (Kd.R_drew HO_7.out)
                 have n1_ := Aside0.mk (Kd.R_drew HO_522003.out)
                 have n2_ := Aside0.mk (blk_drew BK493.out)
                 have n3_ := Aside0.mk (blk_drew BK521.out)
                 have n4_ := Aside0.mk (below_drew1 HB.out)
                 clear HO_7
                 clear HO_522003
                 clear BK493
                 clear BK521
                 clear HB
                 have HO_7 := n0_
                 have HO_522003 := n1_
                 have BK493 := n2_
                 have BK521 := n3_
                 have HB := n4_
                 clear n0_ n1_ n2_ n3_ n4_
                 have p522 : 0 ≤ (x10_3 : Int) := of_decide_eq_true (by first | (with_reducible assumption) | assumption)
                 have q522 : x10_3 < (t515.length : Int) := of_decide_eq_true (by first | (with_reducible assumption) | assumption)
                 obtain ⟨ad522, e522, hx522_0⟩ := Kd.at_int (Kd.R_reads' HO_7.out).2.2 x10_3 p522 q522
                 cases e522
                 replace p522 := eq_true p522
                 replace q522 := eq_true q522
                 have p523 : 0 ≤ ((ji41) : Int) := of_decide_eq_true (by first | (with_reducible assumption) | assumption)
                 have q523 : (ji41) < (t515.length : Int) := of_decide_eq_true (by first | (with_reducible assumption) | assumption)
                 obtain ⟨ad523, e523, hx523_0⟩ := Kd.at_int (Kd.R_reads' HO_7.out).2.2 (ji41) p523 q523
                 obtain rfl : ad522 = ad523 := (by injection e523)
                 replace p523 := eq_true p523
                 replace q523 := eq_true q523
                 refine start_ (n := 16) (S := fun w' => w'.cell? ⟨gb521, 0, none⟩ = some (.int .i64 (rd t504 0)) ∧ w'.cell? ⟨gb521, 1, none⟩ = some (.int .i64 x522001_3) ∧ w'.cell? ⟨gb521, 2, none⟩ = some (.int .i64 (rd t504 1)) ∧ w'.cell? ⟨gb521, 3, none⟩ = some (u522003) ∧ w'.cell? (ad522.add (x10_3).toNat) = some (.int .i64 (rd t515 x10_3)) ∧ w'.cell? (ad522.add ((ji41)).toNat) = some (.int .i64 (rd t515 (ji41)))) (ds := [13, 15]) #[false, false, false, false, false, false, false, false, false, false, false, false, false, false, false, false] (by kernel_rfl) rfl rfl ⟨(blk_cell BK521.out 0).trans rfl, (blk_cell BK521.out 1).trans rfl, (blk_cell BK521.out 2).trans rfl, (blk_cell BK521.out 3).trans rfl, hx522_0, hx523_0⟩ (fun hHeld => ?_); refine with_tabW lot_read.tab12 lot_read.bits12 (fun HT_ HW_ => ?_)
                 generalize wr.drew = w46 at HO_7 HO_522003 BK493 BK521 HB hx522_0 hx523_0 hHeld ⊢
                 refine pure_ (i := 0) (N := some 58) (v := ?_) (a' := ?_) #[true, false, false, false, false, false, false, false, false, false, false, false, false, false, false, false] rfl rfl (any_of HT_.out (by kernel_rfl)) (fun _ _ _ h => h) (Or.inl ⟨by rfl, ?_⟩) ?_ ?_
                 rotate_left
                 ·
                  intro w'
                  go_simp
                  with_reducible rfl
                 rotate_left
                 ·
                  simp only [Act.put, List.setIfInBounds_toArray, List.set_cons_zero, List.set_cons_succ, i64_w, i32_w]
                  rfl
                 refine pure_ (i := 2) (N := some 60) (v := ?_) (a' := ?_) #[true, false, true, false, false, false, false, false, false, false, false, false, false, false, false, false] rfl rfl (any_of HT_.out (by kernel_rfl)) (fun _ _ _ h => h) (Or.inl ⟨by rfl, ?_⟩) ?_ ?_
                 rotate_left
                 ·
                  intro w'
                  go_simp
                  with_reducible rfl
                 rotate_left
                 ·
                  simp only [Act.put, List.setIfInBounds_toArray, List.set_cons_zero, List.set_cons_succ, i64_w, i32_w]
                  rfl
                 refine pure_ (i := 3) (N := some 61) (v := ?_) (a' := ?_) #[true, false, true, true, false, false, false, false, false, false, false, false, false, false, false, false] rfl rfl (any_of HT_.out (by kernel_rfl)) (fun _ _ _ h => h) (Or.inl ⟨by rfl, ?_⟩) ?_ ?_
                 rotate_left
                 ·
                  intro w'
                  go_simp
                  with_reducible rfl
                 rotate_left
                 ·
                  simp only [Act.put, List.setIfInBounds_toArray, List.set_cons_zero, List.set_cons_succ, i64_w, i32_w]
                  rfl
                 refine pure_ (i := 4) (N := some 62) (v := ?_) (a' := ?_) #[true, false, true, true, true, false, false, false, false, false, false, false, false, false, false, false] rfl rfl (any_of HT_.out (by kernel_rfl)) (fun _ _ _ h => h) (Or.inl ⟨by rfl, ?_⟩) ?_ ?_
                 rotate_left
                 ·
                  intro w'
                  go_simp
                  with_reducible rfl
                 rotate_left
                 ·
                  simp only [Act.put, List.setIfInBounds_toArray, List.set_cons_zero, List.set_cons_succ, i64_w, i32_w]
                  rfl
                 refine pure_ (i := 6) (N := some 64) (v := ?_) (a' := ?_) #[true, false, true, true, true, false, true, false, false, false, false, false, false, false, false, false] rfl rfl (any_of HT_.out (by kernel_rfl)) (fun _ _ _ h => h) (Or.inl ⟨by rfl, ?_⟩) ?_ ?_
                 rotate_left
                 ·
                  intro w'
                  go_simp
                  with_reducible rfl
                 rotate_left
                 ·
                  simp only [Act.put, List.setIfInBounds_toArray, List.set_cons_zero, List.set_cons_succ, i64_w, i32_w]
                  rfl
                 refine pure_ (i := 7) (N := some 65) (v := ?_) (a' := ?_) #[true, false, true, true, true, false, true, true, false, false, false, false, false, false, false, false] rfl rfl (any_of HT_.out (by kernel_rfl)) (fun _ _ _ h => h) (Or.inl ⟨by rfl, ?_⟩) ?_ ?_
                 rotate_left
                 ·
                  intro w'
                  go_simp
                  with_reducible rfl
                 rotate_left
                 ·
                  simp only [Act.put, List.setIfInBounds_toArray, List.set_cons_zero, List.set_cons_succ, i64_w, i32_w]
                  rfl
                 refine pure_ (i := 8) (N := some 66) (v := ?_) (a' := ?_) #[true, false, true, true, true, false, true, true, true, false, false, false, false, false, false, false] rfl rfl (any_of HT_.out (by kernel_rfl)) (fun _ _ _ h => h) (Or.inl ⟨by rfl, ?_⟩) ?_ ?_
                 rotate_left
                 ·
                  intro w'
                  go_simp
                  with_reducible rfl
                 rotate_left
                 ·
                  simp only [Act.put, List.setIfInBounds_toArray, List.set_cons_zero, List.set_cons_succ, i64_w, i32_w]
                  rfl
                 refine pure_ (i := 9) (N := some 67) (v := ?_) (a' := ?_) #[true, false, true, true, true, false, true, true, true, true, false, false, false, false, false, false] rfl rfl (any_of HT_.out (by kernel_rfl)) (fun _ _ _ h => h) (Or.inl ⟨by rfl, ?_⟩) ?_ ?_
                 rotate_left
                 ·
                  intro w'
                  go_simp
                  with_reducible rfl
                 rotate_left
                 ·
                  simp only [Act.put, List.setIfInBounds_toArray, List.set_cons_zero, List.set_cons_succ, i64_w, i32_w]
                  rfl
                 refine take_ (i := 1) (N := some 59) (v := ?_) (a' := ?_) #[true, true, true, true, true, false, true, true, true, true, false, false, false, false, false, false] rfl rfl (take_ofW HT_.out HW_.out (by kernel_rfl)) (fun _ _ _ h => h) (Or.inl ⟨by rfl, ?_⟩) hHeld ?_ ?_
                 rotate_left
                 ·
                  rintro w' ⟨s0, s1, s2, s3, s4, s5⟩
                  go_simp
                  with_reducible rfl
                 rotate_left
                 ·
                  simp only [Act.put, List.setIfInBounds_toArray, List.set_cons_zero, List.set_cons_succ, i64_w, i32_w]
                  rfl
                 refine take_ (i := 5) (N := some 63) (v := ?_) (a' := ?_) #[true, true, true, true, true, true, true, true, true, true, false, false, false, false, false, false] rfl rfl (take_ofW HT_.out HW_.out (by kernel_rfl)) (fun _ _ _ h => h) (Or.inl ⟨by rfl, ?_⟩) hHeld ?_ ?_
                 rotate_left
                 ·
                  rintro w' ⟨s0, s1, s2, s3, s4, s5⟩
                  go_simp
                  with_reducible rfl
                 rotate_left
                 ·
                  simp only [Act.put, List.setIfInBounds_toArray, List.set_cons_zero, List.set_cons_succ, i64_w, i32_w]
                  rfl
                 refine take_ (i := 10) (N := some 68) (v := ?_) (a' := ?_) #[true, true, true, true, true, true, true, true, true, true, true, false, false, false, false, false] rfl rfl (take_ofW HT_.out HW_.out (by kernel_rfl)) (fun _ _ _ h => h) (Or.inl ⟨by rfl, ?_⟩) hHeld ?_ ?_
                 rotate_left
                 ·
                  rintro w' ⟨s0, s1, s2, s3, s4, s5⟩
                  go_simp
                  with_reducible rfl
                 rotate_left
                 ·
                  simp only [Act.put, List.setIfInBounds_toArray, List.set_cons_zero, List.set_cons_succ, i64_w, i32_w]
                  rfl
                 refine pure_ (i := 11) (N := some 69) (v := ?_) (a' := ?_) #[true, true, true, true, true, true, true, true, true, true, true, true, false, false, false, false] rfl rfl (any_of HT_.out (by kernel_rfl)) (fun _ _ _ h => h) (Or.inl ⟨by rfl, ?_⟩) ?_ ?_
                 rotate_left
                 ·
                  intro w'
                  go_simp
                  with_reducible rfl
                 rotate_left
                 ·
                  simp only [Act.put, List.setIfInBounds_toArray, List.set_cons_zero, List.set_cons_succ, i64_w, i32_w]
                  rfl
                 refine one_ (i := 12) (N := some 70) #[true, true, true, true, true, true, true, true, true, true, true, true, true, false, false, false] rfl rfl (one_of HT_.out (by kernel_rfl)) (by decide) (fun K hK => ?_)
                 refine value_ (w1 := ?_) (v := ?_) (by rfl) rfl ?_ ?_
                 rotate_left 2
                 ·
                  go_simp
                  constructor
                  ·
                   rfl
                  ·
                   rfl
                 refine hK.out _ _ ⟨(blk_cell (blk_alloc BK521.out _) 0).trans rfl, (blk_cell (blk_alloc BK521.out _) 1).trans rfl, (blk_cell (blk_alloc BK521.out _) 2).trans rfl, (blk_cell (blk_alloc BK521.out _) 3).trans rfl, (World.cell?_alloc_lt _ _ _ (World.block_lt_of_cell? _ _ (hHeld.2.2.2.2.1))).trans (hHeld.2.2.2.2.1), (World.cell?_alloc_lt _ _ _ (World.block_lt_of_cell? _ _ (hHeld.2.2.2.2.2))).trans (hHeld.2.2.2.2.2)⟩ (fun hHeld => ?_)
                 clear hK K
                 refine norm_ (a' := ?_) ?_ ?_
                 rotate_left
                 ·
                  show Act.put _ (some 70) _ = _
                  simp only [Act.put, List.setIfInBounds_toArray, List.set_cons_zero, List.set_cons_succ, i64_w, i32_w]
                  rfl
                 refine last_ (i := 13) (N := some 71) #[true, true, true, true, true, true, true, true, true, true, true, true, true, true, false, false] rfl rfl (one_of HT_.out (by kernel_rfl)) (by decide) (fun K hK => ?_)
                 refine Kd.R_append_step k35 (w0 := w) w.heap.size (by rfl) (.tmp 59) (.tmp 70) 31 35 (.agg #[(.int .i64 0), (.int .i64 0)]) 16 rfl Tryd.underlying31 info35 rfl (by decide) (by omega) u522003 x522003_3 (⟨rd t515 x10_3, rd t515 (ji41)⟩ : S35) [.int .i64 (rd t515 x10_3), .int .i64 (rd t515 (ji41))] (fun _ => True) (fun _ => False) rfl rfl ?aP (fun _ hk => hk.elim) ?aF ?aO ?aB ?aS ?aL ?_
                 (case aP => exact k35_mkM _ _ _ (⟨rd t515 x10_3, rd t515 (ji41)⟩ : S35))
                 (case aB => exact (by repeat (first | (with_reducible first | exact HB.out | apply below_alloc | apply pw_below_drewN | apply below_drew1 | refine below_set ?_ GE493.out | refine below_set ?_ GE521.out) | exact HB.out)))
                 (case aF => exact (fun _ _ => trivial))
                 (case aO => exact (by (with_reducible repeat (first | apply Kd.R_alloc | apply Kd.R_drewN | apply Kd.R_drew)); exact HO_522003.out))
                 (case aS => exact (below_size (by repeat (first | (with_reducible first | exact HB.out | apply below_alloc | apply pw_below_drewN | apply below_drew1 | refine below_set ?_ GE493.out | refine below_set ?_ GE521.out) | exact HB.out))))
                 (case aL => have := LMc44.out; omega)
                 intro v525 w47 ho hb hg hat
                 rw [← Ny524.out] at ho
                 have n0_ := Aside0.mk (Kd.R_over' (by (with_reducible repeat (first | apply Kd.R_alloc | apply Kd.R_drewN | apply Kd.R_drew)); exact HO_7.out) (Kd.R_typed (by (with_reducible repeat (first | apply Kd.R_alloc | apply Kd.R_drewN | apply Kd.R_drew)); exact HO_522003.out)) (by decide) hg)
                 have n1_ := Aside0.mk (blk_grown (g := gb493) (o := .cells #[.int .i64 0, .int .i64 0, .int .i64 0, .slice none 0 0] 33 (0, 0)) (by (with_reducible repeat (first | refine blk_drewN ?_ _ | refine blk_drew ?_ | refine blk_alloc ?_ _)); exact BK493.out) hg (Kd.R_ne HO_522003.out BK493.out (by decide)))
                 have n2_ := Aside0.mk (blk_grown (g := gb521) (o := .cells #[.int .i64 (rd t504 0), .int .i64 x522001_3, .int .i64 (rd t504 1), u522003] 33 (0, 0)) (by (with_reducible repeat (first | refine blk_drewN ?_ _ | refine blk_drew ?_ | refine blk_alloc ?_ _)); exact BK521.out) hg (Kd.R_ne HO_522003.out BK521.out (by decide)))
                 have n3_ := Aside0.mk (hb)
                 have n4_ := Aside0.mk (ho)
                 clear HO_7
                 clear BK493
                 clear BK521
                 clear HB
                 clear HO_522003
                 have HO_7 := n0_
                 have BK493 := n1_
                 have BK521 := n2_
                 have HB := n3_
                 have HO526 := n4_
                 clear n0_ n1_ n2_ n3_ n4_
                 clear ho hb hg hat
                 obtain ⟨Ao48, co48, eo48⟩ := Kd.R_slice HO526.out
                 (first | subst eo48 | (injection eo48 with f1_ f2_ f3_; have f4_ := f1_.symm; have f5_ := f3_.symm; clear f1_ f2_ f3_; subst f4_; subst f5_))
                 refine hK.out _ _ ?_
                 clear hK K
                 refine norm_ (a' := ?_) ?_ ?_
                 rotate_left
                 ·
                  show Act.put _ (some 71) _ = _
                  simp only [Act.put, List.setIfInBounds_toArray, List.set_cons_zero, List.set_cons_succ, i64_w, i32_w]
                  rfl
                 refine pure_ (i := 14) (N := some 72) (v := ?_) (a' := ?_) #[true, true, true, true, true, true, true, true, true, true, true, true, true, true, true, false] rfl rfl (any_of HT_.out (by kernel_rfl)) (fun _ _ _ h => h) (Or.inl ⟨by rfl, ?_⟩) ?_ ?_
                 rotate_left
                 ·
                  intro w'
                  go_simp
                  with_reducible rfl
                 rotate_left
                 ·
                  simp only [Act.put, List.setIfInBounds_toArray, List.set_cons_zero, List.set_cons_succ, i64_w, i32_w]
                  rfl
                 refine last_ (i := 15) (N := none) #[true, true, true, true, true, true, true, true, true, true, true, true, true, true, true, true] rfl rfl (one_of HT_.out (by kernel_rfl)) (by decide) (fun K hK => ?_)
                 have hs49 : w47.cell? ⟨gb521, 3, none⟩ = some (u522003) := (blk_cell BK521.out 3).trans rfl
                 have hfs49 := blk_frozen BK521.out 3
                 have hns49_0 := NB493_521.out
                 have hms49_0 := NB521_493.out
                 refine skip_ (w1 := ?_) (by rfl) rfl ?_ ?_
                 rotate_left
                 ·
                  go_simp
                  rfl
                 refine hK.out _ _ ?_
                 clear hK K
                 refine done_ (done_of HT_.out (by kernel_rfl)) ?_
                 try go_wp2
                 have n0_ : Aside0 (Kd.R (Kd.int .i64) 3 (w47.setCell ⟨gb521, 3, none⟩ (.slice Ao48 y524.length co48)) w.heap.size (fun _ => True) (.slice (some ad522) t515.length co45) t515) := ⟨by (with_reducible repeat (first | apply Kd.R_alloc | apply Kd.R_drewN | apply Kd.R_drew)); exact Kd.R_mono (Kd.R_far (p := ⟨gb521, 3, none⟩) (Kd.R_types HO_7.out BK521.out (by decide)) (fun _ hk => hk.2) (.slice Ao48 y524.length co48)) (fun _ hk => trivial)⟩
                 have n1_ : Aside0 (Kd.R k35 35 (w47.setCell ⟨gb521, 3, none⟩ (.slice Ao48 y524.length co48)) w.heap.size (fun _ => True) (.slice Ao48 y524.length co48) y524) := ⟨by (with_reducible repeat (first | apply Kd.R_alloc | apply Kd.R_drewN | apply Kd.R_drew)); exact Kd.R_mono (Kd.R_far (p := ⟨gb521, 3, none⟩) (Kd.R_types HO526.out BK521.out (by decide)) (fun _ hk => hk.2) (.slice Ao48 y524.length co48)) (fun _ hk => trivial)⟩
                 have n2_ : Aside0 ((w47.setCell ⟨gb521, 3, none⟩ (.slice Ao48 y524.length co48)).heap[gb493]? = some (.cells #[.int .i64 0, .int .i64 0, .int .i64 0, .slice none 0 0] 33 (0, 0))) := ⟨by (with_reducible repeat (first | refine blk_drewN ?_ _ | refine blk_drew ?_ | refine blk_alloc ?_ _)); refine blk_far ?_ NB493_521.out _; (with_reducible repeat (first | refine blk_drewN ?_ _ | refine blk_drew ?_ | refine blk_alloc ?_ _)); exact BK493.out⟩
                 have n3_ : Aside0 ((w47.setCell ⟨gb521, 3, none⟩ (.slice Ao48 y524.length co48)).heap[gb521]? = some (.cells #[.int .i64 (rd t504 0), .int .i64 x522001_3, .int .i64 (rd t504 1), .slice Ao48 y524.length co48] 33 (0, 0))) := ⟨by (with_reducible repeat (first | refine blk_drewN ?_ _ | refine blk_drew ?_ | refine blk_alloc ?_ _)); refine blk_put (cs := #[.int .i64 (rd t504 0), .int .i64 x522001_3, .int .i64 (rd t504 1), u522003]) ?_ 3 _ rfl; (with_reducible repeat (first | refine blk_drewN ?_ _ | refine blk_drew ?_ | refine blk_alloc ?_ _)); exact BK521.out⟩
                 have n4_ : Aside0 (Below w.heap.size w (w47.setCell ⟨gb521, 3, none⟩ (.slice Ao48 y524.length co48))) := ⟨by repeat (first | (with_reducible first | exact HB.out | apply below_alloc | apply pw_below_drewN | apply below_drew1 | refine below_set ?_ GE493.out | refine below_set ?_ GE521.out) | exact HB.out)⟩
                 (try clear HO_7)
                 (try clear HO526)
                 (try clear BK493)
                 (try clear BK521)
                 (try clear HB)
                 generalize (w47.setCell ⟨gb521, 3, none⟩ (.slice Ao48 y524.length co48)) = w50 at n0_ n1_ n2_ n3_ n4_ ⊢
                 have HO_7 := n0_
                 have HO526 := n1_
                 have BK493 := n2_
                 have BK521 := n3_
                 have HB := n4_
                 clear n0_ n1_ n2_ n3_ n4_
                 have n0_ := Aside0.mk (Kd.R_drew HO_7.out)
                 have n1_ := Aside0.mk (Kd.R_drew HO526.out)
                 have n2_ := Aside0.mk (blk_drew BK493.out)
                 have n3_ := Aside0.mk (blk_drew BK521.out)
                 have n4_ := Aside0.mk (below_drew1 HB.out)
                 clear HO_7
                 clear HO526
                 clear BK493
                 clear BK521
                 clear HB
                 have HO_7 := n0_
                 have HO526 := n1_
                 have BK493 := n2_
                 have BK521 := n3_
                 have HB := n4_
                 clear n0_ n1_ n2_ n3_ n4_
                 have p527 : 0 ≤ ((ji41) : Int) := of_decide_eq_true (by first | (with_reducible assumption) | assumption)
                 have q527 : (ji41) < (t515.length : Int) := of_decide_eq_true (by first | (with_reducible assumption) | assumption)
                 obtain ⟨ad527, e527, hx527_0⟩ := Kd.at_int (Kd.R_reads' HO_7.out).2.2 (ji41) p527 q527
                 obtain rfl : ad522 = ad527 := (by injection e527)
                 replace p527 := eq_true p527
                 replace q527 := eq_true q527
                 refine start_ (n := 12) (S := fun w' => w'.cell? ⟨gb521, 0, none⟩ = some (.int .i64 (rd t504 0)) ∧ w'.cell? ⟨gb521, 1, none⟩ = some (.int .i64 x522001_3) ∧ w'.cell? ⟨gb521, 2, none⟩ = some (.int .i64 (rd t504 1)) ∧ w'.cell? ⟨gb521, 3, none⟩ = some (.slice Ao48 y524.length co48) ∧ w'.cell? (ad522.add ((ji41)).toNat) = some (.int .i64 (rd t515 (ji41)))) (ds := [11]) #[false, false, false, false, false, false, false, false, false, false, false, false] (by kernel_rfl) rfl rfl ⟨(blk_cell BK521.out 0).trans rfl, (blk_cell BK521.out 1).trans rfl, (blk_cell BK521.out 2).trans rfl, (blk_cell BK521.out 3).trans rfl, hx527_0⟩ (fun hHeld => ?_); refine with_tabW lot_read.tab13 lot_read.bits13 (fun HT_ HW_ => ?_)
                 generalize w50.drew = w51 at HO_7 HO526 BK493 BK521 HB hx527_0 hHeld ⊢
                 refine pure_ (i := 0) (N := some 73) (v := ?_) (a' := ?_) #[true, false, false, false, false, false, false, false, false, false, false, false] rfl rfl (any_of HT_.out (by kernel_rfl)) (fun _ _ _ h => h) (Or.inl ⟨by rfl, ?_⟩) ?_ ?_
                 rotate_left
                 ·
                  intro w'
                  go_simp
                  with_reducible rfl
                 rotate_left
                 ·
                  simp only [Act.put, List.setIfInBounds_toArray, List.set_cons_zero, List.set_cons_succ, i64_w, i32_w]
                  rfl
                 refine pure_ (i := 1) (N := some 74) (v := ?_) (a' := ?_) #[true, true, false, false, false, false, false, false, false, false, false, false] rfl rfl (any_of HT_.out (by kernel_rfl)) (fun _ _ _ h => h) (Or.inl ⟨by rfl, ?_⟩) ?_ ?_
                 rotate_left
                 ·
                  intro w'
                  go_simp
                  with_reducible rfl
                 rotate_left
                 ·
                  simp only [Act.put, List.setIfInBounds_toArray, List.set_cons_zero, List.set_cons_succ, i64_w, i32_w]
                  rfl
                 refine pure_ (i := 3) (N := some 76) (v := ?_) (a' := ?_) #[true, true, false, true, false, false, false, false, false, false, false, false] rfl rfl (any_of HT_.out (by kernel_rfl)) (fun _ _ _ h => h) (Or.inl ⟨by rfl, ?_⟩) ?_ ?_
                 rotate_left
                 ·
                  intro w'
                  go_simp
                  with_reducible rfl
                 rotate_left
                 ·
                  simp only [Act.put, List.setIfInBounds_toArray, List.set_cons_zero, List.set_cons_succ, i64_w, i32_w]
                  rfl
                 refine pure_ (i := 4) (N := some 77) (v := ?_) (a' := ?_) #[true, true, false, true, true, false, false, false, false, false, false, false] rfl rfl (any_of HT_.out (by kernel_rfl)) (fun _ _ _ h => h) (Or.inl ⟨by rfl, ?_⟩) ?_ ?_
                 rotate_left
                 ·
                  intro w'
                  go_simp
                  with_reducible rfl
                 rotate_left
                 ·
                  simp only [Act.put, List.setIfInBounds_toArray, List.set_cons_zero, List.set_cons_succ, i64_w, i32_w]
                  rfl
                 refine pure_ (i := 5) (N := some 78) (v := ?_) (a' := ?_) #[true, true, false, true, true, true, false, false, false, false, false, false] rfl rfl (any_of HT_.out (by kernel_rfl)) (fun _ _ _ h => h) (Or.inl ⟨by rfl, ?_⟩) ?_ ?_
                 rotate_left
                 ·
                  intro w'
                  go_simp
                  with_reducible rfl
                 rotate_left
                 ·
                  simp only [Act.put, List.setIfInBounds_toArray, List.set_cons_zero, List.set_cons_succ, i64_w, i32_w]
                  rfl
                 refine pure_ (i := 6) (N := some 79) (v := ?_) (a' := ?_) #[true, true, false, true, true, true, true, false, false, false, false, false] rfl rfl (any_of HT_.out (by kernel_rfl)) (fun _ _ _ h => h) (Or.inl ⟨by rfl, ?_⟩) ?_ ?_
                 rotate_left
                 ·
                  intro w'
                  go_simp
                  with_reducible rfl
                 rotate_left
                 ·
                  simp only [Act.put, List.setIfInBounds_toArray, List.set_cons_zero, List.set_cons_succ, i64_w, i32_w]
                  rfl
                 refine take_ (i := 2) (N := some 75) (v := ?_) (a' := ?_) #[true, true, true, true, true, true, true, false, false, false, false, false] rfl rfl (take_ofW HT_.out HW_.out (by kernel_rfl)) (fun _ _ _ h => h) (Or.inl ⟨by rfl, ?_⟩) hHeld ?_ ?_
                 rotate_left
                 ·
                  rintro w' ⟨s0, s1, s2, s3, s4⟩
                  go_simp
                  with_reducible rfl
                 rotate_left
                 ·
                  simp only [Act.put, List.setIfInBounds_toArray, List.set_cons_zero, List.set_cons_succ, i64_w, i32_w]
                  rfl
                 refine take_ (i := 7) (N := some 80) (v := ?_) (a' := ?_) #[true, true, true, true, true, true, true, true, false, false, false, false] rfl rfl (take_ofW HT_.out HW_.out (by kernel_rfl)) (fun _ _ _ h => h) (Or.inl ⟨by rfl, ?_⟩) hHeld ?_ ?_
                 rotate_left
                 ·
                  rintro w' ⟨s0, s1, s2, s3, s4⟩
                  go_simp
                  with_reducible rfl
                 rotate_left
                 ·
                  simp only [Act.put, List.setIfInBounds_toArray, List.set_cons_zero, List.set_cons_succ, i64_w, i32_w]
                  rfl
                 refine pure_ (i := 8) (N := some 81) (v := ?_) (a' := ?_) #[true, true, true, true, true, true, true, true, true, false, false, false] rfl rfl (any_of HT_.out (by kernel_rfl)) (fun _ _ _ h => h) (Or.inl ⟨by rfl, ?_⟩) ?_ ?_
                 rotate_left
                 ·
                  intro w'
                  go_simp
                  with_reducible rfl
                 rotate_left
                 ·
                  simp only [Act.put, List.setIfInBounds_toArray, List.set_cons_zero, List.set_cons_succ, i64_w, i32_w]
                  rfl
                 refine pure_ (i := 9) (N := some 82) (v := ?_) (a' := ?_) #[true, true, true, true, true, true, true, true, true, true, false, false] rfl rfl (any_of HT_.out (by kernel_rfl)) (fun _ _ _ h => h) (Or.inl ⟨by rfl, ?_⟩) ?_ ?_
                 rotate_left
                 ·
                  intro w'
                  go_simp
                  with_reducible rfl
                 rotate_left
                 ·
                  simp only [Act.put, List.setIfInBounds_toArray, List.set_cons_zero, List.set_cons_succ, i64_w, i32_w]
                  rfl
                 refine pure_ (i := 10) (N := some 83) (v := ?_) (a' := ?_) #[true, true, true, true, true, true, true, true, true, true, true, false] rfl rfl (any_of HT_.out (by kernel_rfl)) (fun _ _ _ h => h) (Or.inl ⟨by rfl, ?_⟩) ?_ ?_
                 rotate_left
                 ·
                  intro w'
                  go_simp
                  with_reducible rfl
                 rotate_left
                 ·
                  simp only [Act.put, List.setIfInBounds_toArray, List.set_cons_zero, List.set_cons_succ, i64_w, i32_w]
                  rfl
                 refine last_ (i := 11) (N := none) #[true, true, true, true, true, true, true, true, true, true, true, true] rfl rfl (one_of HT_.out (by kernel_rfl)) (by decide) (fun K hK => ?_)
                 have hs52 : w51.cell? ⟨gb521, 1, none⟩ = some (.int .i64 x522001_3) := (blk_cell BK521.out 1).trans rfl
                 have hfs52 := blk_frozen BK521.out 1
                 have hns52_0 := NB493_521.out
                 have hms52_0 := NB521_493.out
                 refine skip_ (w1 := ?_) (by rfl) rfl ?_ ?_
                 rotate_left
                 ·
                  go_simp
                  rfl
                 refine hK.out _ _ ?_
                 clear hK K
                 refine done_ (done_of HT_.out (by kernel_rfl)) ?_
                 try go_wp2
                 go_roundg k3
                 case measure => have := HJ2.out; have := HJ14.out; have := HK3.out; omega
                 case rel => exact ⟨(wrap64 (x10_3 + 2)), (wrap64 (x522001_3 + (rd t515 (ji41)))), (y524), (.slice Ao48 y524.length co48), (by first | rfl | (simp; done) | (simp [*]; done)), H', ⟨by have := HJ2.out; have := HJ14.out; have := HK3.out; omega⟩, ⟨by (with_reducible repeat (first | apply Kd.R_alloc | apply Kd.R_drewN | apply Kd.R_drew)); exact Kd.R_mono (Kd.R_far (p := ⟨gb521, 1, none⟩) (Kd.R_types HO_7.out BK521.out (by decide)) (fun _ hk => hk.2) (.int .i64 (wrap64 (x522001_3 + (rd t515 (ji41)))))) (fun _ hk => trivial)⟩, ⟨by (with_reducible repeat (first | apply Kd.R_alloc | apply Kd.R_drewN | apply Kd.R_drew)); exact Kd.R_mono (Kd.R_far (p := ⟨gb521, 1, none⟩) (Kd.R_types HO526.out BK521.out (by decide)) (fun _ hk => hk.2) (.int .i64 (wrap64 (x522001_3 + (rd t515 (ji41)))))) (fun _ hk => trivial)⟩, ⟨by (with_reducible repeat (first | refine blk_drewN ?_ _ | refine blk_drew ?_ | refine blk_alloc ?_ _)); refine blk_far ?_ NB493_521.out _; (with_reducible repeat (first | refine blk_drewN ?_ _ | refine blk_drew ?_ | refine blk_alloc ?_ _)); exact BK493.out⟩, ⟨by (with_reducible repeat (first | refine blk_drewN ?_ _ | refine blk_drew ?_ | refine blk_alloc ?_ _)); refine blk_put (cs := #[.int .i64 (rd t504 0), .int .i64 x522001_3, .int .i64 (rd t504 1), .slice Ao48 y524.length co48]) ?_ 1 _ rfl; (with_reducible repeat (first | refine blk_drewN ?_ _ | refine blk_drew ?_ | refine blk_alloc ?_ _)); exact BK521.out⟩, ⟨by repeat (first | (with_reducible first | exact HB.out | apply below_alloc | apply pw_below_drewN | apply below_drew1 | refine below_set ?_ GE493.out | refine below_set ?_ GE521.out) | exact HB.out)⟩⟩
                ·
                 rw [if_neg c44] at H
                 exact absurd H (by simp)
               ·
                rw [if_neg c43] at H
                exact absurd H (by simp)
              ·
               rw [if_neg c42] at H
               exact absurd H (by simp)
             ·
              rw [if_neg c40] at H
              exact absurd H (by simp)
            ·
             rw [if_neg c39] at H
             have c39b0 : decide (x10_3 < (t515.length : Int)) = false := decide_eq_false c39
             clear c39
             simp only [Option.some.injEq, Prod.mk.injEq] at H
             obtain ⟨rfl, rfl, rfl, rfl, rfl⟩ := H
             obtain ⟨Ao53, co53, eo53⟩ := Kd.R_slice HO_7.out
             subst eo53
             have hnb54 := NB521_493.out
             have hnc54 := NB493_521.out
             have hcz55_0 : wr.cell? ⟨gb521, 0, none⟩ = some (.int .i64 (rd t504 0)) := (blk_cell BK521.out 0).trans rfl
             have hcz55_1 : wr.cell? ⟨gb521, 1, none⟩ = some (.int .i64 x522001_3) := (blk_cell BK521.out 1).trans rfl
             have hcz55_2 : wr.cell? ⟨gb521, 2, none⟩ = some (.int .i64 (rd t504 1)) := (blk_cell BK521.out 2).trans rfl
             have hcz55_3 : wr.cell? ⟨gb521, 3, none⟩ = some (u522003) := (blk_cell BK521.out 3).trans rfl
             have hfz55_0 := blk_frozen BK521.out 0
             have hfz55_1 := blk_frozen BK521.out 1
             have hfz55_2 := blk_frozen BK521.out 2
             have hfz55_3 := blk_frozen BK521.out 3
             have hcz56_0 : wr.cell? ⟨gb493, 0, none⟩ = some (.int .i64 0) := (blk_cell BK493.out 0).trans rfl
             have hcz56_1 : wr.cell? ⟨gb493, 1, none⟩ = some (.int .i64 0) := (blk_cell BK493.out 1).trans rfl
             have hcz56_2 : wr.cell? ⟨gb493, 2, none⟩ = some (.int .i64 0) := (blk_cell BK493.out 2).trans rfl
             have hcz56_3 : wr.cell? ⟨gb493, 3, none⟩ = some (.slice none 0 0) := (blk_cell BK493.out 3).trans rfl
             have hfz56_0 := blk_frozen BK493.out 0
             have hfz56_1 := blk_frozen BK493.out 1
             have hfz56_2 := blk_frozen BK493.out 2
             have hfz56_3 := blk_frozen BK493.out 3
             obtain ⟨Ao57, co57, eo57⟩ := Kd.R_slice HO_522003.out
             subst eo57
             go_wp2
             refine bodyPost_ret (results_ct rfl _ _ gb493 33 #[.int .i64 (rd t504 0), .int .i64 x522001_3, .int .i64 (rd t504 1), .slice Ao57 x522003_3.length co57] (0, 0) _ rfl (by (with_reducible repeat (first | refine blk_drewN ?_ _ | refine blk_drew ?_ | refine blk_alloc ?_ _)); refine blk_put (cs := #[.int .i64 (rd t504 0), .int .i64 x522001_3, .int .i64 (rd t504 1), .slice none 0 0]) ?_ 3 _ rfl; (with_reducible repeat (first | refine blk_drewN ?_ _ | refine blk_drew ?_ | refine blk_alloc ?_ _)); refine blk_put (cs := #[.int .i64 (rd t504 0), .int .i64 x522001_3, .int .i64 0, .slice none 0 0]) ?_ 2 _ rfl; (with_reducible repeat (first | refine blk_drewN ?_ _ | refine blk_drew ?_ | refine blk_alloc ?_ _)); refine blk_put (cs := #[.int .i64 (rd t504 0), .int .i64 0, .int .i64 0, .slice none 0 0]) ?_ 1 _ rfl; (with_reducible repeat (first | refine blk_drewN ?_ _ | refine blk_drew ?_ | refine blk_alloc ?_ _)); refine blk_put (cs := #[.int .i64 0, .int .i64 0, .int .i64 0, .slice none 0 0]) ?_ 0 _ rfl; (with_reducible repeat (first | refine blk_drewN ?_ _ | refine blk_drew ?_ | refine blk_alloc ?_ _)); exact BK493.out) Tryd.underlying33 rfl (by kernel_rfl)) rfl ?_
             exact ⟨_, by first | rfl | (simp [errW_none, errW_some] <;> rfl) | (simp [*, errW_none, errW_some] <;> rfl), by (with_reducible repeat (first | apply Kd.R_alloc | apply Kd.R_drewN | apply Kd.R_drew)); exact Kd.R_mono (Kd.R_far (p := ⟨gb493, 3, none⟩) (Kd.R_far (p := ⟨gb493, 2, none⟩) (Kd.R_far (p := ⟨gb493, 1, none⟩) (Kd.R_far (p := ⟨gb493, 0, none⟩) (Kd.R_types HO_522003.out BK493.out (by decide)) (fun _ hk => hk.2) (.int .i64 (rd t504 0))) (fun _ hk => hk.2) (.int .i64 x522001_3)) (fun _ hk => hk.2) (.int .i64 (rd t504 1))) (fun _ hk => hk.2) (.slice Ao57 x522003_3.length co57)) (fun _ hk => trivial), by repeat (first | (with_reducible first | exact HB.out | apply below_alloc | apply pw_below_drewN | apply below_drew1 | refine below_set ?_ GE493.out | refine below_set ?_ GE521.out) | exact HB.out)⟩
         ·
          rw [if_neg c31] at H
          exact absurd H (by simp)
        ·
         rw [if_neg c30] at H
         exact absurd H (by simp)
    ·
     rw [if_neg c11] at H
     exact absurd H (by simp)
end Go.Proofs.YtgjoenoknknoiaaDoor.Pr
namespace Go.Proofs.YtgjoenoknknoiaaDoor.Pr
open Go.RowKit Go.Proofs.YtgjoenoknknoiaaDoorW.PrintWords Go.Proofs.YtgjoenoknknoiaaDoorW.PrintLast Go.Proofs.YtgjoenoknknoiaaDoorW.PrintMore Go.Proofs.YtgjoenoknknoiaaDoor.X
attribute [local go_sem] max2_int min2_int max_two min_two max_three min_three max_four min_four   -- for this text's walks alone
set_option linter.unusedVariables false
set_option linter.unusedSimpArgs false
def lot_Parse.l0 : Nat → ByteArray → List (S33) → Option ((List (S33)) × Int × Int)
 | 0, _, _ => none
 | k + 1, x0, x5 => if x0.toList = ([] : List UInt8) then ((lot_Check.f k x5).bind fun bt528 => (if bt528.2 = 0 then (some (x5, (-1), 0)) else (some (([] : List (S33)), (-1), bt528.2)))) else ((strings_Cut.f x0 (⟨#[10]⟩ : ByteArray)).bind fun bt530 => ((lot_read.f k bt530.1).bind fun bt533 => (if bt530.2.2 = true then (if bt533.2.2.2.2 = true then (if x5.length < 2932031007402 then (lot_Parse.l0 k bt530.2.1 (x5 ++ [(⟨bt533.1, (⟨bt533.2.1, bt533.2.2.1⟩ : S26), bt533.2.2.2.1⟩ : S33)])) else (none)) else (some (([] : List (S33)), (x5.length : Int), 3))) else (some (([] : List (S33)), (x5.length : Int), 3)))))
def lot_Parse.f (k : Nat) (a0 : ByteArray) : Option ((List (S33)) × Int × Int) := if (a0.size : Int) > 65536 then (some (([] : List (S33)), (-1), 8)) else (lot_Parse.l0 k a0 ([] : List (S33)))
set_option maxHeartbeats 8000000 in
set_option maxRecDepth 100000 in
theorem lot_Parse.calls (k : Nat) (a0 : ByteArray) (r1 : List (S33)) (r2 : Int) (r3 : Int) (w : World) (hG : GI w) (h : lot_Parse.f k a0 = some (r1, r2, r3)) :
  Calls Tryd.prog 32 #[.string a0] w fun e w' => ∃ v0_ : Value, e = .returned (.tuple #[v0_, .int .i64 r2, .int .i64 r3]) ∧ Kd.S k33 33 w' w.heap.size (fun _ => True) v0_ r1 ∧ Below w.heap.size w w' := by
 have hu33 := Tryd.underlying33
 have HG := Aside0.mk hG
 clear hG
 have HB := Aside0.mk (Below.refl w.heap.size w)
 have H : (if (a0.size : Int) > 65536 then (some (([] : List (S33)), (-1), 8)) else (lot_Parse.l0 k a0 ([] : List (S33)))) = some (r1, r2, r3) := h
 clear h
 by_cases c2 : (a0.size : Int) > 65536
 ·
  rw [if_pos c2] at H
  have c2b0 : decide (65536 < (a0.size : Int)) = true := decide_eq_true c2
  have c2b1 : decide (65536 < a0.size) = true := decide_eq_true (by omega)
  clear c2
  simp only [Option.some.injEq, Prod.mk.injEq] at H
  obtain ⟨rfl, rfl, rfl⟩ := H
  go_enter Tryd.func32, Tryd.ntmps32
  go_wp2
  go_ret3
  exact ⟨_, by first | rfl | (simp [errW_none, errW_some] <;> rfl) | (simp [*, errW_none, errW_some] <;> rfl), by first | exact Kd.S_nil _ _ _ _ _ | exact Kd.N_nil _ _ _ _ _ | exact Kd.V_nil _ _ _ _ _ | exact Kd.Q_nil _ _ _ _ _ | exact Kd.R_nil _ _ _ _ _, by repeat (first | (with_reducible first | exact HB.out | apply below_alloc | apply pw_below_drewN | apply below_drew1) | exact HB.out)⟩
 ·
  rw [if_neg c2] at H
  have c2b0 : decide (65536 < (a0.size : Int)) = false := decide_eq_false c2
  have c2b1 : decide (65536 < a0.size) = false := decide_eq_false (by omega)
  clear c2
  have H' := Aside0.mk H
  clear H
  go_enter Tryd.func32, Tryd.ntmps32
  go_wp2
  go_loopg [0, 5] k (fun kq v0 v5 w' => ∃ (x0_1 : ByteArray) (x5_1 : List (S33)), v0 = .string x0_1 ∧ Aside0 (lot_Parse.l0 kq x0_1 x5_1 = some (r1, r2, r3)) ∧ Aside0 (kq ≤ k) ∧ Aside0 (Kd.S k33 33 w' w.heap.size (fun _ => True) v5 x5_1) ∧ Aside0 (Below w.heap.size w w'))
  case atStart => exact ⟨(a0), (([] : List (S33))), (by first | rfl | (simp; done) | (simp [*]; done)), H', ⟨Nat.le_refl _⟩, ⟨by first | exact Kd.S_nil _ _ _ _ _ | exact Kd.N_nil _ _ _ _ _ | exact Kd.V_nil _ _ _ _ _ | exact Kd.Q_nil _ _ _ _ _ | exact Kd.R_nil _ _ _ _ _⟩, ⟨by repeat (first | (with_reducible first | exact HB.out | apply below_alloc | apply pw_below_drewN | apply below_drew1) | exact HB.out)⟩⟩
  case round =>
   clear H'
   try clear c2
   try clear c2b0
   try clear c2b1
   try clear p2
   obtain ⟨x0_1, x5_1, rfl, HA, HK1, HO_5, HB⟩ := hrel
   cases gk with
   | zero => exact absurd HA.out (by simp [lot_Parse.l0])
   | succ k1 =>
    have H := HA.out
    clear HA
    simp only [lot_Parse.l0] at H
    by_cases c3 : x0_1.toList = ([] : List UInt8)
    ·
     rw [if_pos c3] at H
     have c3b0 : (x0_1.toList == ([] : List UInt8)) = true := beq_iff_eq.mpr c3
     have c3b1 : (x0_1.toList != ([] : List UInt8)) = false := bne_eq_false_iff_eq.mpr c3
     clear c3
     replace H := Option.bind_eq_some_iff.mp H
     obtain ⟨⟨t528, t529⟩, A40, H⟩ := H
     replace H : (if t529 = 0 then (some (x5_1, (-1), 0)) else (some (([] : List (S33)), (-1), t529))) = some (r1, r2, r3) := H
     have A4 := Aside0.mk A40
     clear A40
     by_cases c5 : t529 = 0
     ·
      rw [if_pos c5] at H
      have c5b0 : (t529 == 0) = true := beq_iff_eq.mpr c5
      have c5b1 : (t529 != 0) = false := bne_eq_false_iff_eq.mpr c5
      clear c5
      simp only [Option.some.injEq, Prod.mk.injEq] at H
      obtain ⟨rfl, rfl, rfl⟩ := H
      obtain ⟨Ao6, co6, eo6⟩ := Kd.S_slice HO_5.out
      subst eo6
      go_wp2_with (first | ((with_reducible refine gate_callee (f := 14) rfl ?_); refine goesL_ (some 44) rfl rfl Tryd.func14 (by kernel_rfl) rfl #[.slice Ao6 x5_1.length co6] rfl (by (try simp only [List.map_toArray, List.map_cons, List.map_nil]); first | done | rfl | (simp only [List.length_drop, List.length_take]; rfl)) ?_; (with_reducible refine (lot_Check.calls k1 _ _ x5_1 t528 t529 _ ?side1 ?side2 A4.out).mono ?_); (case side1 => repeat (first | exact (Kd.S_reads' HO_5.out).2.2 | (with_reducible refine Kd.C_alloc ?_ _) | (with_reducible refine Kd.C_drewN ?_ _) | (with_reducible refine Kd.C_drew ?_))); (case side2 => exact (Kd.S_reads' HO_5.out).2.1); rintro e w7 ⟨rfl, hb⟩; refine ⟨_, rfl, ?_⟩; have n0_ := Aside0.mk (Kd.S_below (by (with_reducible repeat (first | apply Kd.S_alloc | apply Kd.S_drewN | apply Kd.S_drew)); exact HO_5.out) hb); have n1_ := Aside0.mk (below_step (by repeat (first | (with_reducible first | exact HB.out | apply below_alloc | apply pw_below_drewN | apply below_drew1) | exact HB.out)) hb); clear HO_5; clear HB; have HO_5 := n0_; have HB := n1_; clear n0_ n1_; (try clear hb); (try clear hb2); (try clear hk); (try clear hi)))
      go_ret3
      exact ⟨_, by first | rfl | (simp [errW_none, errW_some] <;> rfl) | (simp [*, errW_none, errW_some] <;> rfl), by (with_reducible repeat (first | apply Kd.S_alloc | apply Kd.S_drewN | apply Kd.S_drew)); exact HO_5.out, by repeat (first | (with_reducible first | exact HB.out | apply below_alloc | apply pw_below_drewN | apply below_drew1) | exact HB.out)⟩
     ·
      rw [if_neg c5] at H
      have c5b0 : (t529 == 0) = false := beq_eq_false_iff_ne.mpr c5
      have c5b1 : (t529 != 0) = true := bne_iff_ne.mpr c5
      simp only [Option.some.injEq, Prod.mk.injEq] at H
      obtain ⟨rfl, rfl, rfl⟩ := H
      obtain ⟨Ao8, co8, eo8⟩ := Kd.S_slice HO_5.out
      subst eo8
      go_wp2_with (first | ((with_reducible refine gate_callee (f := 14) rfl ?_); refine goesL_ (some 44) rfl rfl Tryd.func14 (by kernel_rfl) rfl #[.slice Ao8 x5_1.length co8] rfl (by (try simp only [List.map_toArray, List.map_cons, List.map_nil]); first | done | rfl | (simp only [List.length_drop, List.length_take]; rfl)) ?_; (with_reducible refine (lot_Check.calls k1 _ _ x5_1 t528 t529 _ ?side1 ?side2 A4.out).mono ?_); (case side1 => repeat (first | exact (Kd.S_reads' HO_5.out).2.2 | (with_reducible refine Kd.C_alloc ?_ _) | (with_reducible refine Kd.C_drewN ?_ _) | (with_reducible refine Kd.C_drew ?_))); (case side2 => exact (Kd.S_reads' HO_5.out).2.1); rintro e w9 ⟨rfl, hb⟩; refine ⟨_, rfl, ?_⟩; have n0_ := Aside0.mk (Kd.S_below (by (with_reducible repeat (first | apply Kd.S_alloc | apply Kd.S_drewN | apply Kd.S_drew)); exact HO_5.out) hb); have n1_ := Aside0.mk (below_step (by repeat (first | (with_reducible first | exact HB.out | apply below_alloc | apply pw_below_drewN | apply below_drew1) | exact HB.out)) hb); clear HO_5; clear HB; have HO_5 := n0_; have HB := n1_; clear n0_ n1_; (try clear hb); (try clear hb2); (try clear hk); (try clear hi)))
      go_ret3
      exact ⟨_, by first | rfl | (simp [errW_none, errW_some] <;> rfl) | (simp [*, errW_none, errW_some] <;> rfl), by first | exact Kd.S_nil _ _ _ _ _ | exact Kd.N_nil _ _ _ _ _ | exact Kd.V_nil _ _ _ _ _ | exact Kd.Q_nil _ _ _ _ _ | exact Kd.R_nil _ _ _ _ _, by repeat (first | (with_reducible first | exact HB.out | apply below_alloc | apply pw_below_drewN | apply below_drew1) | exact HB.out)⟩
    ·
     rw [if_neg c3] at H
     have c3b0 : (x0_1.toList == ([] : List UInt8)) = false := beq_eq_false_iff_ne.mpr c3
     have c3b1 : (x0_1.toList != ([] : List UInt8)) = true := bne_iff_ne.mpr c3
     replace H := Option.bind_eq_some_iff.mp H
     obtain ⟨⟨t530, t531, t532⟩, A100, H⟩ := H
     replace H : ((lot_read.f k1 t530).bind fun bt533 => (if t532 = true then (if bt533.2.2.2.2 = true then (if x5_1.length < 2932031007402 then (lot_Parse.l0 k1 t531 (x5_1 ++ [(⟨bt533.1, (⟨bt533.2.1, bt533.2.2.1⟩ : S26), bt533.2.2.2.1⟩ : S33)])) else (none)) else (some (([] : List (S33)), (x5_1.length : Int), 3))) else (some (([] : List (S33)), (x5_1.length : Int), 3)))) = some (r1, r2, r3) := H
     have A10 := Aside0.mk A100
     clear A100
     replace H := Option.bind_eq_some_iff.mp H
     obtain ⟨⟨t533, t534, t535, t536, t539⟩, A110, H⟩ := H
     replace H : (if t532 = true then (if t539 = true then (if x5_1.length < 2932031007402 then (lot_Parse.l0 k1 t531 (x5_1 ++ [(⟨t533, (⟨t534, t535⟩ : S26), t536⟩ : S33)])) else (none)) else (some (([] : List (S33)), (x5_1.length : Int), 3))) else (some (([] : List (S33)), (x5_1.length : Int), 3))) = some (r1, r2, r3) := H
     have A11 := Aside0.mk A110
     clear A110
     by_cases c12 : t532 = true
     ·
      subst c12
      have H1 : (if t539 = true then (if x5_1.length < 2932031007402 then (lot_Parse.l0 k1 t531 (x5_1 ++ [(⟨t533, (⟨t534, t535⟩ : S26), t536⟩ : S33)])) else (none)) else (some (([] : List (S33)), (x5_1.length : Int), 3))) = some (r1, r2, r3) := by rw [if_pos rfl] at H; exact H
      clear H
      have H := H1
      clear H1
      by_cases c13 : t539 = true
      ·
       subst c13
       have H1 : (if x5_1.length < 2932031007402 then (lot_Parse.l0 k1 t531 (x5_1 ++ [(⟨t533, (⟨t534, t535⟩ : S26), t536⟩ : S33)])) else (none)) = some (r1, r2, r3) := by rw [if_pos rfl] at H; exact H
       clear H
       have H := H1
       clear H1
       by_cases c14 : x5_1.length < 2932031007402
       ·
        rw [if_pos c14] at H
        have LMc14 := Aside0.mk c14
        clear c14
        obtain ⟨y541, hy541⟩ : ∃ y_ : List (S33), y_ = (x5_1 ++ [(⟨t533, (⟨t534, t535⟩ : S26), t536⟩ : S33)]) := ⟨_, rfl⟩
        replace H : (lot_Parse.l0 k1 t531 y541) = some (r1, r2, r3) := by first | (rw [hy541]; with_reducible exact H) | (have H2_ := (Option.bind_some _ _).symm.trans H; rw [hy541]; with_reducible exact H2_) | (have H2_ := (Option.bind_some _ _).symm.trans H; with_reducible exact H2_) | with_reducible exact H | (rw [hy541]; exact H) | exact H
        have Ny541 := Aside0.mk hy541
        clear hy541
        have H' := Aside0.mk H
        clear H
        go_wp2_with (first | ((with_reducible refine gate_callee (f := 53) rfl ?_); refine goesL_ (some 20) rfl rfl Tryd.func53 (by kernel_rfl) rfl #[.string x0_1, .string (⟨#[10]⟩ : ByteArray)] rfl (by (try simp only [List.map_toArray, List.map_cons, List.map_nil]); first | done | rfl | (simp only [List.length_drop, List.length_take]; rfl)) ?_; (with_reducible refine (strings_Cut.calls x0_1 (⟨#[10]⟩ : ByteArray) t530 t531 true _ ?side1 A10.out).mono ?_); (case side1 => exact GI.below HG.out (by repeat (first | (with_reducible first | exact HB.out | apply below_alloc | apply pw_below_drewN | apply below_drew1) | exact HB.out))); rintro e w15 ⟨rfl, hb⟩; refine ⟨_, rfl, ?_⟩; have n0_ := Aside0.mk (Kd.S_below (by (with_reducible repeat (first | apply Kd.S_alloc | apply Kd.S_drewN | apply Kd.S_drew)); exact HO_5.out) hb); have n1_ := Aside0.mk (below_step (by repeat (first | (with_reducible first | exact HB.out | apply below_alloc | apply pw_below_drewN | apply below_drew1) | exact HB.out)) hb); clear HO_5; clear HB; have HO_5 := n0_; have HB := n1_; clear n0_ n1_; (try clear hb); (try clear hb2); (try clear hk); (try clear hi)) | ((with_reducible refine gate_callee (f := 54) rfl ?_); refine goesL_ (some 26) rfl rfl Tryd.func54 (by kernel_rfl) rfl #[.string t530] rfl (by (try simp only [List.map_toArray, List.map_cons, List.map_nil]); first | done | rfl | (simp only [List.length_drop, List.length_take]; rfl)) ?_; (with_reducible refine (lot_read.calls k1 t530 t533 t534 t535 t536 true _ ?side1 A11.out).mono ?_); (case side1 => exact GI.below HG.out (by repeat (first | (with_reducible first | exact HB.out | apply below_alloc | apply pw_below_drewN | apply below_drew1) | exact HB.out))); rintro e w16 ⟨v537, rfl, ho0, hb⟩; refine ⟨_, rfl, ?_⟩; have n0_ := Aside0.mk (Kd.S_elder' (by (with_reducible repeat (first | apply Kd.S_alloc | apply Kd.S_drewN | apply Kd.S_drew)); exact HO_5.out) (Kd.R_base ho0) hb); have n1_ := Aside0.mk (Kd.R_lower ho0 (below_size (by repeat (first | (with_reducible first | exact HB.out | apply below_alloc | apply pw_below_drewN | apply below_drew1) | exact HB.out)))); have n2_ := Aside0.mk (below_step (by repeat (first | (with_reducible first | exact HB.out | apply below_alloc | apply pw_below_drewN | apply below_drew1) | exact HB.out)) hb); clear HO_5; clear HB; have HO_5 := n0_; have HO538 := n1_; have HB := n2_; clear n0_ n1_ n2_; (try clear hb); (try clear hb2); (try clear hk); (try clear hi); (try clear ho0)) | ((with_reducible refine gate_dst (N := 9) rfl ?_); refine box_event ?hg (N := 9) ?hd (cs := #[.int .i64 0, .int .i64 0, .int .i64 0, .slice none 0 0]) (t := 33) ?hr ?_; (case hd => rfl); (case hg => rfl); (case hr => first | (go_simp; done) | (go_simp; rfl)); intro gb540 hg w17 hbox hb; have n0_ := Aside0.mk (Kd.S_below (Kd.S_elderB (by (with_reducible repeat (first | apply Kd.S_alloc | apply Kd.S_drewN | apply Kd.S_drew)); exact HO_5.out) gb540 (Nat.le_of_eq hg.symm)) hb); have n1_ := Aside0.mk (Kd.R_below (by (with_reducible repeat (first | apply Kd.R_alloc | apply Kd.R_drewN | apply Kd.R_drew)); exact HO538.out) hb); have n2_ := Aside0.mk (below_step (by repeat (first | (with_reducible first | exact HB.out | apply below_alloc | apply pw_below_drewN | apply below_drew1) | exact HB.out)) hb); have n3_ := Aside0.mk (hbox); have n4_ := Aside0.mk ((by rw [hg]; exact (below_size (by repeat (first | (with_reducible first | exact HB.out | apply below_alloc | apply pw_below_drewN | apply below_drew1) | exact HB.out))) : w.heap.size ≤ gb540)); have n5_ := Aside0.mk ((by rw [hg]; exact (below_size (by repeat (first | (with_reducible first | exact HB.out | apply below_alloc | apply pw_below_drewN | apply below_drew1) | exact HB.out))) : w.heap.size ≤ gb540)); clear HO_5; clear HO538; clear HB; have HO_5 := n0_; have HO538 := n1_; have HB := n2_; have BK540 := n3_; have GW540 := n4_; have GE540 := n5_; clear n0_ n1_ n2_ n3_ n4_ n5_; clear hb hbox hg; have hcz18_0 : w17.cell? ⟨gb540, 0, none⟩ = some (.int .i64 0) := (blk_cell BK540.out 0).trans rfl; have hcz18_1 : w17.cell? ⟨gb540, 1, none⟩ = some (.int .i64 0) := (blk_cell BK540.out 1).trans rfl; have hcz18_2 : w17.cell? ⟨gb540, 2, none⟩ = some (.int .i64 0) := (blk_cell BK540.out 2).trans rfl; have hcz18_3 : w17.cell? ⟨gb540, 3, none⟩ = some (.slice none 0 0) := (blk_cell BK540.out 3).trans rfl; have hfz18_0 := blk_frozen BK540.out 0; have hfz18_1 := blk_frozen BK540.out 1; have hfz18_2 := blk_frozen BK540.out 2; have hfz18_3 := blk_frozen BK540.out 3; obtain ⟨Ao19, co19, eo19⟩ := Kd.R_slice HO538.out; subst eo19) | ((with_reducible refine gate_store (t := 33) (p := 9) rfl ?_); refine store_event (t := 33) (p := 9) (v := ?vo_w20) (w1 := ((((w17.setCell ⟨gb540, 0, none⟩ (.int .i64 t533)).setCell ⟨gb540, 1, none⟩ (.int .i64 t534)).setCell ⟨gb540, 2, none⟩ (.int .i64 t535)).setCell ⟨gb540, 3, none⟩ (.slice Ao19 t536.length co19))) ?hg ?ho ?hn ?hr ?_; (case ho => rfl); (case hg => rfl); (case hn => rfl); (case hr => first | (go_simp; done) | (go_simp; rfl)); intro w20 hw; have n0_ : Aside0 (Kd.S k33 33 w20 w.heap.size (fun k_ => some k_ ≠ (.slice Ao19 t536.length co19 : Value).ownBlock ∧ k_ ≠ gb540) u5 x5_1) := ⟨(by rw [hw]; exact (by (with_reducible repeat (first | apply Kd.S_alloc | apply Kd.S_drewN | apply Kd.S_drew)); exact Kd.S_mono (Kd.S_far (p := ⟨gb540, 3, none⟩) (Kd.S_far (p := ⟨gb540, 2, none⟩) (Kd.S_far (p := ⟨gb540, 1, none⟩) (Kd.S_far (p := ⟨gb540, 0, none⟩) (Kd.S_mono HO_5.out (fun k_ hk => (⟨hk, hk.2⟩ : _ ∧ k_ ≠ gb540))) (fun _ hk => hk.2) (.int .i64 t533)) (fun _ hk => hk.2) (.int .i64 t534)) (fun _ hk => hk.2) (.int .i64 t535)) (fun _ hk => hk.2) (.slice Ao19 t536.length co19)) (fun _ hk => ⟨hk.1.1.2, hk.1.2⟩)))⟩; have n1_ : Aside0 (Kd.R k35 35 w20 w.heap.size (fun _ => True) (.slice Ao19 t536.length co19) t536) := ⟨(by rw [hw]; exact (by (with_reducible repeat (first | apply Kd.R_alloc | apply Kd.R_drewN | apply Kd.R_drew)); exact Kd.R_mono (Kd.R_far (p := ⟨gb540, 3, none⟩) (Kd.R_far (p := ⟨gb540, 2, none⟩) (Kd.R_far (p := ⟨gb540, 1, none⟩) (Kd.R_far (p := ⟨gb540, 0, none⟩) (Kd.R_types HO538.out BK540.out (by decide)) (fun _ hk => hk.2) (.int .i64 t533)) (fun _ hk => hk.2) (.int .i64 t534)) (fun _ hk => hk.2) (.int .i64 t535)) (fun _ hk => hk.2) (.slice Ao19 t536.length co19)) (fun _ hk => trivial)))⟩; have n2_ : Aside0 (w20.heap[gb540]? = some (.cells #[.int .i64 t533, .int .i64 t534, .int .i64 t535, .slice Ao19 t536.length co19] 33 (0, 0))) := ⟨(by rw [hw]; exact (by (with_reducible repeat (first | refine blk_drewN ?_ _ | refine blk_drew ?_ | refine blk_alloc ?_ _)); refine blk_put (cs := #[.int .i64 t533, .int .i64 t534, .int .i64 t535, .slice none 0 0]) ?_ 3 _ rfl; (with_reducible repeat (first | refine blk_drewN ?_ _ | refine blk_drew ?_ | refine blk_alloc ?_ _)); refine blk_put (cs := #[.int .i64 t533, .int .i64 t534, .int .i64 0, .slice none 0 0]) ?_ 2 _ rfl; (with_reducible repeat (first | refine blk_drewN ?_ _ | refine blk_drew ?_ | refine blk_alloc ?_ _)); refine blk_put (cs := #[.int .i64 t533, .int .i64 0, .int .i64 0, .slice none 0 0]) ?_ 1 _ rfl; (with_reducible repeat (first | refine blk_drewN ?_ _ | refine blk_drew ?_ | refine blk_alloc ?_ _)); refine blk_put (cs := #[.int .i64 0, .int .i64 0, .int .i64 0, .slice none 0 0]) ?_ 0 _ rfl; (with_reducible repeat (first | refine blk_drewN ?_ _ | refine blk_drew ?_ | refine blk_alloc ?_ _)); exact BK540.out))⟩; have n3_ : Aside0 (Below w.heap.size w w20) := ⟨(by rw [hw]; exact (by repeat (first | (with_reducible first | exact HB.out | apply below_alloc | apply pw_below_drewN | apply below_drew1 | refine below_set ?_ GE540.out) | exact HB.out)))⟩; clear hw; clear HO_5; clear HO538; clear BK540; clear HB; have HO_5 := n0_; have HO538 := n1_; have BK540 := n2_; have HB := n3_; clear n0_ n1_ n2_ n3_; have hcz21_0 : w20.cell? ⟨gb540, 0, none⟩ = some (.int .i64 t533) := (blk_cell BK540.out 0).trans rfl; have hcz21_1 : w20.cell? ⟨gb540, 1, none⟩ = some (.int .i64 t534) := (blk_cell BK540.out 1).trans rfl; have hcz21_2 : w20.cell? ⟨gb540, 2, none⟩ = some (.int .i64 t535) := (blk_cell BK540.out 2).trans rfl; have hcz21_3 : w20.cell? ⟨gb540, 3, none⟩ = some (.slice Ao19 t536.length co19) := (blk_cell BK540.out 3).trans rfl; have hfz21_0 := blk_frozen BK540.out 0; have hfz21_1 := blk_frozen BK540.out 1; have hfz21_2 := blk_frozen BK540.out 2; have hfz21_3 := blk_frozen BK540.out 3) | ((with_reducible refine gate_builtin (b := .append) (xs := #[.tmp 37, .tmp 39]) rfl ?_); at_builtin; refine Kd.S_append k33 (w0 := w) w.heap.size rfl (.tmp 37) (.tmp 39) 22 33 (.agg #[(.int .i64 0), (.int .i64 0), (.int .i64 0), (.slice none 0 0)]) 48 rfl Tryd.underlying22 info33 rfl (by decide) (by omega) u5 x5_1 (⟨t533, (⟨t534, t535⟩ : S26), t536⟩ : S33) [.int .i64 t533, .int .i64 t534, .int .i64 t535, .slice Ao19 t536.length co19] (fun k_ => k_ ≠ gb540) (fun k_ => some k_ = (.slice Ao19 t536.length co19 : Value).ownBlock) rfl rfl ?aP (fun k_ hk_ => ((Kd.R_mono (ok' := fun k_ => ((fun k_ => k_ ≠ gb540)) k_ ∧ some k_ ≠ (u5 : Value).ownBlock) (Kd.R_types (Kd.R_apart' (HO538.out) (Kd.S_typed HO_5.out) (by decide)) BK540.out (by decide)) (fun k_ hk => ⟨hk.2, hk.1.2⟩))).1 k_ hk_.symm) ?aF ?aO ?aB ?aS ?aL ?_; (case aP => exact k33_mkM _ _ _ (⟨t533, (⟨t534, t535⟩ : S26), t536⟩ : S33) (Kd.R_mono (Kd.R_tight rfl (Kd.R_mono (ok' := fun k_ => ((fun k_ => k_ ≠ gb540)) k_ ∧ some k_ ≠ (u5 : Value).ownBlock) (Kd.R_types (Kd.R_apart' (HO538.out) (Kd.S_typed HO_5.out) (by decide)) BK540.out (by decide)) (fun k_ hk => ⟨hk.2, hk.1.2⟩))) (fun _ h_ => h_))); (case aB => exact (by repeat (first | (with_reducible first | exact HB.out | apply below_alloc | apply pw_below_drewN | apply below_drew1 | refine below_set ?_ GE540.out) | exact HB.out))); (case aF => exact (fun k_ hk => Kd.freshB (g := gb540) (o := .cells #[.int .i64 t533, .int .i64 t534, .int .i64 t535, .slice Ao19 t536.length co19] 33 (0, 0)) (by (with_reducible repeat (first | refine blk_drewN ?_ _ | refine blk_drew ?_ | refine blk_alloc ?_ _)); exact BK540.out) k_ hk)); (case aO => exact (by (with_reducible repeat (first | apply Kd.S_alloc | apply Kd.S_drewN | apply Kd.S_drew)); exact Kd.S_mono HO_5.out (fun k_ hk => ⟨hk.2, fun e_ => hk.1 e_⟩))); (case aS => exact (below_size (by repeat (first | (with_reducible first | exact HB.out | apply below_alloc | apply pw_below_drewN | apply below_drew1 | refine below_set ?_ GE540.out) | exact HB.out)))); (case aL => have := LMc14.out; omega); intro v542 w22 ho hb hg hat; rw [← Ny541.out] at ho; have n0_ := Aside0.mk (blk_grown (g := gb540) (o := .cells #[.int .i64 t533, .int .i64 t534, .int .i64 t535, .slice Ao19 t536.length co19] 33 (0, 0)) (by (with_reducible repeat (first | refine blk_drewN ?_ _ | refine blk_drew ?_ | refine blk_alloc ?_ _)); exact BK540.out) hg (Kd.S_away HO_5.out (fun _ hk => hk.2))); have n1_ := Aside0.mk (hb); have n2_ := Aside0.mk (ho); clear BK540; clear HB; clear HO_5; clear HO538; have BK540 := n0_; have HB := n1_; have HO543 := n2_; clear n0_ n1_ n2_; clear ho hb hg hat))
        go_roundg k1
        case measure => have := HK1.out; omega
        case rel => exact ⟨(t531), (y541), (by first | rfl | (simp; done) | (simp [*]; done)), H', ⟨by have := HK1.out; omega⟩, ⟨by (with_reducible repeat (first | apply Kd.S_alloc | apply Kd.S_drewN | apply Kd.S_drew)); exact Kd.S_mono HO543.out (fun _ hk => trivial)⟩, ⟨by repeat (first | (with_reducible first | exact HB.out | apply below_alloc | apply pw_below_drewN | apply below_drew1 | refine below_set ?_ GE540.out) | exact HB.out)⟩⟩
       ·
        rw [if_neg c14] at H
        exact absurd H (by simp)
      ·
       replace c13 := Bool.eq_false_iff.mpr c13
       subst c13
       have H1 : (some (([] : List (S33)), (x5_1.length : Int), 3)) = some (r1, r2, r3) := by rw [if_neg (show ¬ (false = true) by decide)] at H; exact H
       clear H
       have H := H1
       clear H1
       simp only [Option.some.injEq, Prod.mk.injEq] at H
       obtain ⟨rfl, rfl, rfl⟩ := H
       go_wp2_with (first | ((with_reducible refine gate_callee (f := 53) rfl ?_); refine goesL_ (some 20) rfl rfl Tryd.func53 (by kernel_rfl) rfl #[.string x0_1, .string (⟨#[10]⟩ : ByteArray)] rfl (by (try simp only [List.map_toArray, List.map_cons, List.map_nil]); first | done | rfl | (simp only [List.length_drop, List.length_take]; rfl)) ?_; (with_reducible refine (strings_Cut.calls x0_1 (⟨#[10]⟩ : ByteArray) t530 t531 true _ ?side1 A10.out).mono ?_); (case side1 => exact GI.below HG.out (by repeat (first | (with_reducible first | exact HB.out | apply below_alloc | apply pw_below_drewN | apply below_drew1) | exact HB.out))); rintro e w23 ⟨rfl, hb⟩; refine ⟨_, rfl, ?_⟩; have n0_ := Aside0.mk (Kd.S_below (by (with_reducible repeat (first | apply Kd.S_alloc | apply Kd.S_drewN | apply Kd.S_drew)); exact HO_5.out) hb); have n1_ := Aside0.mk (below_step (by repeat (first | (with_reducible first | exact HB.out | apply below_alloc | apply pw_below_drewN | apply below_drew1) | exact HB.out)) hb); clear HO_5; clear HB; have HO_5 := n0_; have HB := n1_; clear n0_ n1_; (try clear hb); (try clear hb2); (try clear hk); (try clear hi)) | ((with_reducible refine gate_callee (f := 54) rfl ?_); refine goesL_ (some 26) rfl rfl Tryd.func54 (by kernel_rfl) rfl #[.string t530] rfl (by (try simp only [List.map_toArray, List.map_cons, List.map_nil]); first | done | rfl | (simp only [List.length_drop, List.length_take]; rfl)) ?_; (with_reducible refine (lot_read.calls k1 t530 t533 t534 t535 t536 false _ ?side1 A11.out).mono ?_); (case side1 => exact GI.below HG.out (by repeat (first | (with_reducible first | exact HB.out | apply below_alloc | apply pw_below_drewN | apply below_drew1) | exact HB.out))); rintro e w24 ⟨v537, rfl, ho0, hb⟩; refine ⟨_, rfl, ?_⟩; have n0_ := Aside0.mk (Kd.S_elder' (by (with_reducible repeat (first | apply Kd.S_alloc | apply Kd.S_drewN | apply Kd.S_drew)); exact HO_5.out) (Kd.R_base ho0) hb); have n1_ := Aside0.mk (Kd.R_lower ho0 (below_size (by repeat (first | (with_reducible first | exact HB.out | apply below_alloc | apply pw_below_drewN | apply below_drew1) | exact HB.out)))); have n2_ := Aside0.mk (below_step (by repeat (first | (with_reducible first | exact HB.out | apply below_alloc | apply pw_below_drewN | apply below_drew1) | exact HB.out)) hb); clear HO_5; clear HB; have HO_5 := n0_; have HO538 := n1_; have HB := n2_; clear n0_ n1_ n2_; (try clear hb); (try clear hb2); (try clear hk); (try clear hi); (try clear ho0)) | ((with_reducible refine gate_dst (N := 9) rfl ?_); refine box_event ?hg (N := 9) ?hd (cs := #[.int .i64 0, .int .i64 0, .int .i64 0, .slice none 0 0]) (t := 33) ?hr ?_; (case hd => rfl); (case hg => rfl); (case hr => first | (go_simp; done) | (go_simp; rfl)); intro gb540 hg w25 hbox hb; have n0_ := Aside0.mk (Kd.S_below (Kd.S_elderB (by (with_reducible repeat (first | apply Kd.S_alloc | apply Kd.S_drewN | apply Kd.S_drew)); exact HO_5.out) gb540 (Nat.le_of_eq hg.symm)) hb); have n1_ := Aside0.mk (Kd.R_below (by (with_reducible repeat (first | apply Kd.R_alloc | apply Kd.R_drewN | apply Kd.R_drew)); exact HO538.out) hb); have n2_ := Aside0.mk (below_step (by repeat (first | (with_reducible first | exact HB.out | apply below_alloc | apply pw_below_drewN | apply below_drew1) | exact HB.out)) hb); have n3_ := Aside0.mk (hbox); have n4_ := Aside0.mk ((by rw [hg]; exact (below_size (by repeat (first | (with_reducible first | exact HB.out | apply below_alloc | apply pw_below_drewN | apply below_drew1) | exact HB.out))) : w.heap.size ≤ gb540)); have n5_ := Aside0.mk ((by rw [hg]; exact (below_size (by repeat (first | (with_reducible first | exact HB.out | apply below_alloc | apply pw_below_drewN | apply below_drew1) | exact HB.out))) : w.heap.size ≤ gb540)); clear HO_5; clear HO538; clear HB; have HO_5 := n0_; have HO538 := n1_; have HB := n2_; have BK540 := n3_; have GW540 := n4_; have GE540 := n5_; clear n0_ n1_ n2_ n3_ n4_ n5_; clear hb hbox hg; have hcz26_0 : w25.cell? ⟨gb540, 0, none⟩ = some (.int .i64 0) := (blk_cell BK540.out 0).trans rfl; have hcz26_1 : w25.cell? ⟨gb540, 1, none⟩ = some (.int .i64 0) := (blk_cell BK540.out 1).trans rfl; have hcz26_2 : w25.cell? ⟨gb540, 2, none⟩ = some (.int .i64 0) := (blk_cell BK540.out 2).trans rfl; have hcz26_3 : w25.cell? ⟨gb540, 3, none⟩ = some (.slice none 0 0) := (blk_cell BK540.out 3).trans rfl; have hfz26_0 := blk_frozen BK540.out 0; have hfz26_1 := blk_frozen BK540.out 1; have hfz26_2 := blk_frozen BK540.out 2; have hfz26_3 := blk_frozen BK540.out 3; obtain ⟨Ao27, co27, eo27⟩ := Kd.R_slice HO538.out; subst eo27; obtain ⟨Ao28, co28, eo28⟩ := Kd.S_slice HO_5.out; subst eo28))
       go_ret3
       exact ⟨_, by first | rfl | (simp [errW_none, errW_some] <;> rfl) | (simp [*, errW_none, errW_some] <;> rfl), by first | exact Kd.S_nil _ _ _ _ _ | exact Kd.N_nil _ _ _ _ _ | exact Kd.V_nil _ _ _ _ _ | exact Kd.Q_nil _ _ _ _ _ | exact Kd.R_nil _ _ _ _ _, by repeat (first | (with_reducible first | exact HB.out | apply below_alloc | apply pw_below_drewN | apply below_drew1 | refine below_set ?_ GE540.out) | exact HB.out)⟩
     ·
      replace c12 := Bool.eq_false_iff.mpr c12
      subst c12
      have H1 : (some (([] : List (S33)), (x5_1.length : Int), 3)) = some (r1, r2, r3) := by rw [if_neg (show ¬ (false = true) by decide)] at H; exact H
      clear H
      have H := H1
      clear H1
      simp only [Option.some.injEq, Prod.mk.injEq] at H
      obtain ⟨rfl, rfl, rfl⟩ := H
      go_wp2_with (first | ((with_reducible refine gate_callee (f := 53) rfl ?_); refine goesL_ (some 20) rfl rfl Tryd.func53 (by kernel_rfl) rfl #[.string x0_1, .string (⟨#[10]⟩ : ByteArray)] rfl (by (try simp only [List.map_toArray, List.map_cons, List.map_nil]); first | done | rfl | (simp only [List.length_drop, List.length_take]; rfl)) ?_; (with_reducible refine (strings_Cut.calls x0_1 (⟨#[10]⟩ : ByteArray) t530 t531 false _ ?side1 A10.out).mono ?_); (case side1 => exact GI.below HG.out (by repeat (first | (with_reducible first | exact HB.out | apply below_alloc | apply pw_below_drewN | apply below_drew1) | exact HB.out))); rintro e w29 ⟨rfl, hb⟩; refine ⟨_, rfl, ?_⟩; have n0_ := Aside0.mk (Kd.S_below (by (with_reducible repeat (first | apply Kd.S_alloc | apply Kd.S_drewN | apply Kd.S_drew)); exact HO_5.out) hb); have n1_ := Aside0.mk (below_step (by repeat (first | (with_reducible first | exact HB.out | apply below_alloc | apply pw_below_drewN | apply below_drew1) | exact HB.out)) hb); clear HO_5; clear HB; have HO_5 := n0_; have HB := n1_; clear n0_ n1_; (try clear hb); (try clear hb2); (try clear hk); (try clear hi)) | ((with_reducible refine gate_callee (f := 54) rfl ?_); refine goesL_ (some 26) rfl rfl Tryd.func54 (by kernel_rfl) rfl #[.string t530] rfl (by (try simp only [List.map_toArray, List.map_cons, List.map_nil]); first | done | rfl | (simp only [List.length_drop, List.length_take]; rfl)) ?_; (with_reducible refine (lot_read.calls k1 t530 t533 t534 t535 t536 t539 _ ?side1 A11.out).mono ?_); (case side1 => exact GI.below HG.out (by repeat (first | (with_reducible first | exact HB.out | apply below_alloc | apply pw_below_drewN | apply below_drew1) | exact HB.out))); rintro e w30 ⟨v537, rfl, ho0, hb⟩; refine ⟨_, rfl, ?_⟩; have n0_ := Aside0.mk (Kd.S_elder' (by (with_reducible repeat (first | apply Kd.S_alloc | apply Kd.S_drewN | apply Kd.S_drew)); exact HO_5.out) (Kd.R_base ho0) hb); have n1_ := Aside0.mk (Kd.R_lower ho0 (below_size (by repeat (first | (with_reducible first | exact HB.out | apply below_alloc | apply pw_below_drewN | apply below_drew1) | exact HB.out)))); have n2_ := Aside0.mk (below_step (by repeat (first | (with_reducible first | exact HB.out | apply below_alloc | apply pw_below_drewN | apply below_drew1) | exact HB.out)) hb); clear HO_5; clear HB; have HO_5 := n0_; have HO538 := n1_; have HB := n2_; clear n0_ n1_ n2_; (try clear hb); (try clear hb2); (try clear hk); (try clear hi); (try clear ho0)) | ((with_reducible refine gate_dst (N := 9) rfl ?_); refine box_event ?hg (N := 9) ?hd (cs := #[.int .i64 0, .int .i64 0, .int .i64 0, .slice none 0 0]) (t := 33) ?hr ?_; (case hd => rfl); (case hg => rfl); (case hr => first | (go_simp; done) | (go_simp; rfl)); intro gb540 hg w31 hbox hb; have n0_ := Aside0.mk (Kd.S_below (Kd.S_elderB (by (with_reducible repeat (first | apply Kd.S_alloc | apply Kd.S_drewN | apply Kd.S_drew)); exact HO_5.out) gb540 (Nat.le_of_eq hg.symm)) hb); have n1_ := Aside0.mk (Kd.R_below (by (with_reducible repeat (first | apply Kd.R_alloc | apply Kd.R_drewN | apply Kd.R_drew)); exact HO538.out) hb); have n2_ := Aside0.mk (below_step (by repeat (first | (with_reducible first | exact HB.out | apply below_alloc | apply pw_below_drewN | apply below_drew1) | exact HB.out)) hb); have n3_ := Aside0.mk (hbox); have n4_ := Aside0.mk ((by rw [hg]; exact (below_size (by repeat (first | (with_reducible first | exact HB.out | apply below_alloc | apply pw_below_drewN | apply below_drew1) | exact HB.out))) : w.heap.size ≤ gb540)); have n5_ := Aside0.mk ((by rw [hg]; exact (below_size (by repeat (first | (with_reducible first | exact HB.out | apply below_alloc | apply pw_below_drewN | apply below_drew1) | exact HB.out))) : w.heap.size ≤ gb540)); clear HO_5; clear HO538; clear HB; have HO_5 := n0_; have HO538 := n1_; have HB := n2_; have BK540 := n3_; have GW540 := n4_; have GE540 := n5_; clear n0_ n1_ n2_ n3_ n4_ n5_; clear hb hbox hg; have hcz32_0 : w31.cell? ⟨gb540, 0, none⟩ = some (.int .i64 0) := (blk_cell BK540.out 0).trans rfl; have hcz32_1 : w31.cell? ⟨gb540, 1, none⟩ = some (.int .i64 0) := (blk_cell BK540.out 1).trans rfl; have hcz32_2 : w31.cell? ⟨gb540, 2, none⟩ = some (.int .i64 0) := (blk_cell BK540.out 2).trans rfl; have hcz32_3 : w31.cell? ⟨gb540, 3, none⟩ = some (.slice none 0 0) := (blk_cell BK540.out 3).trans rfl; have hfz32_0 := blk_frozen BK540.out 0; have hfz32_1 := blk_frozen BK540.out 1; have hfz32_2 := blk_frozen BK540.out 2; have hfz32_3 := blk_frozen BK540.out 3; obtain ⟨Ao33, co33, eo33⟩ := Kd.R_slice HO538.out; subst eo33; obtain ⟨Ao34, co34, eo34⟩ := Kd.S_slice HO_5.out; subst eo34))
      go_ret3
      exact ⟨_, by first | rfl | (simp [errW_none, errW_some] <;> rfl) | (simp [*, errW_none, errW_some] <;> rfl), by first | exact Kd.S_nil _ _ _ _ _ | exact Kd.N_nil _ _ _ _ _ | exact Kd.V_nil _ _ _ _ _ | exact Kd.Q_nil _ _ _ _ _ | exact Kd.R_nil _ _ _ _ _, by repeat (first | (with_reducible first | exact HB.out | apply below_alloc | apply pw_below_drewN | apply below_drew1 | refine below_set ?_ GE540.out) | exact HB.out)⟩
def spileref16_Lines.l0 : Nat → ByteArray → List ByteArray → Int → Int → Option (List ByteArray × Bool)
 | 0, _, _, _, _ => none
 | k + 1, x0, x4, x5, x6 => if x6 < (x0.size : Int) then (if 0 ≤ x6 then (if (bt x0 x6) = 10 then (if 0 ≤ x5 then (if x5 ≤ x6 then (if x6 ≤ (x0.size : Int) then (if x4.length < 8796093022208 then (spileref16_Lines.l0 k x0 (x4 ++ [x0.extract (x5 : Int).toNat (x6 : Int).toNat]) (wrap64 (x6 + 1)) (wrap64 (x6 + 1))) else (none)) else (none)) else (none)) else (none)) else (spileref16_Lines.l0 k x0 x4 x5 (wrap64 (x6 + 1)))) else (none)) else (if x5 < (x0.size : Int) then (if 0 ≤ x5 then (if x5 ≤ (x0.size : Int) then (if x4.length < 8796093022208 then (some ((x4 ++ [x0.extract (x5 : Int).toNat x0.size]), false)) else (none)) else (none)) else (none)) else (some (x4, true)))
def spileref16_Lines.f (k : Nat) (a0 : ByteArray) : Option (List ByteArray × Bool) := spileref16_Lines.l0 k a0 (([] : List ByteArray)) 0 0
def spileref16_Words.l0 : Nat → ByteArray → List ByteArray → Int → Int → Option (List ByteArray)
 | 0, _, _, _, _ => none
 | k + 1, x0, x3, x4, x5 => if x5 ≤ (x0.size : Int) then (if x5 = (x0.size : Int) then (if 0 ≤ x4 then (if x4 ≤ x5 then (if x3.length < 8796093022208 then (spileref16_Words.l0 k x0 (x3 ++ [x0.extract (x4 : Int).toNat (x5 : Int).toNat]) (wrap64 (x5 + 1)) (wrap64 (x5 + 1))) else (none)) else (none)) else (none)) else (if 0 ≤ x5 then (if x5 < (x0.size : Int) then (if (bt x0 x5) = 32 then (if 0 ≤ x4 then (if x4 ≤ x5 then (if x3.length < 8796093022208 then (spileref16_Words.l0 k x0 (x3 ++ [x0.extract (x4 : Int).toNat (x5 : Int).toNat]) (wrap64 (x5 + 1)) (wrap64 (x5 + 1))) else (none)) else (none)) else (none)) else (spileref16_Words.l0 k x0 x3 x4 (wrap64 (x5 + 1)))) else (none)) else (none))) else (some x3)
def spileref16_Words.f (k : Nat) (a0 : ByteArray) : Option (List ByteArray) := spileref16_Words.l0 k a0 (([] : List ByteArray)) 0 0
mutual
def spileref16_Number.j0 : Nat → ByteArray → Bool → Option (Int × Bool)
 | 0, _, _ => none
 | k + 1, x0, x26 => if x26 = true then (some (0, false)) else (spileref16_Number.l0 k x0 0 0)
def spileref16_Number.l0 : Nat → ByteArray → Int → Int → Option (Int × Bool)
 | 0, _, _, _ => none
 | k + 1, x0, x6, x7 => if x7 < (x0.size : Int) then (if 0 ≤ x7 then (if (bt x0 x7) < 48 then (some (0, false)) else (if (bt x0 x7) > 57 then (some (0, false)) else (spileref16_Number.l0 k x0 (wrap64 ((wrap64 (10 * x6)) + (((bt x0 x7) - 48) % 256))) (wrap64 (x7 + 1))))) else (none)) else (some (x6, true))
end
def spileref16_Number.f (k : Nat) (a0 : ByteArray) (a1 : Int) : Option (Int × Bool) := if (a0.size : Int) < 1 then (spileref16_Number.j0 k a0 true) else (if (a0.size : Int) > a1 then (spileref16_Number.j0 k a0 true) else (if (a0.size : Int) > 1 then (if 0 < (a0.size : Int) then (spileref16_Number.j0 k a0 ((bt a0 0) == 48)) else (none)) else (spileref16_Number.j0 k a0 false)))
end Go.Proofs.YtgjoenoknknoiaaDoor.Pr
namespace Go.Proofs.YtgjoenoknknoiaaDoor.Pr
open Go.RowKit Go.Proofs.YtgjoenoknknoiaaDoorW.PrintWords Go.Proofs.YtgjoenoknknoiaaDoorW.PrintLast Go.Proofs.YtgjoenoknknoiaaDoorW.PrintMore Go.Proofs.YtgjoenoknknoiaaDoor.X
attribute [local go_sem] max2_int min2_int max_two min_two max_three min_three max_four min_four   -- for this text's walks alone
set_option linter.unusedVariables false
set_option linter.unusedSimpArgs false
mutual
def spileref22_read.j0 : Nat → List ByteArray → Bool → Option (Int × Int × Int × (List (S35)) × Bool)
 | 0, _, _ => none
 | k + 1, x4, x37 => if x37 = true then (some (0, 0, 0, ([] : List (S35)), false)) else (if 1 < (x4.length : Int) then ((spileref16_Number.f k (rdOf ByteArray.empty x4 1) 15).bind fun bt570 => (if 3 < (x4.length : Int) then ((spileref16_Number.f k (rdOf ByteArray.empty x4 3) 15).bind fun bt573 => (spileref22_read.l0 k x4 bt570.2 bt573.2 4 bt570.1 0 bt573.1 ([] : List (S35)))) else (none))) else (none))
def spileref22_read.l0 : Nat → List ByteArray → Bool → Bool → Int → Int → Int → Int → List (S35) → Option (Int × Int × Int × (List (S35)) × Bool)
 | 0, _, _, _, _, _, _, _, _ => none
 | k + 1, x4, x7, x9, x10, x569000, x569001, x569002, x569003 => if x10 < (x4.length : Int) then (if 0 ≤ (wrap64 (x10 + 1)) then (if (wrap64 (x10 + 1)) < (x4.length : Int) then ((spileref16_Number.f k (rdOf ByteArray.empty x4 (wrap64 (x10 + 1))) 15).bind fun bt577 => (if 0 ≤ (wrap64 (x10 + 3)) then (if (wrap64 (x10 + 3)) < (x4.length : Int) then ((spileref16_Number.f k (rdOf ByteArray.empty x4 (wrap64 (x10 + 3))) 15).bind fun bt580 => (if 0 ≤ x10 then (if (rdOf ByteArray.empty x4 x10).toList = ([102, 105, 108, 108] : List UInt8) then (if 0 ≤ (wrap64 (x10 + 2)) then (if (wrap64 (x10 + 2)) < (x4.length : Int) then (if (rdOf ByteArray.empty x4 (wrap64 (x10 + 2))).toList = ([97, 108, 99, 111, 104, 111, 108] : List UInt8) then (if bt577.2 = true then (if bt580.2 = true then (if x569003.length < 8796093022208 then (spileref22_read.l0 k x4 x7 x9 (wrap64 (x10 + 4)) x569000 x569001 x569002 (x569003 ++ [(⟨bt577.1, bt580.1⟩ : S35)])) else (none)) else (some (0, 0, 0, ([] : List (S35)), false))) else (some (0, 0, 0, ([] : List (S35)), false))) else (some (0, 0, 0, ([] : List (S35)), false))) else (none)) else (none)) else (some (0, 0, 0, ([] : List (S35)), false))) else (none))) else (none)) else (none))) else (none)) else (none)) else ((spileref22_Alcohol.f k x569003).bind fun t575 => (if x7 = true then (some (x569000, t575, x569002, x569003, x9)) else (some (x569000, t575, x569002, x569003, false))))
end
def spileref22_read.f (k : Nat) (a0 : ByteArray) : Option (Int × Int × Int × (List (S35)) × Bool) := (spileref16_Words.f k a0).bind fun t563 => (if (t563.length : Int) < 4 then (spileref22_read.j0 k t563 true) else (if ((t563.length : Int) % 4) = 0 then (if 0 < (t563.length : Int) then (if (rdOf ByteArray.empty t563 0).toList = ([108, 111, 116] : List UInt8) then (if 2 < (t563.length : Int) then (spileref22_read.j0 k t563 ((rdOf ByteArray.empty t563 2).toList != ([109, 97, 115, 115] : List UInt8))) else (none)) else (spileref22_read.j0 k t563 true)) else (none)) else (spileref22_read.j0 k t563 true)))
def spileref22_Parse.l0 : Nat → List ByteArray → Bool → List (S33) → Int → Option ((List (S33)) × Int × Int)
 | 0, _, _, _, _ => none
 | k + 1, x5, x6, x7, x8 => if x8 < (x5.length : Int) then (if 0 ≤ x8 then ((spileref22_read.f k (rdOf ByteArray.empty x5 x8)).bind fun bt595 => (if bt595.2.2.2.2 = true then (if x8 = (wrap64 ((x5.length : Int) - 1)) then (if x6 = true then (if x7.length < 2932031007402 then (spileref22_Parse.l0 k x5 x6 (x7 ++ [(⟨bt595.1, (⟨bt595.2.1, bt595.2.2.1⟩ : S26), bt595.2.2.2.1⟩ : S33)]) (wrap64 (x8 + 1))) else (none)) else (some (([] : List (S33)), x8, 3))) else (if x7.length < 2932031007402 then (spileref22_Parse.l0 k x5 x6 (x7 ++ [(⟨bt595.1, (⟨bt595.2.1, bt595.2.2.1⟩ : S26), bt595.2.2.2.1⟩ : S33)]) (wrap64 (x8 + 1))) else (none))) else (some (([] : List (S33)), x8, 3)))) else (none)) else ((spileref22_Check.f k x7).bind fun bt609 => (if bt609.2 = 0 then (some (x7, (-1), 0)) else (some (([] : List (S33)), (-1), bt609.2))))
def spileref22_Parse.f (k : Nat) (a0 : ByteArray) : Option ((List (S33)) × Int × Int) := if (a0.size : Int) > 65536 then (some (([] : List (S33)), (-1), 8)) else ((spileref16_Lines.f k a0).bind fun bt587 => (spileref22_Parse.l0 k bt587.1 bt587.2 (([] : List (S33))) 0))
end Go.Proofs.YtgjoenoknknoiaaDoor.Pr
namespace Go.Proofs.YtgjoenoknknoiaaDoor.Pr
open Go.RowKit Go.Proofs.YtgjoenoknknoiaaDoorW.PrintWords Go.Proofs.YtgjoenoknknoiaaDoorW.PrintLast Go.Proofs.YtgjoenoknknoiaaDoorW.PrintMore Go.Proofs.YtgjoenoknknoiaaDoor.X
attribute [local go_sem] max2_int min2_int max_two min_two max_three min_three max_four min_four   -- for this text's walks alone
set_option linter.unusedVariables false
set_option linter.unusedSimpArgs false
mutual
def spilelaw22_LotBack.j0 : Nat → List (S33) → ByteArray → Bool → Option (Bool)
 | 0, _, _, _ => none
 | k + 1, x0, x1, x24 => if x24 = true then (some true) else ((lot_Print.f k x0).bind fun bt630 => (if bt630.2 = 0 then ((lot_Parse.f k bt630.1).bind fun bt632 => (if bt632.2.2 = 0 then (if bt632.2.1 = (-1) then ((spileref22_Same.f k bt632.1 x0).bind fun t637 => (if t637 = true then (spilelaw22_LotBack.j1 k x1) else (some false))) else (some false)) else (some false))) else (if bt630.1.toList = ([] : List UInt8) then (spilelaw22_LotBack.j1 k x1) else (some false))))
def spilelaw22_LotBack.j1 : Nat → ByteArray → Option (Bool)
 | 0, _ => none
 | k + 1, x1 => (lot_Parse.f k x1).bind fun bt638 => (if bt638.2.2 = 0 then ((lot_Print.f k bt638.1).bind fun bt643 => (if bt643.2 = 0 then (some (bt643.1.toList == x1.toList)) else (some false))) else (some ((bt638.1.length : Int) == 0)))
end
def spilelaw22_LotBack.f (k : Nat) (l0 : List (S33)) (a1 : ByteArray) : Option (Bool) := (spilelaw22_awake.f).bind fun t628 => (if t628 = true then ((spileref22_Few.f k l0).bind fun t629 => (if t629 = true then (spilelaw22_LotBack.j0 k l0 a1 (decide ((a1.size : Int) > 1000))) else (spilelaw22_LotBack.j0 k l0 a1 true))) else (some false))
set_option maxHeartbeats 8000000 in
set_option maxRecDepth 100000 in
theorem spilelaw22_LotBack.calls (k : Nat) (A0 : Option Addr) (c0 : Nat) (l0 : List (S33)) (a1 : ByteArray) (r : Bool) (w : World) (hr0 : Kd.C k33 w A0 l0.length l0) (hc0 : l0.length ≤ c0) (hG : GI w) (hr_ : r = true) (h : spilelaw22_LotBack.f k l0 a1 = some r) :
  Calls Tryd.prog 9 #[.slice A0 l0.length c0, .string a1] w fun e w' => e = .returned (.bool r) ∧ Below w.heap.size w w' := by
 have HR0 := Aside0.mk hr0
 have HC0 := Aside0.mk hc0
 clear hr0 hc0
 have HG := Aside0.mk hG
 clear hG
 have HB := Aside0.mk (Below.refl w.heap.size w)
 have H : ((spilelaw22_awake.f).bind fun t628 => (if t628 = true then ((spileref22_Few.f k l0).bind fun t629 => (if t629 = true then (spilelaw22_LotBack.j0 k l0 a1 (decide ((a1.size : Int) > 1000))) else (spilelaw22_LotBack.j0 k l0 a1 true))) else (some false))) = some r := h
 clear h
 replace H := Option.bind_eq_some_iff.mp H
 obtain ⟨t628, A30, H⟩ := H
 replace H : (if t628 = true then ((spileref22_Few.f k l0).bind fun t629 => (if t629 = true then (spilelaw22_LotBack.j0 k l0 a1 (decide ((a1.size : Int) > 1000))) else (spilelaw22_LotBack.j0 k l0 a1 true))) else (some false)) = some r := H
 have A3 := Aside0.mk A30
 clear A30
 by_cases c4 : t628 = true
 ·
  subst c4
  have H1 : ((spileref22_Few.f k l0).bind fun t629 => (if t629 = true then (spilelaw22_LotBack.j0 k l0 a1 (decide ((a1.size : Int) > 1000))) else (spilelaw22_LotBack.j0 k l0 a1 true))) = some r := by rw [if_pos rfl] at H; exact H
  clear H
  have H := H1
  clear H1
  have HC5 := Aside0.mk H
  clear H
  go_enter Tryd.func9, Tryd.ntmps9
  go_upto_region 3 with (first | ((with_reducible refine gate_callee (f := 10) rfl ?_); refine goesL_ (some 15) rfl rfl Tryd.func10 (by kernel_rfl) rfl #[] rfl (by (try simp only [List.map_toArray, List.map_cons, List.map_nil]); first | done | rfl | (simp only [List.length_drop, List.length_take]; rfl)) ?_; (with_reducible refine (spilelaw22_awake.calls  true _ ?side1 A3.out).mono ?_); (case side1 => exact GI.below HG.out (by repeat (first | (with_reducible first | exact HB.out | apply below_alloc | apply pw_below_drewN | apply below_drew1) | exact HB.out))); rintro e w6 ⟨rfl, hb⟩; refine ⟨_, rfl, ?_⟩; have n0_ := Aside0.mk (below_step (by repeat (first | (with_reducible first | exact HB.out | apply below_alloc | apply pw_below_drewN | apply below_drew1) | exact HB.out)) hb); clear HB; have HB := n0_; clear n0_; (try clear hb); (try clear hb2); (try clear hk); (try clear hi)))
  (try simp only [Act.put, List.setIfInBounds_toArray, List.set_cons_zero, List.set_cons_succ])
  go_cut [24] (fun v24 wc => ∃ (kq : Nat) (x24_4 : Bool), v24 = .bool x24_4 ∧ Aside0 (spilelaw22_LotBack.j0 kq l0 a1 x24_4 = some r) ∧ Aside0 (kq ≤ k) ∧ Aside0 (Below w.heap.size w wc))
  case first =>
   have H := HC5.out
   clear HC5
   replace H := Option.bind_eq_some_iff.mp H
   obtain ⟨t629, A70, H⟩ := H
   replace H : (if t629 = true then (spilelaw22_LotBack.j0 k l0 a1 (decide ((a1.size : Int) > 1000))) else (spilelaw22_LotBack.j0 k l0 a1 true)) = some r := H
   have A7 := Aside0.mk A70
   clear A70
   by_cases c8 : t629 = true
   ·
    subst c8
    have H1 : (spilelaw22_LotBack.j0 k l0 a1 (decide ((a1.size : Int) > 1000))) = some r := by rw [if_pos rfl] at H; exact H
    clear H
    have H := H1
    clear H1
    have H' := Aside0.mk H
    clear H
    go_wp2_with (first | ((with_reducible refine gate_callee (f := 11) rfl ?_); refine goesL_ (some 18) rfl rfl Tryd.func11 (by kernel_rfl) rfl #[.slice A0 l0.length c0] rfl (by (try simp only [List.map_toArray, List.map_cons, List.map_nil]); first | done | rfl | (simp only [List.length_drop, List.length_take]; rfl)) ?_; (with_reducible refine (spileref22_Few.calls k _ _ l0 true _ ?side1 ?side2 A7.out).mono ?_); (case side1 => repeat (first | exact (Kd.C_below HR0.out HB.out) | (with_reducible refine Kd.C_alloc ?_ _) | (with_reducible refine Kd.C_drewN ?_ _) | (with_reducible refine Kd.C_drew ?_))); (case side2 => exact HC0.out); rintro e w' ⟨rfl, ⟨nd, rfl⟩⟩; refine ⟨_, rfl, ?_⟩))
    go_meet
    case rel => exact ⟨_, (decide ((a1.size : Int) > 1000)), (by first | rfl | (simp; done) | (simp [*]; done)), H', ⟨by first | omega | exact Nat.le_refl _⟩, ⟨by repeat (first | (with_reducible first | exact HB.out | apply below_alloc | apply pw_below_drewN | apply below_drew1) | exact HB.out)⟩⟩
   ·
    replace c8 := Bool.eq_false_iff.mpr c8
    subst c8
    have H1 : (spilelaw22_LotBack.j0 k l0 a1 true) = some r := by rw [if_neg (show ¬ (false = true) by decide)] at H; exact H
    clear H
    have H := H1
    clear H1
    have H' := Aside0.mk H
    clear H
    go_wp2_with (first | ((with_reducible refine gate_callee (f := 11) rfl ?_); refine goesL_ (some 18) rfl rfl Tryd.func11 (by kernel_rfl) rfl #[.slice A0 l0.length c0] rfl (by (try simp only [List.map_toArray, List.map_cons, List.map_nil]); first | done | rfl | (simp only [List.length_drop, List.length_take]; rfl)) ?_; (with_reducible refine (spileref22_Few.calls k _ _ l0 false _ ?side1 ?side2 A7.out).mono ?_); (case side1 => repeat (first | exact (Kd.C_below HR0.out HB.out) | (with_reducible refine Kd.C_alloc ?_ _) | (with_reducible refine Kd.C_drewN ?_ _) | (with_reducible refine Kd.C_drew ?_))); (case side2 => exact HC0.out); rintro e w' ⟨rfl, ⟨nd, rfl⟩⟩; refine ⟨_, rfl, ?_⟩))
    go_meet
    case rel => exact ⟨_, (true), (by first | rfl | (simp; done) | (simp [*]; done)), H', ⟨by first | omega | exact Nat.le_refl _⟩, ⟨by repeat (first | (with_reducible first | exact HB.out | apply below_alloc | apply pw_below_drewN | apply below_drew1) | exact HB.out)⟩⟩
  case rest =>
   clear HC5
   try clear c1
   try clear p2
   try clear c4
   try clear c8
   obtain ⟨kq, x24_4, rfl, HA, HJ4, HB⟩ := hcut
   cases kq with
   | zero => exact absurd HA.out (by simp [spilelaw22_LotBack.j0])
   | succ kj4 =>
    have H := HA.out
    clear HA
    simp only [spilelaw22_LotBack.j0] at H
    by_cases c9 : x24_4 = true
    ·
     subst c9
     have H1 : (some true) = some r := by rw [if_pos rfl] at H; exact H
     clear H
     have H := H1
     clear H1
     obtain rfl := Option.some.inj H
     go_wp2
     go_ret
     exact ⟨by first | rfl | (simp [errW_none, errW_some] <;> rfl) | (simp [*, errW_none, errW_some] <;> rfl), by repeat (first | (with_reducible first | exact HB.out | apply below_alloc | apply pw_below_drewN | apply below_drew1) | exact HB.out)⟩
    ·
     replace c9 := Bool.eq_false_iff.mpr c9
     subst c9
     have H1 : ((lot_Print.f kj4 l0).bind fun bt630 => (if bt630.2 = 0 then ((lot_Parse.f kj4 bt630.1).bind fun bt632 => (if bt632.2.2 = 0 then (if bt632.2.1 = (-1) then ((spileref22_Same.f kj4 bt632.1 l0).bind fun t637 => (if t637 = true then (spilelaw22_LotBack.j1 kj4 a1) else (some false))) else (some false)) else (some false))) else (if bt630.1.toList = ([] : List UInt8) then (spilelaw22_LotBack.j1 kj4 a1) else (some false)))) = some r := by rw [if_neg (show ¬ (false = true) by decide)] at H; exact H
     clear H
     have H := H1
     clear H1
     replace H := Option.bind_eq_some_iff.mp H
     obtain ⟨⟨t630, t631⟩, A100, H⟩ := H
     replace H : (if t631 = 0 then ((lot_Parse.f kj4 t630).bind fun bt632 => (if bt632.2.2 = 0 then (if bt632.2.1 = (-1) then ((spileref22_Same.f kj4 bt632.1 l0).bind fun t637 => (if t637 = true then (spilelaw22_LotBack.j1 kj4 a1) else (some false))) else (some false)) else (some false))) else (if t630.toList = ([] : List UInt8) then (spilelaw22_LotBack.j1 kj4 a1) else (some false))) = some r := H
     have A10 := Aside0.mk A100
     clear A100
     have HC11 := Aside0.mk H
     clear H
     go_upto_if 31 with (first | ((with_reducible refine gate_callee (f := 30) rfl ?_); refine goesL_ (some 27) rfl rfl Tryd.func30 (by kernel_rfl) rfl #[.slice A0 l0.length c0] rfl (by (try simp only [List.map_toArray, List.map_cons, List.map_nil]); first | done | rfl | (simp only [List.length_drop, List.length_take]; rfl)) ?_; (with_reducible refine (lot_Print.calls kj4 _ _ l0 t630 t631 _ ?side1 ?side2 ?side3 A10.out).mono ?_); (case side1 => repeat (first | exact (Kd.C_below HR0.out HB.out) | (with_reducible refine Kd.C_alloc ?_ _) | (with_reducible refine Kd.C_drewN ?_ _) | (with_reducible refine Kd.C_drew ?_))); (case side2 => exact HC0.out); (case side3 => exact GI.below HG.out (by repeat (first | (with_reducible first | exact HB.out | apply below_alloc | apply pw_below_drewN | apply below_drew1) | exact HB.out))); rintro e w12 ⟨rfl, hb⟩; refine ⟨_, rfl, ?_⟩; have n0_ := Aside0.mk (below_step (by repeat (first | (with_reducible first | exact HB.out | apply below_alloc | apply pw_below_drewN | apply below_drew1) | exact HB.out)) hb); clear HB; have HB := n0_; clear n0_; (try clear hb); (try clear hb2); (try clear hk); (try clear hi)))
     (try simp only [Act.put, List.setIfInBounds_toArray, List.set_cons_zero, List.set_cons_succ])
     go_cut [] (fun wc => ∃ (kq : Nat), Aside0 (spilelaw22_LotBack.j1 kq a1 = some r) ∧ Aside0 (kq ≤ kj4) ∧ Aside0 (Below w.heap.size w wc))
     case first =>
      have H := HC11.out
      clear HC11
      by_cases c13 : t631 = 0
      ·
       rw [if_pos c13] at H
       have c13b0 : (t631 == 0) = true := beq_iff_eq.mpr c13
       have c13b1 : (t631 != 0) = false := bne_eq_false_iff_eq.mpr c13
       clear c13
       (first | rw [c13b0] | (simp only [i64_w, i32_w]; rw [c13b0]) | skip)
       replace H := Option.bind_eq_some_iff.mp H
       obtain ⟨⟨t632, t633, t634⟩, A140, H⟩ := H
       replace H : (if t634 = 0 then (if t633 = (-1) then ((spileref22_Same.f kj4 t632 l0).bind fun t637 => (if t637 = true then (spilelaw22_LotBack.j1 kj4 a1) else (some false))) else (some false)) else (some false)) = some r := H
       have A14 := Aside0.mk A140
       clear A140
       by_cases c15 : t634 = 0
       ·
        rw [if_pos c15] at H
        have c15b0 : (t634 == 0) = true := beq_iff_eq.mpr c15
        have c15b1 : (t634 != 0) = false := bne_eq_false_iff_eq.mpr c15
        clear c15
        by_cases c16 : t633 = (-1)
        ·
         rw [if_pos c16] at H
         have c16b0 : (t633 == (-1)) = true := beq_iff_eq.mpr c16
         have c16b1 : (t633 != (-1)) = false := bne_eq_false_iff_eq.mpr c16
         clear c16
         replace H := Option.bind_eq_some_iff.mp H
         obtain ⟨t637, A170, H⟩ := H
         replace H : (if t637 = true then (spilelaw22_LotBack.j1 kj4 a1) else (some false)) = some r := H
         have A17 := Aside0.mk A170
         clear A170
         by_cases c18 : t637 = true
         ·
          subst c18
          have H1 : (spilelaw22_LotBack.j1 kj4 a1) = some r := by rw [if_pos rfl] at H; exact H
          clear H
          have H := H1
          clear H1
          have H' := Aside0.mk H
          clear H
          go_wp2_with (first | ((with_reducible refine gate_callee (f := 32) rfl ?_); refine goesL_ (some 34) rfl rfl Tryd.func32 (by kernel_rfl) rfl #[.string t630] rfl (by (try simp only [List.map_toArray, List.map_cons, List.map_nil]); first | done | rfl | (simp only [List.length_drop, List.length_take]; rfl)) ?_; (with_reducible refine (lot_Parse.calls kj4 t630 t632 t633 t634 _ ?side1 A14.out).mono ?_); (case side1 => exact GI.below HG.out (by repeat (first | (with_reducible first | exact HB.out | apply below_alloc | apply pw_below_drewN | apply below_drew1) | exact HB.out))); rintro e w19 ⟨v635, rfl, ho0, hb⟩; refine ⟨_, rfl, ?_⟩; have n0_ := Aside0.mk (Kd.S_lower ho0 (below_size (by repeat (first | (with_reducible first | exact HB.out | apply below_alloc | apply pw_below_drewN | apply below_drew1) | exact HB.out)))); have n1_ := Aside0.mk (below_step (by repeat (first | (with_reducible first | exact HB.out | apply below_alloc | apply pw_below_drewN | apply below_drew1) | exact HB.out)) hb); clear HB; have HO636 := n0_; have HB := n1_; clear n0_ n1_; (try clear hb); (try clear hb2); (try clear hk); (try clear hi); (try clear ho0); obtain ⟨Ao20, co20, eo20⟩ := Kd.S_slice HO636.out; subst eo20) | (go_at_call 24; (with_reducible refine (spileref22_Same.calls kj4 _ _ t632 _ _ l0 true _ ?side1 ?side2 ?side3 ?side4 A17.out).mono ?_); (case side1 => repeat (first | exact (Kd.S_reads' HO636.out).2.2 | (with_reducible refine Kd.C_alloc ?_ _) | (with_reducible refine Kd.C_drewN ?_ _) | (with_reducible refine Kd.C_drew ?_))); (case side2 => exact (Kd.S_reads' HO636.out).2.1); (case side3 => repeat (first | exact (Kd.C_below HR0.out HB.out) | (with_reducible refine Kd.C_alloc ?_ _) | (with_reducible refine Kd.C_drewN ?_ _) | (with_reducible refine Kd.C_drew ?_))); (case side4 => exact HC0.out); rintro e w21 ⟨rfl, hb⟩; have n0_ := Aside0.mk (Kd.S_below (by (with_reducible repeat (first | apply Kd.S_alloc | apply Kd.S_drewN | apply Kd.S_drew)); exact HO636.out) hb); have n1_ := Aside0.mk (below_step (by repeat (first | (with_reducible first | exact HB.out | apply below_alloc | apply pw_below_drewN | apply below_drew1) | exact HB.out)) hb); clear HO636; clear HB; have HO636 := n0_; have HB := n1_; clear n0_ n1_; (try clear hb); (try clear hb2); (try clear hk); (try clear hi)))
          go_meet
          case rel => exact ⟨_, H', ⟨by have := HJ4.out; first | omega | exact Nat.le_refl _⟩, ⟨by repeat (first | (with_reducible first | exact HB.out | apply below_alloc | apply pw_below_drewN | apply below_drew1) | exact HB.out)⟩⟩
         ·
          replace c18 := Bool.eq_false_iff.mpr c18
          subst c18
          have H1 : (some false) = some r := by rw [if_neg (show ¬ (false = true) by decide)] at H; exact H
          clear H
          have H := H1
          clear H1
          subst hr_
          exact absurd H (by simp)
        ·
         rw [if_neg c16] at H
         have c16b0 : (t633 == (-1)) = false := beq_eq_false_iff_ne.mpr c16
         have c16b1 : (t633 != (-1)) = true := bne_iff_ne.mpr c16
         subst hr_
         exact absurd H (by simp)
       ·
        rw [if_neg c15] at H
        have c15b0 : (t634 == 0) = false := beq_eq_false_iff_ne.mpr c15
        have c15b1 : (t634 != 0) = true := bne_iff_ne.mpr c15
        subst hr_
        exact absurd H (by simp)
      ·
       rw [if_neg c13] at H
       have c13b0 : (t631 == 0) = false := beq_eq_false_iff_ne.mpr c13
       have c13b1 : (t631 != 0) = true := bne_iff_ne.mpr c13
       (first | rw [c13b0] | (simp only [i64_w, i32_w]; rw [c13b0]) | skip)
       by_cases c22 : t630.toList = ([] : List UInt8)
       ·
        rw [if_pos c22] at H
        have c22b0 : (t630.toList == ([] : List UInt8)) = true := beq_iff_eq.mpr c22
        have c22b1 : (t630.toList != ([] : List UInt8)) = false := bne_eq_false_iff_eq.mpr c22
        clear c22
        have H' := Aside0.mk H
        clear H
        go_wp2
        go_meet
        case rel => exact ⟨_, H', ⟨by have := HJ4.out; first | omega | exact Nat.le_refl _⟩, ⟨by repeat (first | (with_reducible first | exact HB.out | apply below_alloc | apply pw_below_drewN | apply below_drew1) | exact HB.out)⟩⟩
       ·
        rw [if_neg c22] at H
        have c22b0 : (t630.toList == ([] : List UInt8)) = false := beq_eq_false_iff_ne.mpr c22
        have c22b1 : (t630.toList != ([] : List UInt8)) = true := bne_iff_ne.mpr c22
        subst hr_
        exact absurd H (by simp)
     case rest =>
      clear HC11
      try clear c1
      try clear c2
      try clear p2
      try clear c3
      try clear c4
      try clear c8
      try clear c9
      try clear c10
      try clear c11
      try clear c13
      try clear c13b0
      try clear c13b1
      try clear c15
      try clear c15b0
      try clear c15b1
      try clear c16
      try clear c16b0
      try clear c16b1
      try clear c18
      try clear c22
      try clear c22b0
      try clear c22b1
      try clear p2
      obtain ⟨kq, HA, HJ10, HB⟩ := hcut
      cases kq with
      | zero => exact absurd HA.out (by simp [spilelaw22_LotBack.j1])
      | succ kj10 =>
       have H := HA.out
       clear HA
       simp only [spilelaw22_LotBack.j1] at H
       replace H := Option.bind_eq_some_iff.mp H
       obtain ⟨⟨t638, t639, t640⟩, A230, H⟩ := H
       replace H : (if t640 = 0 then ((lot_Print.f kj10 t638).bind fun bt643 => (if bt643.2 = 0 then (some (bt643.1.toList == a1.toList)) else (some false))) else (some ((t638.length : Int) == 0))) = some r := H
       have A23 := Aside0.mk A230
       clear A230
       by_cases c24 : t640 = 0
       ·
        rw [if_pos c24] at H
        have c24b0 : (t640 == 0) = true := beq_iff_eq.mpr c24
        have c24b1 : (t640 != 0) = false := bne_eq_false_iff_eq.mpr c24
        clear c24
        replace H := Option.bind_eq_some_iff.mp H
        obtain ⟨⟨t643, t644⟩, A250, H⟩ := H
        replace H : (if t644 = 0 then (some (t643.toList == a1.toList)) else (some false)) = some r := H
        have A25 := Aside0.mk A250
        clear A250
        by_cases c26 : t644 = 0
        ·
         rw [if_pos c26] at H
         have c26b0 : (t644 == 0) = true := beq_iff_eq.mpr c26
         have c26b1 : (t644 != 0) = false := bne_eq_false_iff_eq.mpr c26
         clear c26
         obtain rfl := Option.some.inj H
         go_wp2_with (first | ((with_reducible refine gate_callee (f := 32) rfl ?_); refine goesL_ (some 54) rfl rfl Tryd.func32 (by kernel_rfl) rfl #[.string a1] rfl (by (try simp only [List.map_toArray, List.map_cons, List.map_nil]); first | done | rfl | (simp only [List.length_drop, List.length_take]; rfl)) ?_; (with_reducible refine (lot_Parse.calls kj10 a1 t638 t639 t640 _ ?side1 A23.out).mono ?_); (case side1 => exact GI.below HG.out (by repeat (first | (with_reducible first | exact HB.out | apply below_alloc | apply pw_below_drewN | apply below_drew1) | exact HB.out))); rintro e w27 ⟨v641, rfl, ho0, hb⟩; refine ⟨_, rfl, ?_⟩; have n0_ := Aside0.mk (Kd.S_lower ho0 (below_size (by repeat (first | (with_reducible first | exact HB.out | apply below_alloc | apply pw_below_drewN | apply below_drew1) | exact HB.out)))); have n1_ := Aside0.mk (below_step (by repeat (first | (with_reducible first | exact HB.out | apply below_alloc | apply pw_below_drewN | apply below_drew1) | exact HB.out)) hb); clear HB; have HO642 := n0_; have HB := n1_; clear n0_ n1_; (try clear hb); (try clear hb2); (try clear hk); (try clear hi); (try clear ho0); obtain ⟨Ao28, co28, eo28⟩ := Kd.S_slice HO642.out; subst eo28) | ((with_reducible refine gate_callee (f := 30) rfl ?_); refine goesL_ (some 65) rfl rfl Tryd.func30 (by kernel_rfl) rfl #[.slice Ao28 t638.length co28] rfl (by (try simp only [List.map_toArray, List.map_cons, List.map_nil]); first | done | rfl | (simp only [List.length_drop, List.length_take]; rfl)) ?_; (with_reducible refine (lot_Print.calls kj10 _ _ t638 t643 t644 _ ?side1 ?side2 ?side3 A25.out).mono ?_); (case side1 => repeat (first | exact (Kd.S_reads' HO642.out).2.2 | (with_reducible refine Kd.C_alloc ?_ _) | (with_reducible refine Kd.C_drewN ?_ _) | (with_reducible refine Kd.C_drew ?_))); (case side2 => exact (Kd.S_reads' HO642.out).2.1); (case side3 => exact GI.below HG.out (by repeat (first | (with_reducible first | exact HB.out | apply below_alloc | apply pw_below_drewN | apply below_drew1) | exact HB.out))); rintro e w29 ⟨rfl, hb⟩; refine ⟨_, rfl, ?_⟩; have n0_ := Aside0.mk (Kd.S_below (by (with_reducible repeat (first | apply Kd.S_alloc | apply Kd.S_drewN | apply Kd.S_drew)); exact HO642.out) hb); have n1_ := Aside0.mk (below_step (by repeat (first | (with_reducible first | exact HB.out | apply below_alloc | apply pw_below_drewN | apply below_drew1) | exact HB.out)) hb); clear HO642; clear HB; have HO642 := n0_; have HB := n1_; clear n0_ n1_; (try clear hb); (try clear hb2); (try clear hk); (try clear hi)))
         go_ret
         exact ⟨by first | rfl | (simp [errW_none, errW_some] <;> rfl) | (simp [*, errW_none, errW_some] <;> rfl), by repeat (first | (with_reducible first | exact HB.out | apply below_alloc | apply pw_below_drewN | apply below_drew1) | exact HB.out)⟩
        ·
         rw [if_neg c26] at H
         have c26b0 : (t644 == 0) = false := beq_eq_false_iff_ne.mpr c26
         have c26b1 : (t644 != 0) = true := bne_iff_ne.mpr c26
         subst hr_
         exact absurd H (by simp)
       ·
        rw [if_neg c24] at H
        have c24b0 : (t640 == 0) = false := beq_eq_false_iff_ne.mpr c24
        have c24b1 : (t640 != 0) = true := bne_iff_ne.mpr c24
        obtain rfl := Option.some.inj H
        go_wp2_with (first | ((with_reducible refine gate_callee (f := 32) rfl ?_); refine goesL_ (some 54) rfl rfl Tryd.func32 (by kernel_rfl) rfl #[.string a1] rfl (by (try simp only [List.map_toArray, List.map_cons, List.map_nil]); first | done | rfl | (simp only [List.length_drop, List.length_take]; rfl)) ?_; (with_reducible refine (lot_Parse.calls kj10 a1 t638 t639 t640 _ ?side1 A23.out).mono ?_); (case side1 => exact GI.below HG.out (by repeat (first | (with_reducible first | exact HB.out | apply below_alloc | apply pw_below_drewN | apply below_drew1) | exact HB.out))); rintro e w30 ⟨v641, rfl, ho0, hb⟩; refine ⟨_, rfl, ?_⟩; have n0_ := Aside0.mk (Kd.S_lower ho0 (below_size (by repeat (first | (with_reducible first | exact HB.out | apply below_alloc | apply pw_below_drewN | apply below_drew1) | exact HB.out)))); have n1_ := Aside0.mk (below_step (by repeat (first | (with_reducible first | exact HB.out | apply below_alloc | apply pw_below_drewN | apply below_drew1) | exact HB.out)) hb); clear HB; have HO642 := n0_; have HB := n1_; clear n0_ n1_; (try clear hb); (try clear hb2); (try clear hk); (try clear hi); (try clear ho0); obtain ⟨Ao31, co31, eo31⟩ := Kd.S_slice HO642.out; subst eo31))
        go_ret
        exact ⟨by first | rfl | (simp [errW_none, errW_some] <;> rfl) | (simp [*, errW_none, errW_some] <;> rfl), by repeat (first | (with_reducible first | exact HB.out | apply below_alloc | apply pw_below_drewN | apply below_drew1) | exact HB.out)⟩
 ·
  replace c4 := Bool.eq_false_iff.mpr c4
  subst c4
  have H1 : (some false) = some r := by rw [if_neg (show ¬ (false = true) by decide)] at H; exact H
  clear H
  have H := H1
  clear H1
  subst hr_
  exact absurd H (by simp)
end Go.Proofs.YtgjoenoknknoiaaDoor.Pr
namespace Go.Proofs.YtgjoenoknknoiaaDoor.Opn
open Go Go.RowKit Go.Proofs.YtgjoenoknknoiaaDoorW.PrintWords Go.Proofs.YtgjoenoknknoiaaDoor.O Go.Proofs.YtgjoenoknknoiaaDoor.Pr
theorem opens3 : Opens Tryd.prog 3 (Kd.int .i64) (fun x => (Lit.int .i64 x).wf = true) := opens_int Tryd.underlying3 (by kernel_rfl)
def ok26 (x : S26) : Prop := (Lit.int .i64 x.f0).wf = true ∧ (Lit.int .i64 x.f1).wf = true
theorem opens26 : Opens Tryd.prog 26 k26 ok26 :=
  ⟨by kernel_rfl, fun H enc w base sp held fuel cs x h => by
    obtain ⟨xs, n, _, _, hl, hx, hf⟩ := DataW.trod_struct Tryd.underlying26 h
    have hc_ : Tryd.prog.cellsOf 26 = 2 := by kernel_rfl
    rw [hc_] at hl
    obtain ⟨c0, c1, rfl⟩ : ∃ c0 c1, cs = [c0, c1] := by
      clear h hf hx
      rcases cs with _ | ⟨c0, _ | ⟨c1, _ | ⟨_, _⟩⟩⟩
      all_goals first | exact ⟨_, _, rfl⟩ | (simp at hl)
    obtain ⟨y0, hy0⟩ : ∃ y, xs[0]? = some y := ⟨xs[0]'(by rw [hx]; decide), List.getElem?_eq_getElem _⟩
    have e0 : DataW.trod enc Tryd.prog w base sp held n 3 ((List.drop 0 [c0, c1]).take (Tryd.prog.cellsOf 3)) = xs[0]? := hf 0 _ rfl
    rw [hy0, show Tryd.prog.cellsOf 3 = 1 from by kernel_rfl] at e0
    obtain ⟨v0, K0, o0⟩ := opens3.2 H enc w base sp held n _ _ e0
    replace K0 : (Kd.int .i64).K w v0 [c0] := K0
    obtain ⟨y1, hy1⟩ : ∃ y, xs[1]? = some y := ⟨xs[1]'(by rw [hx]; decide), List.getElem?_eq_getElem _⟩
    have e1 : DataW.trod enc Tryd.prog w base sp held n 3 ((List.drop 1 [c0, c1]).take (Tryd.prog.cellsOf 3)) = xs[1]? := hf 1 _ rfl
    rw [hy1, show Tryd.prog.cellsOf 3 = 1 from by kernel_rfl] at e1
    obtain ⟨v1, K1, o1⟩ := opens3.2 H enc w base sp held n _ _ e1
    replace K1 : (Kd.int .i64).K w v1 [c1] := K1
    obtain rfl : c0 = _ := List.singleton_inj.1 K0
    obtain rfl : c1 = _ := List.singleton_inj.1 K1
    refine ⟨⟨v0, v1⟩, ?_, o0, o1⟩
    exact k26_mk w ⟨v0, v1⟩ ⟩
def ok35 (x : S35) : Prop := (Lit.int .i64 x.f0).wf = true ∧ (Lit.int .i64 x.f1).wf = true
theorem opens35 : Opens Tryd.prog 35 k35 ok35 :=
  ⟨by kernel_rfl, fun H enc w base sp held fuel cs x h => by
    obtain ⟨xs, n, _, _, hl, hx, hf⟩ := DataW.trod_struct Tryd.underlying35 h
    have hc_ : Tryd.prog.cellsOf 35 = 2 := by kernel_rfl
    rw [hc_] at hl
    obtain ⟨c0, c1, rfl⟩ : ∃ c0 c1, cs = [c0, c1] := by
      clear h hf hx
      rcases cs with _ | ⟨c0, _ | ⟨c1, _ | ⟨_, _⟩⟩⟩
      all_goals first | exact ⟨_, _, rfl⟩ | (simp at hl)
    obtain ⟨y0, hy0⟩ : ∃ y, xs[0]? = some y := ⟨xs[0]'(by rw [hx]; decide), List.getElem?_eq_getElem _⟩
    have e0 : DataW.trod enc Tryd.prog w base sp held n 3 ((List.drop 0 [c0, c1]).take (Tryd.prog.cellsOf 3)) = xs[0]? := hf 0 _ rfl
    rw [hy0, show Tryd.prog.cellsOf 3 = 1 from by kernel_rfl] at e0
    obtain ⟨v0, K0, o0⟩ := opens3.2 H enc w base sp held n _ _ e0
    replace K0 : (Kd.int .i64).K w v0 [c0] := K0
    obtain ⟨y1, hy1⟩ : ∃ y, xs[1]? = some y := ⟨xs[1]'(by rw [hx]; decide), List.getElem?_eq_getElem _⟩
    have e1 : DataW.trod enc Tryd.prog w base sp held n 3 ((List.drop 1 [c0, c1]).take (Tryd.prog.cellsOf 3)) = xs[1]? := hf 1 _ rfl
    rw [hy1, show Tryd.prog.cellsOf 3 = 1 from by kernel_rfl] at e1
    obtain ⟨v1, K1, o1⟩ := opens3.2 H enc w base sp held n _ _ e1
    replace K1 : (Kd.int .i64).K w v1 [c1] := K1
    obtain rfl : c0 = _ := List.singleton_inj.1 K0
    obtain rfl : c1 = _ := List.singleton_inj.1 K1
    refine ⟨⟨v0, v1⟩, ?_, o0, o1⟩
    exact k35_mk w ⟨v0, v1⟩ ⟩
theorem opens31 : Opens Tryd.prog 31 (Kd.slice 35 k35) (fun x => (x.length ≤ maxLen ∧ ∀ x0_, x0_ ∈ x → ok35 x0_)) := opens_slice (P := Tryd.prog) (t := 31) (e := 35) Tryd.underlying31 (by kernel_rfl) opens35
def ok33 (x : S33) : Prop := (Lit.int .i64 x.f0).wf = true ∧ ok26 x.f1 ∧ (x.f2.length ≤ maxLen ∧ ∀ x0_, x0_ ∈ x.f2 → ok35 x0_)
theorem opens33 : Opens Tryd.prog 33 k33 ok33 :=
  ⟨by kernel_rfl, fun H enc w base sp held fuel cs x h => by
    obtain ⟨xs, n, _, _, hl, hx, hf⟩ := DataW.trod_struct Tryd.underlying33 h
    have hc_ : Tryd.prog.cellsOf 33 = 4 := by kernel_rfl
    rw [hc_] at hl
    obtain ⟨c0, c1, c2, c3, rfl⟩ : ∃ c0 c1 c2 c3, cs = [c0, c1, c2, c3] := by
      clear h hf hx
      rcases cs with _ | ⟨c0, _ | ⟨c1, _ | ⟨c2, _ | ⟨c3, _ | ⟨_, _⟩⟩⟩⟩⟩
      all_goals first | exact ⟨_, _, _, _, rfl⟩ | (simp at hl)
    obtain ⟨y0, hy0⟩ : ∃ y, xs[0]? = some y := ⟨xs[0]'(by rw [hx]; decide), List.getElem?_eq_getElem _⟩
    have e0 : DataW.trod enc Tryd.prog w base sp held n 3 ((List.drop 0 [c0, c1, c2, c3]).take (Tryd.prog.cellsOf 3)) = xs[0]? := hf 0 _ rfl
    rw [hy0, show Tryd.prog.cellsOf 3 = 1 from by kernel_rfl] at e0
    obtain ⟨v0, K0, o0⟩ := opens3.2 H enc w base sp held n _ _ e0
    replace K0 : (Kd.int .i64).K w v0 [c0] := K0
    obtain ⟨y1, hy1⟩ : ∃ y, xs[1]? = some y := ⟨xs[1]'(by rw [hx]; decide), List.getElem?_eq_getElem _⟩
    have e1 : DataW.trod enc Tryd.prog w base sp held n 26 ((List.drop 1 [c0, c1, c2, c3]).take (Tryd.prog.cellsOf 26)) = xs[1]? := hf 1 _ rfl
    rw [hy1, show Tryd.prog.cellsOf 26 = 2 from by kernel_rfl] at e1
    obtain ⟨v1, K1, o1⟩ := opens26.2 H enc w base sp held n _ _ e1
    replace K1 : k26.K w v1 [c1, c2] := K1
    obtain ⟨y2, hy2⟩ : ∃ y, xs[2]? = some y := ⟨xs[2]'(by rw [hx]; decide), List.getElem?_eq_getElem _⟩
    have e2 : DataW.trod enc Tryd.prog w base sp held n 31 ((List.drop 3 [c0, c1, c2, c3]).take (Tryd.prog.cellsOf 31)) = xs[2]? := hf 2 _ rfl
    rw [hy2, show Tryd.prog.cellsOf 31 = 1 from by kernel_rfl] at e2
    obtain ⟨v2, K2, o2⟩ := opens31.2 H enc w base sp held n _ _ e2
    replace K2 : (Kd.slice 35 k35).K w v2 [c3] := K2
    obtain rfl : c0 = _ := List.singleton_inj.1 K0
    have Z1 := k26_open K1
    have w1 := Z1
    simp only [List.cons.injEq, and_true] at w1
    obtain ⟨rfl, rfl⟩ := w1
    obtain ⟨A2, q2, w2, m2, g2⟩ := K2
    obtain rfl : c3 = _ := List.singleton_inj.1 w2
    refine ⟨⟨v0, v1, v2⟩, ?_, o0, o1, o2⟩
    exact k33_mk w ⟨v0, v1, v2⟩ m2 g2⟩
theorem opens22 : Opens Tryd.prog 22 (Kd.slice 33 k33) (fun x => (x.length ≤ maxLen ∧ ∀ x0_, x0_ ∈ x → ok33 x0_)) := opens_slice (P := Tryd.prog) (t := 22) (e := 33) Tryd.underlying22 (by kernel_rfl) opens33
end Go.Proofs.YtgjoenoknknoiaaDoor.Opn
namespace Go.Proofs.YtgjoenoknknoiaaDoor.Pure
open Go Go.RowKit Go.Proofs.YtgjoenoknknoiaaDoor.Pr Go.Proofs.YtgjoenoknknoiaaDoor.Opn
def lotBackPure : Prop := ∀ (l0 : (List S33)) (a1 : ByteArray), (l0.length ≤ maxLen ∧ ∀ x0_, x0_ ∈ l0 → ok33 x0_) → a1.size ≤ maxLen → ∃ k, spilelaw22_LotBack.f k l0 a1 = some true
end Go.Proofs.YtgjoenoknknoiaaDoor.Pure
namespace Go.Proofs.YtgjoenoknknoiaaDoor.PL
open Go Go.RowKit Go.Proofs.YtgjoenoknknoiaaDoorW.PrintWords Go.Proofs.YtgjoenoknknoiaaDoorW.PrintLast Go.Proofs.YtgjoenoknknoiaaDoorW.PrintMore
theorem evp {α : Type} {c : Prop} [Decidable c] {g h : Nat → Option α} {r : α} (hc : c) (k : Ev g r) : Ev (fun n => if c then g n else h n) r :=
  Ev.congr (fun n => if_pos hc) k
theorem evn {α : Type} {c : Prop} [Decidable c] {g h : Nat → Option α} {r : α} (hc : ¬ c) (k : Ev h r) : Ev (fun n => if c then g n else h n) r :=
  Ev.congr (fun n => if_neg hc) k
theorem evb {α β : Type} {g : Nat → Option α} {f : Nat → α → Option β} {a : α} {r : β} (h : Ev g a) (k : Ev (fun n => f n a) r) : Ev (fun n => (g n).bind (f n)) r := Ev.bind h k
theorem evr {α : Type} {a r : α} (h : a = r) : Ev (fun _ => some a) r := by subst h; exact Ev.now _
theorem evc {α : Type} {g : Nat → Option α} {r : α} {o : Option α} (hg : ∀ n, g n = o) (h : o = some r) : Ev g r := by
  subst h
  exact Ev.congr hg (Ev.now _)
theorem ev_unique {α : Type} {g : Nat → Option α} {a b : α} (h : Ev g a) (h2 : Ev g b) : a = b := by
  obtain ⟨K, h⟩ := h
  obtain ⟨K2, h2⟩ := h2
  have e1 := h (K + K2) (by omega)
  have e2 := h2 (K + K2) (by omega)
  rw [e1] at e2
  exact Option.some.inj e2
/-- A loop that counts upwards to n. -/
theorem count_up (a n : Int) (P : Int → Prop) (hend : P n) (hround : ∀ i, a ≤ i → i < n → P (i + 1) → P i) : ∀ i, a ≤ i → i ≤ n → P i := by
  intro i h0 h1
  obtain ⟨d, hd⟩ : ∃ d : Nat, n - i = d := ⟨(n - i).toNat, by omega⟩
  induction d generalizing i with
  | zero =>
    obtain rfl : i = n := by omega
    exact hend
  | succ d ih => exact hround i h0 (by omega) (ih (i + 1) (by omega) (by omega) (by omega))
theorem w64 {x : Int} (h0 : -9223372036854775808 ≤ x) (h1 : x ≤ 9223372036854775807) : wrap64 x = x := by
  unfold wrap64
  omega
theorem w64_succ {i n : Int} (h0 : 0 ≤ i) (h : i < n) (hn : n ≤ 9223372036854775807) : wrap64 (i + 1) = i + 1 := w64 (by omega) (by omega)
theorem w64_pred {i n : Int} (h0 : 0 ≤ i) (h : i ≤ n) (hn : n ≤ 9223372036854775807) : wrap64 (i - 1) = i - 1 := w64 (by omega) (by omega)
theorem len_le {α : Type} {l : List α} (h : l.length ≤ maxLen) : (l.length : Int) ≤ 9223372036854775807 := by
  have : l.length ≤ 9223372036854775807 := by simpa [maxLen] using h
  omega
/-- A test that comes to true where P holds, and else to false. -/
def EvB (g : Nat → Option Bool) (P : Prop) : Prop := (P → Ev g true) ∧ (¬ P → Ev g false)
theorem EvB.map {g : Nat → Option Bool} {f : Nat → Bool → Option Bool} {P Q : Prop} (h : EvB g P) (ht : P → EvB (fun n => f n true) Q) (hf : ¬ P → EvB (fun n => f n false) Q) : EvB (fun n => (g n).bind (f n)) Q := by
  by_cases hp : P
  · exact ⟨fun q => Ev.bind (h.1 hp) ((ht hp).1 q), fun q => Ev.bind (h.1 hp) ((ht hp).2 q)⟩
  · exact ⟨fun q => Ev.bind (h.2 hp) ((hf hp).1 q), fun q => Ev.bind (h.2 hp) ((hf hp).2 q)⟩
end Go.Proofs.YtgjoenoknknoiaaDoor.PL
namespace Go.Proofs.YtgjoenoknknoiaaDoor.PL
open Go Go.RowKit Go.Proofs.YtgjoenoknknoiaaDoorW.PrintWords Go.Proofs.YtgjoenoknknoiaaDoorW.PrintLast Go.Proofs.YtgjoenoknknoiaaDoorW.PrintMore Go.Proofs.YtgjoenoknknoiaaDoor.Pr Go.Proofs.YtgjoenoknknoiaaDoor.TX Go.Proofs.YtgjoenoknknoiaaDoor.X
def ba (l : List UInt8) : ByteArray := ⟨l.toArray⟩
theorem ba_data (s : ByteArray) : ba s.data.toList = s := by obtain ⟨⟨l⟩⟩ := s; rfl
theorem ba_list (l : List UInt8) : (ba l).data.toList = l := rfl
theorem ba_toList (l : List UInt8) : (ba l).toList = l := by rw [Lib.toList_data]; rfl
theorem ba_size (l : List UInt8) : (ba l).size = l.length := rfl
theorem size_data (s : ByteArray) : s.data.toList.length = s.size := Array.length_toList
theorem ba_ex (s : ByteArray) (a b : Nat) : s.extract a b = ba ((s.data.toList.take b).drop a) := by
  rw [← ba_data (s.extract a b), Lib.extract_data, List.drop_take]
theorem ba_app (a b : List UInt8) : ba a ++ ba b = ba (a ++ b) := by
  rw [← ba_data (ba a ++ ba b)]
  congr 1
theorem byte_at (s : ByteArray) {i : Int} (h0 : 0 ≤ i) (h1 : i < (s.size : Int)) : ∃ b : UInt8, s.data.toList.drop i.toNat = b :: s.data.toList.drop (i + 1).toNat ∧
    s.data.toList.take (i + 1).toNat = s.data.toList.take i.toNat ++ [b] ∧ bt s i = (b.toNat : Int) := by
  have hl : i.toNat < s.data.toList.length := by rw [size_data]; omega
  refine ⟨s.data.toList[i.toNat], ?_, ?_, ?_⟩
  · rw [show (i + 1).toNat = i.toNat + 1 from by omega, ← List.drop_eq_getElem_cons hl]
  · rw [show (i + 1).toNat = i.toNat + 1 from by omega, List.take_add_one, List.getElem?_eq_getElem hl]; rfl
  · rw [← bt_at s i (by omega)]
    obtain ⟨⟨l⟩⟩ := s
    rfl
theorem take_end (s : ByteArray) : s.data.toList.take ((s.size : Int)).toNat = s.data.toList := by
  rw [show ((s.size : Int)).toNat = s.size from by omega, ← size_data, List.take_length]
theorem drop_end (s : ByteArray) : s.data.toList.drop ((s.size : Int)).toNat = [] := by
  rw [show ((s.size : Int)).toNat = s.size from by omega, ← size_data, List.drop_length]
def wrd (c : UInt8) : List UInt8 → List UInt8 → List (List UInt8)
  | p, [] => [p]
  | p, b :: r => if b = c then p :: wrd c [] r else wrd c (p ++ [b]) r
theorem wrd_cons (c b : UInt8) (p r : List UInt8) : wrd c p (b :: r) = if b = c then p :: wrd c [] r else wrd c (p ++ [b]) r := rfl
theorem wrd_eq (c : UInt8) : ∀ s p : List UInt8, wrd c p s = match parts c s with
    | [] => [p]
    | q :: t => (p ++ q) :: t
  | [], p => by simp [wrd, parts]
  | b :: r, p => by
    rw [wrd_cons, parts_cons]
    by_cases h : b = c
    · rw [if_pos h, if_pos h, wrd_eq c r []]
      cases hp : parts c r with
      | nil => exact absurd hp (parts_ne c r)
      | cons q t => simp
    · rw [if_neg h, if_neg h, wrd_eq c r (p ++ [b])]
      cases hp : parts c r with
      | nil => exact absurd hp (parts_ne c r)
      | cons q t => simp
theorem wrd_parts (c : UInt8) (s : List UInt8) : wrd c [] s = parts c s := by
  rw [wrd_eq]
  cases hp : parts c s with
  | nil => exact absurd hp (parts_ne c s)
  | cons q t => simp
theorem toNat_eq (b : UInt8) (n : Nat) (hn : n < 256) : ((b.toNat : Int) = (n : Int)) ↔ b = UInt8.ofNat n := by
  constructor
  · intro h
    refine UInt8.toNat_inj.1 ?_
    rw [UInt8.toNat_ofNat']; omega
  · rintro rfl
    rw [UInt8.toNat_ofNat']; omega
theorem words_ev (s : ByteArray) (hs : (s.size : Int) ≤ 4611686018427) : Ev (fun k => spileref16_Words.f k s) ((parts 32 s.data.toList).map ba) := by
  have key : ∀ i, 0 ≤ i → i ≤ (s.size : Int) → ∀ (out : List ByteArray) (fr : Int), 0 ≤ fr → fr ≤ i → (out.length : Int) ≤ i →
      Ev (fun k => spileref16_Words.l0 k s out fr i) (out ++ (wrd 32 ((s.data.toList.take i.toNat).drop fr.toNat) (s.data.toList.drop i.toNat)).map ba) := by
    refine count_up 0 (s.size : Int) _ ?_ ?_
    · intro out fr h0 h1 h2
      rw [drop_end]
      refine Ev.step (fun k => spileref16_Words.l0.eq_2 ..) (evp (by omega) (evp rfl (evp h0 (evp h1 (evp (by omega) (Ev.step (fun k => spileref16_Words.l0.eq_2 ..) (evn ?_ (evr ?_))))))))
      · rw [w64 (by omega) (by omega)]; omega
      · rw [ba_ex]; rfl
    · intro i h0 h1 ih out fr g0 g1 g2
      obtain ⟨b, e1, e2, e3⟩ := byte_at s h0 h1
      have hw : wrap64 (i + 1) = i + 1 := w64 (by omega) (by omega)
      have hlen : fr.toNat ≤ (s.data.toList.take i.toNat).length := by rw [List.length_take, size_data]; omega
      refine Ev.step (fun k => spileref16_Words.l0.eq_2 ..) (evp (by omega) (evn (by omega) (evp h0 (evp h1 ?_))))
      rw [e1, wrd_cons, hw, e3]
      by_cases c : b = 32
      · have q := ih (out ++ [s.extract fr.toNat i.toNat]) (i + 1) (by omega) (by omega) (by rw [List.length_append]; simp; omega)
        have z : (s.data.toList.take (i + 1).toNat).drop (i + 1).toNat = [] := List.drop_eq_nil_of_le (by rw [List.length_take]; omega)
        rw [z, List.append_assoc] at q
        rw [if_pos c]
        refine evp ((toNat_eq b 32 (by decide)).2 c) (evp g0 (evp g1 (evp (by omega) ?_)))
        rw [ba_ex] at q ⊢
        exact q
      · have q := ih out fr g0 (by omega) (by omega)
        rw [e2, List.drop_append_of_le_length hlen] at q
        rw [if_neg c]
        exact evn (fun h => c ((toNat_eq b 32 (by decide)).1 h)) q
  have := key 0 (by omega) (by omega) [] 0 (by omega) (by omega) (by simp)
  rw [show (0 : Int).toNat = 0 from rfl, List.take_zero, List.drop_zero, List.drop_zero, wrd_parts, List.nil_append] at this
  exact this
theorem split_ev (s : ByteArray) (hs : s.size < 4294967281) : strings_Split.f s ⟨#[32]⟩ = some ((parts 32 s.data.toList).map ba) := by
  unfold strings_Split.f
  rw [if_pos ⟨hs, rfl⟩]
  refine congrArg some ?_
  have e := Lib.splitB_data ⟨#[32]⟩ 0 (Lib.countB s ⟨#[32]⟩) s
  have e2 : Lib.splitK [32] 0 (Lib.countB s ⟨#[32]⟩) s.data.toList = parts 32 s.data.toList := split_eq 32 s.data.toList
  have e3 : (Lib.splitB ⟨#[32]⟩ 0 (Lib.countB s ⟨#[32]⟩) s).map (·.data.toList) = parts 32 s.data.toList := e.trans e2
  rw [← e3, List.map_map]
  refine (List.map_congr_left (fun x _ => ba_data x) |>.trans (List.map_id _)).symm
def lin : List UInt8 → List UInt8 → List (List UInt8) × Bool
  | p, [] => if p = [] then ([], true) else ([p], false)
  | p, b :: r => if b = 10 then (p :: (lin [] r).1, (lin [] r).2) else lin (p ++ [b]) r
theorem lin_cons (p : List UInt8) (b : UInt8) (r : List UInt8) : lin p (b :: r) = if b = 10 then (p :: (lin [] r).1, (lin [] r).2) else lin (p ++ [b]) r := rfl
theorem lin_cut : ∀ (s p : List UInt8), lin p s = if (cut1 10 s).2.2 = true then ((p ++ (cut1 10 s).1) :: (lin [] (cut1 10 s).2.1).1, (lin [] (cut1 10 s).2.1).2) else if p ++ s = [] then ([], true) else ([p ++ s], false)
  | [], p => by simp [lin, cut1]
  | b :: r, p => by
    rw [lin_cons, cut1_cons]
    by_cases h : b = 10
    · rw [if_pos h, if_pos h]; simp
    · rw [if_neg h, if_neg h, lin_cut r (p ++ [b])]
      simp
theorem lines_ev (s : ByteArray) (hs : (s.size : Int) ≤ 4611686018427) : Ev (fun k => spileref16_Lines.f k s) ((lin [] s.data.toList).1.map ba, (lin [] s.data.toList).2) := by
  have key : ∀ i, 0 ≤ i → i ≤ (s.size : Int) → ∀ (out : List ByteArray) (fr : Int), 0 ≤ fr → fr ≤ i → (out.length : Int) ≤ i →
      Ev (fun k => spileref16_Lines.l0 k s out fr i) (out ++ (lin ((s.data.toList.take i.toNat).drop fr.toNat) (s.data.toList.drop i.toNat)).1.map ba, (lin ((s.data.toList.take i.toNat).drop fr.toNat) (s.data.toList.drop i.toNat)).2) := by
    refine count_up 0 (s.size : Int) _ ?_ ?_
    · intro out fr h0 h1 h2
      rw [drop_end, take_end]
      refine Ev.step (fun k => spileref16_Lines.l0.eq_2 ..) (evn (by omega) ?_)
      unfold lin
      by_cases c : fr < (s.size : Int)
      · have hne : ¬ s.data.toList.drop fr.toNat = [] := fun e => by
          have := congrArg List.length e
          rw [List.length_drop, size_data] at this
          simp at this; omega
        rw [if_neg hne]
        refine evp c (evp h0 (evp h1 (evp (by omega) (evr ?_))))
        have ex : s.extract fr.toNat s.size = ba (s.data.toList.drop fr.toNat) := by
          rw [ba_ex, ← size_data, List.take_length]
        rw [ex]
        rfl
      · have he : s.data.toList.drop fr.toNat = [] := List.drop_eq_nil_of_le (by rw [size_data]; omega)
        rw [if_pos he]
        exact evn c (evr (by simp))
    · intro i h0 h1 ih out fr g0 g1 g2
      obtain ⟨b, e1, e2, e3⟩ := byte_at s h0 h1
      have hw : wrap64 (i + 1) = i + 1 := w64 (by omega) (by omega)
      have hlen : fr.toNat ≤ (s.data.toList.take i.toNat).length := by rw [List.length_take, size_data]; omega
      refine Ev.step (fun k => spileref16_Lines.l0.eq_2 ..) (evp h1 (evp h0 ?_))
      rw [e1, lin_cons, hw, e3]
      by_cases c : b = 10
      · have q := ih (out ++ [s.extract fr.toNat i.toNat]) (i + 1) (by omega) (by omega) (by rw [List.length_append]; simp; omega)
        have z : (s.data.toList.take (i + 1).toNat).drop (i + 1).toNat = [] := List.drop_eq_nil_of_le (by rw [List.length_take]; omega)
        rw [z, List.append_assoc] at q
        rw [if_pos c]
        refine evp ((toNat_eq b 10 (by decide)).2 c) (evp g0 (evp g1 (evp (by omega) (evp (by omega) ?_))))
        rw [ba_ex] at q ⊢
        exact q
      · have q := ih out fr g0 (by omega) (by omega)
        rw [e2, List.drop_append_of_le_length hlen] at q
        rw [if_neg c]
        exact evn (fun h => c ((toNat_eq b 10 (by decide)).1 h)) q
  have := key 0 (by omega) (by omega) [] 0 (by omega) (by omega) (by simp)
  rw [show (0 : Int).toNat = 0 from rfl, List.take_zero, List.drop_zero, List.drop_zero, List.nil_append] at this
  exact this
theorem cut_ev (s : ByteArray) (hs : s.size < 4294967281) : strings_Cut.f s ⟨#[10]⟩ = some (ba (cut1 10 s.data.toList).1, ba (cut1 10 s.data.toList).2.1, (cut1 10 s.data.toList).2.2) := by
  unfold strings_Cut.f
  rw [if_pos hs]
  have e : Lib.cut s.data.toList (⟨#[10]⟩ : ByteArray).data.toList = cut1 10 s.data.toList := cut_eq 10 s.data.toList
  rw [e]
  rfl
theorem number_loop (s : ByteArray) (hs : (s.size : Int) ≤ 18) : ∀ i, 0 ≤ i → i ≤ (s.size : Int) → ∀ n : Nat, n + 1 ≤ 10 ^ i.toNat →
    Ev (fun k => spileref16_Number.l0 k s (n : Int) i) (if (s.data.toList.drop i.toNat).all isDig = true then (((valFrom n (s.data.toList.drop i.toNat) : Nat) : Int), true) else (0, false)) := by
  refine count_up 0 (s.size : Int) _ ?_ ?_
  · intro n hn
    rw [drop_end]
    exact Ev.step (fun k => spileref16_Number.l0.eq_2 ..) (evn (by omega) (evr (by rw [if_pos (show ([] : List UInt8).all isDig = true from rfl)]; rfl)))
  · intro i h0 h1 ih n hn
    obtain ⟨b, e1, _, e3⟩ := byte_at s h0 h1
    have hw : wrap64 (i + 1) = i + 1 := w64 (by omega) (by omega)
    refine Ev.step (fun k => spileref16_Number.l0.eq_2 ..) (evp h1 (evp h0 ?_))
    rw [e3, e1, hw]
    have hp : 10 ^ i.toNat ≤ 10 ^ 17 := Nat.pow_le_pow_right (by decide) (by omega)
    by_cases c1 : (b.toNat : Int) < 48
    · have hd : ¬ isDig b = true := fun h => by have := (isDig_iff b).1 h; omega
      rw [if_neg (by simp [hd])]
      exact evp c1 (Ev.now _)
    · by_cases c2 : (b.toNat : Int) > 57
      · have hd : ¬ isDig b = true := fun h => by have := (isDig_iff b).1 h; omega
        rw [if_neg (by simp [hd])]
        exact evn c1 (evp c2 (Ev.now _))
      · have hd : isDig b = true := (isDig_iff b).2 (by omega)
        have e : wrap64 ((wrap64 (10 * (n : Int))) + (((b.toNat : Int) - 48) % 256)) = ((10 * n + (b.toNat - 48) : Nat) : Int) := by
          rw [w64 (x := 10 * (n : Int)) (by omega) (by omega), w64 (by omega) (by omega)]; omega
        rw [e]
        have q := ih (10 * n + (b.toNat - 48)) (by
          rw [show (i + 1).toNat = i.toNat + 1 from by omega, Nat.pow_succ]; omega)
        have ea : ((b :: s.data.toList.drop (i + 1).toNat).all isDig = true) = ((s.data.toList.drop (i + 1).toNat).all isDig = true) := by
          rw [List.all_cons, hd, Bool.true_and]
        simp only [ea]
        exact evn c1 (evn c2 q)
def numR (most : Nat) (l : List UInt8) : Int × Bool := match numP most l with
  | some v => ((v : Int), true)
  | none => (0, false)
theorem number_ev (s : ByteArray) (most : Nat) (hm : most ≤ 18) : Ev (fun k => spileref16_Number.f k s (most : Int)) (numR most s.data.toList) := by
  have hsz := size_data s
  have bad : ¬ (Canon s.data.toList ∧ s.data.toList.length ≤ most) → numR most s.data.toList = (0, false) := fun h => by
    unfold numR numP; rw [if_neg h]
  by_cases c1 : (s.size : Int) < 1
  · rw [bad (fun h => by have := h.1.1; omega)]
    exact evp c1 (Ev.step (fun k => spileref16_Number.j0.eq_2 ..) (evp rfl (Ev.now _)))
  by_cases c2 : (s.size : Int) > (most : Int)
  · rw [bad (fun h => by have := h.2; omega)]
    exact evn c1 (evp c2 (Ev.step (fun k => spileref16_Number.j0.eq_2 ..) (evp rfl (Ev.now _))))
  have go : ¬ (1 < s.data.toList.length ∧ s.data.toList.head? = some 48) → Ev (fun k => spileref16_Number.j0 k s false) (numR most s.data.toList) := by
    intro hh
    have q := number_loop s (by omega) 0 (by omega) (by omega) 0 (by decide)
    rw [show (0 : Int).toNat = 0 from rfl, List.drop_zero] at q
    refine Ev.step (fun k => spileref16_Number.j0.eq_2 ..) (evn (by simp) ?_)
    by_cases hd : s.data.toList.all isDig = true
    · have hc : Canon s.data.toList ∧ s.data.toList.length ≤ most := ⟨⟨by omega, hh, hd⟩, by omega⟩
      rw [if_pos hd] at q
      have e : numR most s.data.toList = (((valFrom 0 s.data.toList : Nat) : Int), true) := by unfold numR numP; rw [if_pos hc]
      rw [e]
      exact q
    · rw [if_neg hd] at q
      rw [bad (fun h => hd h.1.2.2)]
      exact q
  by_cases c3 : (s.size : Int) > 1
  · obtain ⟨b, e1, _, e3⟩ := byte_at s (i := 0) (by omega) (by omega)
    rw [show (0 : Int).toNat = 0 from rfl, List.drop_zero] at e1
    refine evn c1 (evn c2 (evp c3 (evp (by omega) ?_)))
    rw [e3]
    by_cases c4 : b = 48
    · have e4 : ((b.toNat : Int) == 48) = true := by rw [beq_iff_eq]; exact (toNat_eq b 48 (by decide)).2 c4
      rw [e4, bad (fun h => h.1.2.1 ⟨by omega, by rw [e1]; simp [c4]⟩)]
      exact Ev.step (fun k => spileref16_Number.j0.eq_2 ..) (evp rfl (Ev.now _))
    · have e4 : ((b.toNat : Int) == 48) = false := by rw [beq_eq_false_iff_ne]; exact fun h => c4 ((toNat_eq b 48 (by decide)).1 h)
      rw [e4]
      exact go (fun h => c4 (by have := h.2; rw [e1] at this; simpa using this))
  · exact evn c1 (evn c2 (evn c3 (go (fun h => by omega))))
theorem dec_digit : ∀ d : Fin 10, (⟨#[48, 49, 50, 51, 52, 53, 54, 55, 56, 57]⟩ : ByteArray).extract d.val (d.val + 1) = ba [UInt8.ofNat (48 + d.val)] := by decide
theorem dec_digit' {d : Int} (h0 : 0 ≤ d) (h1 : d < 10) : (⟨#[48, 49, 50, 51, 52, 53, 54, 55, 56, 57]⟩ : ByteArray).extract d.toNat (wrap64 (d + 1)).toNat = ba [UInt8.ofNat (48 + d.toNat)] := by
  rw [w64 (by omega) (by omega), show (d + 1).toNat = d.toNat + 1 from by omega]
  exact dec_digit ⟨d.toNat, by omega⟩
theorem decimal_ev : ∀ (m : Nat) (n : Int), 0 ≤ n → n ≤ 9223372036854775807 → n.toNat ≤ m → Ev (fun k => spileref16_Decimal.f k n) (ba (Lib.itoa n)) := by
  have it : ∀ n : Int, 0 ≤ n → Lib.itoa n = Lib.decDigits n.toNat := fun n h => by unfold Lib.itoa; rw [if_neg (by omega)]
  intro m
  induction m with
  | zero =>
    intro n h0 h1 hm
    obtain rfl : n = 0 := by omega
    refine Ev.step (fun k => spileref16_Decimal.f.eq_2 ..) (evp (by omega) (evp (by omega) (evp (by rw [w64 (by omega) (by omega)]; omega) (evp (by rw [w64 (by omega) (by omega)]; omega) (evr ?_)))))
    rw [dec_digit' (d := 0) (by omega) (by omega), it 0 (by omega), digits_small (by decide)]
  | succ m ih =>
    intro n h0 h1 hm
    by_cases c : n < 10
    · refine Ev.step (fun k => spileref16_Decimal.f.eq_2 ..) (evp c (evp h0 (evp (by rw [w64 (by omega) (by omega)]; omega) (evp (by rw [w64 (by omega) (by omega)]; omega) (evr ?_)))))
      rw [dec_digit' h0 c, it n h0, digits_small (by omega)]
    · have e1 : Int.tdiv n 10 = n / 10 := Int.tdiv_eq_ediv_of_nonneg h0
      have e2 : Int.tmod n 10 = n % 10 := Int.tmod_eq_emod_of_nonneg h0
      have q := ih (n / 10) (by omega) (by omega) (by omega)
      have g0 : 0 ≤ n % 10 := by omega
      have g1 : n % 10 < 10 := by omega
      refine Ev.step (fun k => spileref16_Decimal.f.eq_2 ..) (evn c ?_)
      rw [e1, e2, w64 (x := n / 10) (by omega) (by omega)]
      refine evb q (evp g0 (evp (by rw [w64 (by omega) (by omega)]; omega) (evp (by rw [w64 (by omega) (by omega)]; omega) ?_)))
      rw [dec_digit' g0 g1, ba_app]
      have hl : (Lib.itoa (n / 10)).length ≤ 19 := by
        rw [it _ (by omega)]
        exact digits_length_le (by omega) (by decide)
      refine evp (by rw [ba_size, ba_size]; simp; omega) (evr ?_)
      rw [it _ (by omega), it n h0, digits_big (u := n.toNat) (by omega)]
      rw [show (n / 10).toNat = n.toNat / 10 from by omega, show (n % 10).toNat = n.toNat % 10 from by omega]
theorem atoi_cases (s : ByteArray) (hs : s.size ≤ 281474976710656) : ∃ n e, strconv_Atoi.f s = some (n, e) ∧ (e = none ↔ Lib.atoiAll s.data.toList = .ok n) ∧ (-9223372036854775808 ≤ n ∧ n ≤ 9223372036854775807) := by
  unfold strconv_Atoi.f
  rw [if_pos hs]
  cases ha : Lib.atoiAll s.data.toList with
  | ok v =>
    refine ⟨v, none, rfl, by simp, ?_⟩
    unfold Lib.atoiAll at ha
    cases hl : s.data.toList with
    | nil => rw [hl] at ha; cases ha
    | cons c r =>
      rw [hl] at ha
      simp only [] at ha
      cases hm : Lib.parseMag (if c.toNat = 43 ∨ c.toNat = 45 then r else c :: r) with
      | range => rw [hm] at ha; cases ha
      | ok u =>
        rw [hm] at ha
        simp only [] at ha
        by_cases c1 : ¬ c.toNat = 45 ∧ 9223372036854775808 ≤ u
        · rw [if_pos c1] at ha; cases ha
        · rw [if_neg c1] at ha
          by_cases c2 : c.toNat = 45 ∧ 9223372036854775808 < u
          · rw [if_pos c2] at ha; cases ha
          · rw [if_neg c2] at ha
            injection ha with ha
            by_cases c3 : c.toNat = 45
            · rw [if_pos c3] at ha; omega
            · rw [if_neg c3] at ha; omega
      | _ => rw [hm] at ha; cases ha
  | range =>
    refine ⟨_, some 0, rfl, by simp, ?_⟩
    unfold Lib.atoiSat
    split <;> omega
  | _ => exact ⟨0, some 0, rfl, by simp, by omega⟩
theorem itoa_f {n : Int} (h0 : -9223372036854775808 ≤ n) (h1 : n ≤ 9223372036854775807) : strconv_Itoa.f n = some (ba (Lib.itoa n)) := by
  unfold strconv_Itoa.f
  rw [if_pos h0, if_pos h1]
  rfl
end Go.Proofs.YtgjoenoknknoiaaDoor.PL
namespace Go.Proofs.YtgjoenoknknoiaaDoor.PL
open Go Go.RowKit Go.Proofs.YtgjoenoknknoiaaDoorW.PrintWords Go.Proofs.YtgjoenoknknoiaaDoorW.PrintLast Go.Proofs.YtgjoenoknknoiaaDoorW.PrintMore Go.Proofs.YtgjoenoknknoiaaDoor.Pr Go.Proofs.YtgjoenoknknoiaaDoor.Opn
def PlainP (a b : Int) : Prop := 0 ≤ a ∧ a ≤ 10737418240000 ∧ 0 ≤ b ∧ b ≤ 128849018880000 ∧ (0 < b ∨ a = 0)
instance (a b : Int) : Decidable (PlainP a b) := by unfold PlainP; infer_instance
theorem mix_plain_eq (a b : Int) : mix_plain.f a b = some (decide (PlainP a b)) := by
  unfold mix_plain.f PlainP
  repeat' split
  all_goals first
    | (refine congrArg some (Eq.symm (decide_eq_true ?_)); omega)
    | (refine congrArg some (Eq.symm (decide_eq_false ?_)); omega)
    | (refine congrArg some ?_
       by_cases h : a = 0
       · rw [show (a == 0) = true from by simpa using h]; exact (decide_eq_true (by omega)).symm
       · rw [show (a == 0) = false from by simpa using h]; exact (decide_eq_false (by omega)).symm)
theorem ref_plain_eq (a b : Int) : spileref21_Plain.f a b = some (decide (PlainP a b)) := mix_plain_eq a b
theorem wf64 {x : Int} (h : (Lit.int .i64 x).wf = true) : -9223372036854775808 ≤ x ∧ x ≤ 9223372036854775807 := by
  have h2 := h
  simp [Lit.wf, IntKind.min, IntKind.max, IntKind.signed, IntKind.bits] at h2
  exact ⟨by omega, by omega⟩
/-- A liquid alone: plain by the mixture of one. -/
theorem lot_plain_ev (a b : Int) (ha : -9223372036854775808 ≤ a ∧ a ≤ 9223372036854775807) (hb : -9223372036854775808 ≤ b ∧ b ≤ 9223372036854775807) : Ev (fun k => lot_plain.f k a b) (decide (PlainP a b)) := by
  have r0 : rd_T26 [(⟨a, b⟩ : S26)] 0 = ⟨a, b⟩ := rfl
  have hc : Ev (fun k => api_Liquid_69_at_70.f k [(⟨a, b⟩ : S26)]) (decide (¬ PlainP a b)) := by
    by_cases hp : PlainP a b
    · have : Ev (fun k => api_Liquid_78_at_70.f k [(⟨a, b⟩ : S26)]) (-1) := by
        refine Ev.step (fun k => api_Liquid_78_at_70.l0.eq_2 ..) (evp (by simp) (evp (by decide) (evp (by simp) (evb (a := false) ?_ (evn (by simp) ?_)))))
        · refine evc (fun _ => rfl) ?_
          rw [r0]
          unfold mix_Sum_1.f
          rw [mix_plain_eq, decide_eq_true hp]
          rfl
        · exact Ev.step (fun k => api_Liquid_78_at_70.l0.eq_2 ..) (evn (by simp [wrap64]) (Ev.now _))
      rw [decide_eq_false (fun h => h hp)]
      exact evb this (evr (by decide))
    · have : Ev (fun k => api_Liquid_78_at_70.f k [(⟨a, b⟩ : S26)]) 0 := by
        refine Ev.step (fun k => api_Liquid_78_at_70.l0.eq_2 ..) (evp (by simp) (evp (by decide) (evp (by simp) (evb (a := true) ?_ (evp rfl (Ev.now _))))))
        refine evc (fun _ => rfl) ?_
        rw [r0]
        unfold mix_Sum_1.f
        rw [mix_plain_eq, decide_eq_false hp]
        rfl
      rw [decide_eq_true hp]
      exact evb this (evr (by decide))
  have ht : Ev (fun k => mix_total.f k [(⟨a, b⟩ : S26)]) (a, b) := by
    refine Ev.step (fun k => mix_total.l0.eq_2 ..) (evp (by simp) (evp (by decide) (evp (by simp) ?_)))
    rw [r0]
    refine Ev.step (fun k => mix_total.l0.eq_2 ..) (evn (by simp [wrap64]) (evr ?_))
    show (wrap64 (0 + a), wrap64 (0 + b)) = (a, b)
    rw [w64 (by omega) (by omega), w64 (by omega) (by omega)]
    simp
  by_cases hp : PlainP a b
  · rw [decide_eq_false (fun h => h hp)] at hc
    rw [decide_eq_true hp]
    refine evb (a := (a, b, 0)) ?_ (evr (by simp))
    refine evn (by simp) (evb hc (evn (by simp) (evb ht (evb (a := true) (evc (fun _ => rfl) ?_) (evp rfl (Ev.now _))))))
    rw [mix_plain_eq, decide_eq_true hp]
  · rw [decide_eq_true hp] at hc
    rw [decide_eq_false hp]
    refine evb (a := (0, 0, 1)) ?_ (evr (by simp))
    exact evn (by simp) (evb hc (evp rfl (Ev.now _)))
/-- The shares of a lot. -/
theorem shares_both (l : List S35) (hl : (l.length : Int) ≤ 9223372036854775807) (a0 a1 a2 : Int) : ∀ i, 0 ≤ i → i ≤ (l.length : Int) → ∀ s,
    ∃ e, Ev (fun k => spileref22_Shares.l0 k l i) e ∧ (e ≠ 0 → Ev (fun k => lot_shares.l0 k s l (l.length : Int) i a0 a1 a2 l) e) ∧
      (e = 0 → ∃ t, Ev (fun k => spileref22_Alcohol.l0 k l s i) t ∧ Ev (fun k => lot_shares.l0 k s l (l.length : Int) i a0 a1 a2 l) (if t = a1 then 0 else 14)) := by
  refine count_up 0 (l.length : Int) _ ?_ ?_
  · intro s
    refine ⟨0, Ev.step (fun k => spileref22_Shares.l0.eq_2 ..) (evn (by omega) (Ev.now _)), fun h => absurd rfl h, fun _ => ⟨s, Ev.step (fun k => spileref22_Alcohol.l0.eq_2 ..) (evn (by omega) (Ev.now _)), ?_⟩⟩
    refine Ev.step (fun k => lot_shares.l0.eq_2 ..) (evn (by omega) ?_)
    by_cases h : s = a1
    · rw [show (if s = a1 then (0 : Int) else 14) = 0 from if_pos h]; exact evp h (Ev.now _)
    · rw [show (if s = a1 then (0 : Int) else 14) = 14 from if_neg h]; exact evn h (Ev.now _)
  · intro i h0 h1 ih s
    have hw := w64_succ h0 h1 hl
    by_cases c1 : (rd_T35 l i).f0 < 1
    · exact ⟨10, Ev.step (fun k => spileref22_Shares.l0.eq_2 ..) (evp h1 (evp h0 (evp c1 (Ev.now _)))), fun _ => Ev.step (fun k => lot_shares.l0.eq_2 ..) (evp h1 (evp h0 (evp h1 (evp c1 (Ev.now _))))), fun h => absurd h (by decide)⟩
    by_cases c2 : (rd_T35 l i).f0 > 1073741824
    · exact ⟨10, Ev.step (fun k => spileref22_Shares.l0.eq_2 ..) (evp h1 (evp h0 (evn c1 (evp c2 (Ev.now _))))), fun _ => Ev.step (fun k => lot_shares.l0.eq_2 ..) (evp h1 (evp h0 (evp h1 (evn c1 (evp c2 (Ev.now _)))))), fun h => absurd h (by decide)⟩
    by_cases c3 : (rd_T35 l i).f1 < 1
    · exact ⟨10, Ev.step (fun k => spileref22_Shares.l0.eq_2 ..) (evp h1 (evp h0 (evn c1 (evn c2 (evp c3 (Ev.now _)))))), fun _ => Ev.step (fun k => lot_shares.l0.eq_2 ..) (evp h1 (evp h0 (evp h1 (evn c1 (evn c2 (evp c3 (Ev.now _))))))), fun h => absurd h (by decide)⟩
    by_cases c4 : (rd_T35 l i).f1 > 10737418240000
    · exact ⟨10, Ev.step (fun k => spileref22_Shares.l0.eq_2 ..) (evp h1 (evp h0 (evn c1 (evn c2 (evn c3 (evp c4 (Ev.now _))))))), fun _ => Ev.step (fun k => lot_shares.l0.eq_2 ..) (evp h1 (evp h0 (evp h1 (evn c1 (evn c2 (evn c3 (evp c4 (Ev.now _)))))))), fun h => absurd h (by decide)⟩
    obtain ⟨e, q1, q2, q3⟩ := ih (wrap64 (s + (rd_T35 l i).f1))
    rw [← hw] at q1 q2 q3
    by_cases c5 : i > 0
    · have hp := w64_pred h0 (Int.le_of_lt h1) hl
      have p0 : 0 ≤ wrap64 (i - 1) := by rw [hp]; omega
      have p1 : wrap64 (i - 1) < (l.length : Int) := by rw [hp]; omega
      by_cases c6 : (rd_T35 l i).f0 ≤ (rd_T35 l (wrap64 (i - 1))).f0
      · exact ⟨10, Ev.step (fun k => spileref22_Shares.l0.eq_2 ..) (evp h1 (evp h0 (evn c1 (evn c2 (evn c3 (evn c4 (evp c5 (evp p0 (evp p1 (evp c6 (Ev.now _)))))))))) ), fun _ => Ev.step (fun k => lot_shares.l0.eq_2 ..) (evp h1 (evp h0 (evp h1 (evn c1 (evn c2 (evn c3 (evn c4 (evp c5 (evp p0 (evp p1 (evp c6 (Ev.now _))))))))))) ), fun h => absurd h (by decide)⟩
      · refine ⟨e, Ev.step (fun k => spileref22_Shares.l0.eq_2 ..) (evp h1 (evp h0 (evn c1 (evn c2 (evn c3 (evn c4 (evp c5 (evp p0 (evp p1 (evn c6 q1)))))))))), fun h => Ev.step (fun k => lot_shares.l0.eq_2 ..) (evp h1 (evp h0 (evp h1 (evn c1 (evn c2 (evn c3 (evn c4 (evp c5 (evp p0 (evp p1 (evn c6 (q2 h)))))))))))), fun h => ?_⟩
        obtain ⟨t, q4, q5⟩ := q3 h
        exact ⟨t, Ev.step (fun k => spileref22_Alcohol.l0.eq_2 ..) (evp h1 (evp h0 q4)), Ev.step (fun k => lot_shares.l0.eq_2 ..) (evp h1 (evp h0 (evp h1 (evn c1 (evn c2 (evn c3 (evn c4 (evp c5 (evp p0 (evp p1 (evn c6 q5)))))))))))⟩
    · refine ⟨e, Ev.step (fun k => spileref22_Shares.l0.eq_2 ..) (evp h1 (evp h0 (evn c1 (evn c2 (evn c3 (evn c4 (evn c5 q1))))))), fun h => Ev.step (fun k => lot_shares.l0.eq_2 ..) (evp h1 (evp h0 (evp h1 (evn c1 (evn c2 (evn c3 (evn c4 (evn c5 (q2 h))))))))), fun h => ?_⟩
      obtain ⟨t, q4, q5⟩ := q3 h
      exact ⟨t, Ev.step (fun k => spileref22_Alcohol.l0.eq_2 ..) (evp h1 (evp h0 q4)), Ev.step (fun k => lot_shares.l0.eq_2 ..) (evp h1 (evp h0 (evp h1 (evn c1 (evn c2 (evn c3 (evn c4 (evn c5 q5))))))))⟩
/-- What is right in a lot's numbers. -/
def Wf33 (x : S33) : Prop := (-9223372036854775808 ≤ x.f1.f0 ∧ x.f1.f0 ≤ 9223372036854775807) ∧ (-9223372036854775808 ≤ x.f1.f1 ∧ x.f1.f1 ≤ 9223372036854775807) ∧ (x.f2.length : Int) ≤ 9223372036854775807
theorem shares_f_both (x : S33) (h : Wf33 x) : ∃ e, Ev (fun k => spileref22_Shares.f k x.f2) e ∧ (e ≠ 0 → Ev (fun k => lot_shares.f k x.f0 x.f1.f0 x.f1.f1 x.f2) e) ∧
    (e = 0 → ∃ t, Ev (fun k => spileref22_Alcohol.f k x.f2) t ∧ Ev (fun k => lot_shares.f k x.f0 x.f1.f0 x.f1.f1 x.f2) (if t = x.f1.f0 then 0 else 14)) := by
  by_cases c : (x.f2.length : Int) > 32
  · exact ⟨12, evp c (Ev.now _), fun _ => evp c (Ev.now _), fun h => absurd h (by decide)⟩
  · obtain ⟨e, q1, q2, q3⟩ := shares_both x.f2 h.2.2 x.f0 x.f1.f0 x.f1.f1 0 (by omega) (by omega) 0
    refine ⟨e, evn c q1, fun h => evn c (q2 h), fun h => ?_⟩
    obtain ⟨t, q4, q5⟩ := q3 h
    exact ⟨t, q4, evn c q5⟩
/-- A lot's fault, but for its number and place: both sides alike. -/
theorem one_both (x : S33) (h : Wf33 x) : ∃ e, Ev (fun k => spileref22_One.f k x.f0 x.f1.f0 x.f1.f1 x.f2) e ∧ Ev (fun k => lot_fault.j1 k false x.f0 x.f1.f0 x.f1.f1 x.f2) e := by
  have hp := lot_plain_ev x.f1.f0 x.f1.f1 h.1 h.2.1
  by_cases c : PlainP x.f1.f0 x.f1.f1
  · rw [decide_eq_true c] at hp
    have hr : Ev (fun _ : Nat => spileref21_Plain.f x.f1.f0 x.f1.f1) true := evc (fun _ => rfl) (by rw [ref_plain_eq, decide_eq_true c])
    by_cases c2 : x.f1.f1 = 0
    · refine ⟨1, evb hr (evp rfl (Ev.step (fun k => spileref22_One.j0.eq_2 ..) (evp (by simpa using c2) (Ev.now _)))), Ev.step (fun k => lot_fault.j1.eq_2 ..) (evn (by simp) (evb hp (evp rfl (evp c2 (Ev.now _)))))⟩
    · have c3 : ¬ (x.f1.f1 == 0) = true := by simpa using c2
      obtain ⟨e, q1, q2, q3⟩ := shares_f_both x h
      by_cases he : e = 0
      · obtain ⟨t, q4, q5⟩ := q3 he
        refine ⟨if t = x.f1.f0 then 0 else 14, evb hr (evp rfl (Ev.step (fun k => spileref22_One.j0.eq_2 ..) (evn c3 (evb q1 (evp he (evb q4 ?_)))))), Ev.step (fun k => lot_fault.j1.eq_2 ..) (evn (by simp) (evb hp (evp rfl (evn c2 (evb q5 (Ev.now _))))))⟩
        by_cases ht : t = x.f1.f0
        · rw [show (if t = x.f1.f0 then (0 : Int) else 14) = 0 from if_pos ht]; exact evp ht (Ev.now _)
        · rw [show (if t = x.f1.f0 then (0 : Int) else 14) = 14 from if_neg ht]; exact evn ht (Ev.now _)
      · exact ⟨e, evb hr (evp rfl (Ev.step (fun k => spileref22_One.j0.eq_2 ..) (evn c3 (evb q1 (evn he (Ev.now _)))))), Ev.step (fun k => lot_fault.j1.eq_2 ..) (evn (by simp) (evb hp (evp rfl (evn c2 (evb (q2 he) (Ev.now _))))))⟩
  · rw [decide_eq_false c] at hp
    have hr : Ev (fun _ : Nat => spileref21_Plain.f x.f1.f0 x.f1.f1) false := evc (fun _ => rfl) (by rw [ref_plain_eq, decide_eq_false c])
    exact ⟨1, evb hr (evn (by simp) (Ev.step (fun k => spileref22_One.j0.eq_2 ..) (evp rfl (Ev.now _)))), Ev.step (fun k => lot_fault.j1.eq_2 ..) (evn (by simp) (evb hp (evn (by simp) (Ev.now _))))⟩
theorem id_eq (x : Int) : spileref22_ID.f x = some (decide (1 ≤ x ∧ x ≤ 1073741824)) := by
  unfold spileref22_ID.f
  by_cases h : x ≥ 1
  · rw [if_pos h]
    by_cases h2 : x ≤ 1073741824
    · rw [decide_eq_true h2, decide_eq_true (⟨h, h2⟩ : 1 ≤ x ∧ x ≤ 1073741824)]
    · rw [decide_eq_false h2, decide_eq_false (fun q => h2 q.2)]
  · rw [if_neg h, decide_eq_false (fun q => h q.1)]
theorem check_loop (l : List S33) (hl : (l.length : Int) ≤ 9223372036854775807) (hw : ∀ i, 0 ≤ i → i < (l.length : Int) → Wf33 (rd_T33 l i)) : ∀ i, 0 ≤ i → i ≤ (l.length : Int) →
    ∃ r, Ev (fun k => lot_Check.l0 k l (l.length : Int) i) r ∧ Ev (fun k => spileref22_Check.l0 k l i) r := by
  refine count_up 0 (l.length : Int) _ ?_ ?_
  · exact ⟨(-1, 0), Ev.step (fun k => lot_Check.l0.eq_2 ..) (evn (by omega) (Ev.now _)), Ev.step (fun k => spileref22_Check.l0.eq_2 ..) (evn (by omega) (Ev.now _))⟩
  · intro i h0 h1 ih
    obtain ⟨r, q1, q2⟩ := ih
    rw [← w64_succ h0 h1 hl] at q1 q2
    by_cases c1 : (rd_T33 l i).f0 < 1
    · refine ⟨(i, 2), Ev.step (fun k => lot_Check.l0.eq_2 ..) (evp h1 (evb (a := 2) (evp h0 (evp h1 (evp c1 (Ev.step (fun k => lot_fault.j0.eq_2 ..) (evp rfl (Ev.now _)))))) (evn (by decide) (Ev.now _)))), Ev.step (fun k => spileref22_Check.l0.eq_2 ..) (evp h1 (evp h0 (evb (a := false) (evc (fun _ => rfl) ?_) (evn (by simp) (Ev.now _)))))⟩
      rw [id_eq, decide_eq_false (by omega)]
    by_cases c2 : (rd_T33 l i).f0 > 1073741824
    · refine ⟨(i, 2), Ev.step (fun k => lot_Check.l0.eq_2 ..) (evp h1 (evb (a := 2) (evp h0 (evp h1 (evn c1 (Ev.step (fun k => lot_fault.j0.eq_2 ..) (evp (decide_eq_true c2) (Ev.now _)))))) (evn (by decide) (Ev.now _)))), Ev.step (fun k => spileref22_Check.l0.eq_2 ..) (evp h1 (evp h0 (evb (a := false) (evc (fun _ => rfl) ?_) (evn (by simp) (Ev.now _)))))⟩
      rw [id_eq, decide_eq_false (by omega)]
    have hid : Ev (fun _ : Nat => spileref22_ID.f (rd_T33 l i).f0) true := evc (fun _ => rfl) (by rw [id_eq, decide_eq_true (by omega)])
    have c2' : ¬ decide ((rd_T33 l i).f0 > 1073741824) = true := by simpa using c2
    obtain ⟨e, o1, o2⟩ := one_both (rd_T33 l i) (hw i h0 h1)
    have fin : ∀ (g : Nat → Option Int), Ev g e → ∀ (g2 : Nat → Option Int), Ev g2 e → ∃ r2, Ev (fun k => (g k).bind fun t => if t = 0 then lot_Check.l0 k l (l.length : Int) (wrap64 (i + 1)) else some (i, t)) r2 ∧ Ev (fun k => (g2 k).bind fun t => if t = 0 then spileref22_Check.l0 k l (wrap64 (i + 1)) else some (i, t)) r2 := by
      intro g hg g2 hg2
      by_cases he : e = 0
      · exact ⟨r, evb hg (evp he q1), evb hg2 (evp he q2)⟩
      · exact ⟨(i, e), evb hg (evn he (Ev.now _)), evb hg2 (evn he (Ev.now _))⟩
    by_cases c3 : i > 0
    · have hp := w64_pred h0 (Int.le_of_lt h1) hl
      have p0 : 0 ≤ wrap64 (i - 1) := by rw [hp]; omega
      have p1 : wrap64 (i - 1) < (l.length : Int) := by rw [hp]; omega
      by_cases c4 : (rd_T33 l i).f0 ≤ (rd_T33 l (wrap64 (i - 1))).f0
      · have F : Ev (fun k => lot_fault.f k l i) 5 := by
          refine evp h0 (evp h1 (evn c1 (Ev.step (fun k => lot_fault.j0.eq_2 ..) ?_)))
          refine evn c2' (evp c3 (evp p0 (evp p1 (Ev.step (fun k => lot_fault.j1.eq_2 ..) ?_))))
          exact evp (decide_eq_true c4) (Ev.now _)
        refine ⟨(i, 5), Ev.step (fun k => lot_Check.l0.eq_2 ..) (evp h1 (evb F (evn (by decide) (Ev.now _)))), Ev.step (fun k => spileref22_Check.l0.eq_2 ..) (evp h1 (evp h0 (evb hid (evp rfl ?_))))⟩
        exact evp c3 (evp p0 (evp p1 (Ev.step (fun k => spileref22_Check.j1.eq_2 ..) (evp (decide_eq_true c4) (Ev.now _)))))
      · have hd : decide ((rd_T33 l (wrap64 (i - 1))).f0 ≥ (rd_T33 l i).f0) = false := decide_eq_false c4
        have hd2 : ¬ decide ((rd_T33 l i).f0 ≤ (rd_T33 l (wrap64 (i - 1))).f0) = true := by simpa using c4
        have F : Ev (fun k => lot_fault.f k l i) e := by
          refine evp h0 (evp h1 (evn c1 (Ev.step (fun k => lot_fault.j0.eq_2 ..) ?_)))
          refine evn c2' (evp c3 (evp p0 (evp p1 ?_)))
          rw [hd]
          exact o2
        obtain ⟨r2, f1, f2⟩ := fin _ F _ o1
        refine ⟨r2, Ev.step (fun k => lot_Check.l0.eq_2 ..) (evp h1 f1), Ev.step (fun k => spileref22_Check.l0.eq_2 ..) (evp h1 (evp h0 (evb hid (evp rfl ?_))))⟩
        exact evp c3 (evp p0 (evp p1 (Ev.step (fun k => spileref22_Check.j1.eq_2 ..) (evn hd2 (evp h0 (evp h1 f2))))))
    · have F : Ev (fun k => lot_fault.f k l i) e := by
        refine evp h0 (evp h1 (evn c1 (Ev.step (fun k => lot_fault.j0.eq_2 ..) ?_)))
        exact evn c2' (evn c3 o2)
      obtain ⟨r2, f1, f2⟩ := fin _ F _ o1
      refine ⟨r2, Ev.step (fun k => lot_Check.l0.eq_2 ..) (evp h1 f1), Ev.step (fun k => spileref22_Check.l0.eq_2 ..) (evp h1 (evp h0 (evb hid (evp rfl ?_))))⟩
      exact evn c3 (Ev.step (fun k => spileref22_Check.j1.eq_2 ..) (evn (by simp) (evp h0 (evp h1 f2))))
theorem check_both (l : List S33) (hl : (l.length : Int) ≤ 9223372036854775807) (hw : ∀ i, 0 ≤ i → i < (l.length : Int) → Wf33 (rd_T33 l i)) :
    ∃ r, Ev (fun k => lot_Check.f k l) r ∧ Ev (fun k => spileref22_Check.f k l) r := by
  by_cases c : (l.length : Int) > 32
  · exact ⟨(-1, 8), evp c (Ev.now _), evp c (Ev.now _)⟩
  · obtain ⟨r, q1, q2⟩ := check_loop l hl hw 0 (by omega) (by omega)
    exact ⟨r, evn c q1, evn c q2⟩
def Few12 (l : List S35) : Prop := (l.length : Int) ≤ 12 ∨ (32 < (l.length : Int) ∧ (l.length : Int) ≤ 37)
instance (l : List S35) : Decidable (Few12 l) := by unfold Few12; infer_instance
theorem fewShares_eq (l : List S35) : spileref22_FewShares.f l = some (decide (Few12 l)) := by
  unfold spileref22_FewShares.f
  by_cases c : (l.length : Int) ≤ 12
  · rw [if_pos c, decide_eq_true (show Few12 l from Or.inl c)]
  · rw [if_neg c]
    by_cases c2 : (l.length : Int) > 32
    · rw [if_pos c2]
      by_cases c3 : (l.length : Int) ≤ 37
      · rw [decide_eq_true c3, decide_eq_true (show Few12 l from Or.inr ⟨c2, c3⟩)]
      · rw [decide_eq_false c3, decide_eq_false (show ¬ Few12 l from by unfold Few12; omega)]
    · rw [if_neg c2, decide_eq_false (show ¬ Few12 l from by unfold Few12; omega)]
theorem few_ev (l : List S33) (hl : (l.length : Int) ≤ 9223372036854775807) : ∃ b, Ev (fun k => spileref22_Few.f k l) b ∧ (b = true → (l.length : Int) ≤ 37 ∧ ∀ i, 0 ≤ i → i < (l.length : Int) → Few12 (rd_T33 l i).f2) := by
  have loop : ∀ i, 0 ≤ i → i ≤ (l.length : Int) → ∃ b, Ev (fun k => spileref22_Few.l0 k l i) b ∧ (b = true → ∀ j, i ≤ j → j < (l.length : Int) → Few12 (rd_T33 l j).f2) := by
    refine count_up 0 (l.length : Int) _ ?_ ?_
    · exact ⟨true, Ev.step (fun k => spileref22_Few.l0.eq_2 ..) (evn (by omega) (Ev.now _)), fun _ j g0 g1 => by omega⟩
    · intro i h0 h1 ih
      obtain ⟨b, q1, q2⟩ := ih
      rw [← w64_succ h0 h1 hl] at q1
      by_cases c : Few12 (rd_T33 l i).f2
      · refine ⟨b, Ev.step (fun k => spileref22_Few.l0.eq_2 ..) (evp h1 (evp h0 (evb (a := true) (evc (fun _ => rfl) (by rw [fewShares_eq, decide_eq_true c])) (evp rfl q1)))), fun hb j g0 g1 => ?_⟩
        by_cases e : j = i
        · rw [e]; exact c
        · exact q2 hb j (by omega) g1
      · exact ⟨false, Ev.step (fun k => spileref22_Few.l0.eq_2 ..) (evp h1 (evp h0 (evb (a := false) (evc (fun _ => rfl) (by rw [fewShares_eq, decide_eq_false c])) (evn (by simp) (Ev.now _))))), fun h => by cases h⟩
  obtain ⟨b, q1, q2⟩ := loop 0 (by omega) (by omega)
  have tail : ∃ b, Ev (fun k => spileref22_Few.j0 k l (decide ((l.length : Int) > 37))) b ∧ (b = true → (l.length : Int) ≤ 37 ∧ ∀ i, 0 ≤ i → i < (l.length : Int) → Few12 (rd_T33 l i).f2) := by
    by_cases c : (l.length : Int) > 37
    · exact ⟨false, Ev.step (fun k => spileref22_Few.j0.eq_2 ..) (evp (decide_eq_true c) (Ev.now _)), fun h => by cases h⟩
    · exact ⟨b, Ev.step (fun k => spileref22_Few.j0.eq_2 ..) (evn (by simpa using c) q1), fun hb => ⟨by omega, q2 hb⟩⟩
  obtain ⟨b2, t1, t2⟩ := tail
  by_cases c : (l.length : Int) > 8
  · by_cases c2 : (l.length : Int) ≤ 32
    · exact ⟨false, evp c (evp c2 (Ev.step (fun k => spileref22_Few.j0.eq_2 ..) (evp rfl (Ev.now _)))), fun h => by cases h⟩
    · exact ⟨b2, evp c (evn c2 t1), t2⟩
  · exact ⟨b2, evn c t1, t2⟩
theorem sameShares_ev (l : List S35) (hl : (l.length : Int) ≤ 9223372036854775807) : Ev (fun k => spileref22_SameShares.f k l l) true := by
  refine evp rfl (count_up 0 (l.length : Int) (fun i => Ev (fun k => spileref22_SameShares.l0 k l l i) true) ?_ ?_ 0 (by omega) (by omega))
  · exact Ev.step (fun k => spileref22_SameShares.l0.eq_2 ..) (evn (by omega) (Ev.now _))
  · intro i h0 h1 ih
    rw [← w64_succ h0 h1 hl] at ih
    exact Ev.step (fun k => spileref22_SameShares.l0.eq_2 ..) (evp h1 (evp h0 (evp h1 (evn (by simp) ih))))
theorem sameLot_ev (a b c : Int) (l : List S35) (hl : (l.length : Int) ≤ 9223372036854775807) : Ev (fun k => spileref22_SameLot.f k a b c l a b c l) true :=
  evp rfl (evp (by simp) (evb (sameShares_ev l hl) (Ev.now _)))
end Go.Proofs.YtgjoenoknknoiaaDoor.PL
namespace Go.Proofs.YtgjoenoknknoiaaDoor.PL
open Go Go.RowKit Go.Proofs.YtgjoenoknknoiaaDoorW.PrintWords Go.Proofs.YtgjoenoknknoiaaDoorW.PrintLast Go.Proofs.YtgjoenoknknoiaaDoorW.PrintMore Go.Proofs.YtgjoenoknknoiaaDoor.Pr Go.Proofs.YtgjoenoknknoiaaDoor.Opn
theorem rd33 (l : List S33) (i : Nat) (h : i < l.length) : rd_T33 l (i : Int) = l[i] := by
  unfold rd_T33
  simp [List.getD_eq_getElem?_getD, List.getElem?_eq_getElem h]
theorem rd33_mem {l : List S33} {i : Int} (h0 : 0 ≤ i) (h1 : i < (l.length : Int)) : rd_T33 l i ∈ l := by
  have e : i = ((i.toNat : Nat) : Int) := by omega
  rw [e, rd33 l i.toNat (by omega)]
  exact List.getElem_mem _
theorem mem_rd33 {l : List S33} {x : S33} (h : x ∈ l) : ∃ i : Int, 0 ≤ i ∧ i < (l.length : Int) ∧ rd_T33 l i = x := by
  obtain ⟨i, hi, e⟩ := List.mem_iff_getElem.1 h
  exact ⟨(i : Int), by omega, by omega, by rw [rd33 l i hi, e]⟩
theorem drop_next {l : List S33} {i : Int} (h0 : 0 ≤ i) (h1 : i < (l.length : Int)) : l.drop i.toNat = rd_T33 l i :: l.drop (i + 1).toNat := by
  have e : i = ((i.toNat : Nat) : Int) := by omega
  have g : rd_T33 l i = l[i.toNat]'(by omega) := by rw [← rd33 l i.toNat (by omega), ← e]
  rw [g, show (i + 1).toNat = i.toNat + 1 from by omega, ← List.drop_eq_getElem_cons]
def IdP (x : S33) : Prop := 1 ≤ x.f0 ∧ x.f0 ≤ 1073741824
instance (x : S33) : Decidable (IdP x) := by unfold IdP; infer_instance
def Fine (x : S33) : Prop := Ev (fun k => spileref22_One.f k x.f0 x.f1.f0 x.f1.f1 x.f2) 0
def Up (l : List S33) : Prop := l.Pairwise (fun a b => a.f0 < b.f0)
def RightL (l : List S33) : Prop := (l.length : Int) ≤ 32 ∧ Up l ∧ ∀ x, x ∈ l → IdP x ∧ Fine x
def At (l : List S33) (j : Int) : Prop := IdP (rd_T33 l j) ∧ (0 < j → (rd_T33 l (j - 1)).f0 < (rd_T33 l j).f0) ∧ Fine (rd_T33 l j)
theorem check_sem (l : List S33) (hl : (l.length : Int) ≤ 9223372036854775807) (hw : ∀ i, 0 ≤ i → i < (l.length : Int) → Wf33 (rd_T33 l i)) : ∀ i, 0 ≤ i → i ≤ (l.length : Int) →
    ∃ r, Ev (fun k => spileref22_Check.l0 k l i) r ∧ (r.2 = 0 ↔ ∀ j, i ≤ j → j < (l.length : Int) → At l j) := by
  refine count_up 0 (l.length : Int) _ ?_ ?_
  · exact ⟨(-1, 0), Ev.step (fun k => spileref22_Check.l0.eq_2 ..) (evn (by omega) (Ev.now _)), fun _ j h0 h1 => by omega, fun _ => rfl⟩
  · intro i h0 h1 ih
    obtain ⟨r, q1, q2⟩ := ih
    rw [← w64_succ h0 h1 hl] at q1
    have bad : ∀ e : Int, e ≠ 0 → ¬ At l i → (((i, e) : Int × Int).2 = 0 ↔ ∀ j, i ≤ j → j < (l.length : Int) → At l j) := fun e he hn => ⟨fun h => absurd h he, fun h => absurd (h i (by omega) h1) hn⟩
    have good : At l i → (r.2 = 0 ↔ ∀ j, i ≤ j → j < (l.length : Int) → At l j) := fun hi => ⟨fun h j g0 g1 => by
      by_cases e : j = i
      · rw [e]; exact hi
      · exact q2.1 h j (by omega) g1, fun h => q2.2 (fun j g0 g1 => h j (by omega) g1)⟩
    by_cases c : IdP (rd_T33 l i)
    · have hid : Ev (fun _ : Nat => spileref22_ID.f (rd_T33 l i).f0) true := evc (fun _ => rfl) (by rw [id_eq]; exact congrArg some (decide_eq_true c))
      obtain ⟨e, o1, _⟩ := one_both (rd_T33 l i) (hw i h0 h1)
      by_cases c3 : i > 0
      · have hp := w64_pred h0 (Int.le_of_lt h1) hl
        have p0 : 0 ≤ wrap64 (i - 1) := by rw [hp]; omega
        have p1 : wrap64 (i - 1) < (l.length : Int) := by rw [hp]; omega
        by_cases c4 : (rd_T33 l i).f0 ≤ (rd_T33 l (wrap64 (i - 1))).f0
        · refine ⟨(i, 5), Ev.step (fun k => spileref22_Check.l0.eq_2 ..) (evp h1 (evp h0 (evb hid (evp rfl ?_)))), bad 5 (by decide) (fun h => ?_)⟩
          · exact evp c3 (evp p0 (evp p1 (Ev.step (fun k => spileref22_Check.j1.eq_2 ..) (evp (decide_eq_true c4) (Ev.now _)))))
          · have := h.2.1 c3
            rw [hp] at c4
            omega
        · have hd2 : ¬ decide ((rd_T33 l i).f0 ≤ (rd_T33 l (wrap64 (i - 1))).f0) = true := by simpa using c4
          by_cases he : e = 0
          · refine ⟨r, Ev.step (fun k => spileref22_Check.l0.eq_2 ..) (evp h1 (evp h0 (evb hid (evp rfl ?_)))), good ⟨c, fun _ => ?_, ?_⟩⟩
            · exact evp c3 (evp p0 (evp p1 (Ev.step (fun k => spileref22_Check.j1.eq_2 ..) (evn hd2 (evp h0 (evp h1 (evb o1 (evp he q1))))))))
            · rw [hp] at c4
              omega
            · subst he; exact o1
          · refine ⟨(i, e), Ev.step (fun k => spileref22_Check.l0.eq_2 ..) (evp h1 (evp h0 (evb hid (evp rfl ?_)))), bad e he (fun h => he (ev_unique o1 h.2.2))⟩
            exact evp c3 (evp p0 (evp p1 (Ev.step (fun k => spileref22_Check.j1.eq_2 ..) (evn hd2 (evp h0 (evp h1 (evb o1 (evn he (Ev.now _)))))))))
      · by_cases he : e = 0
        · refine ⟨r, Ev.step (fun k => spileref22_Check.l0.eq_2 ..) (evp h1 (evp h0 (evb hid (evp rfl ?_)))), good ⟨c, fun h => absurd h c3, ?_⟩⟩
          · exact evn c3 (Ev.step (fun k => spileref22_Check.j1.eq_2 ..) (evn (by simp) (evp h0 (evp h1 (evb o1 (evp he q1))))))
          · subst he; exact o1
        · refine ⟨(i, e), Ev.step (fun k => spileref22_Check.l0.eq_2 ..) (evp h1 (evp h0 (evb hid (evp rfl ?_)))), bad e he (fun h => he (ev_unique o1 h.2.2))⟩
          exact evn c3 (Ev.step (fun k => spileref22_Check.j1.eq_2 ..) (evn (by simp) (evp h0 (evp h1 (evb o1 (evn he (Ev.now _)))))))
    · refine ⟨(i, 2), Ev.step (fun k => spileref22_Check.l0.eq_2 ..) (evp h1 (evp h0 (evb (a := false) (evc (fun _ => rfl) ?_) (evn (by simp) (Ev.now _))))), bad 2 (by decide) (fun h => c h.1)⟩
      rw [id_eq]; exact congrArg some (decide_eq_false c)
theorem up_of (l : List S33) (h : ∀ j, 0 ≤ j → j < (l.length : Int) → At l j) : Up l := by
  refine List.pairwise_iff_getElem.2 ?_
  have key : ∀ d i : Nat, (hi : i + d + 1 < l.length) → (l[i]'(by omega)).f0 < (l[i + d + 1]'hi).f0 := by
    intro d
    induction d with
    | zero =>
      intro i hi
      have := (h ((i + 1 : Nat) : Int) (by omega) (by omega)).2.1 (by omega)
      rw [rd33 l (i + 1) hi, show (((i + 1 : Nat) : Int) - 1) = (i : Int) from by omega, rd33 l i (by omega)] at this
      exact this
    | succ d ih =>
      intro i hi
      have a := ih i (by omega)
      have := (h ((i + d + 1 + 1 : Nat) : Int) (by omega) (by omega)).2.1 (by omega)
      rw [rd33 l (i + d + 1 + 1) (by omega), show (((i + d + 1 + 1 : Nat) : Int) - 1) = ((i + d + 1 : Nat) : Int) from by omega, rd33 l (i + d + 1) (by omega)] at this
      exact Int.lt_trans a this
  intro i j hi hj hij
  obtain ⟨d, rfl⟩ : ∃ d, j = i + d + 1 := ⟨j - i - 1, by omega⟩
  exact key d i hj
theorem up_lt {l : List S33} (h : Up l) {i j : Int} (h0 : 0 ≤ i) (h1 : i < j) (h2 : j < (l.length : Int)) : (rd_T33 l i).f0 < (rd_T33 l j).f0 := by
  have e : i = ((i.toNat : Nat) : Int) := by omega
  have e2 : j = ((j.toNat : Nat) : Int) := by omega
  rw [e, e2, rd33 l i.toNat (by omega), rd33 l j.toNat (by omega)]
  exact List.pairwise_iff_getElem.1 h i.toNat j.toNat (by omega) (by omega) (by omega)
theorem at_iff (l : List S33) : (∀ j, 0 ≤ j → j < (l.length : Int) → At l j) ↔ Up l ∧ ∀ x, x ∈ l → IdP x ∧ Fine x := by
  constructor
  · intro h
    refine ⟨up_of l h, fun x hx => ?_⟩
    obtain ⟨i, h0, h1, rfl⟩ := mem_rd33 hx
    exact ⟨(h i h0 h1).1, (h i h0 h1).2.2⟩
  · intro h j h0 h1
    have hm := h.2 _ (rd33_mem h0 h1)
    exact ⟨hm.1, fun hj => up_lt h.1 (by omega) (by omega) h1, hm.2⟩
theorem check_iff (l : List S33) (hl : (l.length : Int) ≤ 9223372036854775807) (hw : ∀ i, 0 ≤ i → i < (l.length : Int) → Wf33 (rd_T33 l i)) :
    ∃ r, Ev (fun k => lot_Check.f k l) r ∧ Ev (fun k => spileref22_Check.f k l) r ∧ (r.2 = 0 ↔ RightL l) := by
  obtain ⟨r, q1, q2⟩ := check_both l hl hw
  refine ⟨r, q1, q2, ?_⟩
  by_cases c : (l.length : Int) > 32
  · have : Ev (fun k => spileref22_Check.f k l) (-1, 8) := evp c (Ev.now _)
    rw [ev_unique q2 this]
    exact ⟨fun h => absurd h (by decide), fun h => absurd h.1 (by omega)⟩
  · obtain ⟨r2, p1, p2⟩ := check_sem l hl hw 0 (by omega) (by omega)
    have : Ev (fun k => spileref22_Check.f k l) r2 := evn c p1
    rw [ev_unique q2 this, p2, at_iff]
    exact ⟨fun h => ⟨by omega, h⟩, fun h => h.2⟩
theorem right_iff (l : List S33) (hl : (l.length : Int) ≤ 9223372036854775807) (hw : ∀ i, 0 ≤ i → i < (l.length : Int) → Wf33 (rd_T33 l i)) :
    ∃ b, Ev (fun k => lot_right.f k l) b ∧ Ev (fun k => spileref22_Right.f k l) b ∧ (b = true ↔ RightL l) := by
  obtain ⟨r, q1, q2, q3⟩ := check_iff l hl hw
  exact ⟨r.2 == 0, evb q1 (Ev.now _), evb q2 (Ev.now _), by rw [← q3]; simp⟩
/-- Lists that are alike are the same. -/
theorem same_ev (l : List S33) (hn : (l.length : Int) ≤ 9223372036854775807) (hf : ∀ y, y ∈ l → (y.f2.length : Int) ≤ 37) : Ev (fun k => spileref22_Same.f k l l) true := by
  refine evp rfl (count_up 0 (l.length : Int) (fun i => Ev (fun k => spileref22_Same.l0 k l l i) true) ?_ ?_ 0 (by omega) (by omega))
  · exact Ev.step (fun k => spileref22_Same.l0.eq_2 ..) (evn (by omega) (Ev.now _))
  · intro i h0 h1 ih
    rw [← w64_succ h0 h1 hn] at ih
    have := hf _ (rd33_mem h0 h1)
    exact Ev.step (fun k => spileref22_Same.l0.eq_2 ..) (evp h1 (evp h0 (evp h1 (evb (sameLot_ev _ _ _ _ (by omega)) (evp rfl ih)))))
theorem wf_all (l : List S33) (h : l.length ≤ maxLen ∧ ∀ x, x ∈ l → ok33 x) : ∀ i, 0 ≤ i → i < (l.length : Int) → Wf33 (rd_T33 l i) := by
  intro i h0 h1
  obtain ⟨_, ⟨a, b⟩, c, _⟩ := h.2 _ (rd33_mem h0 h1)
  exact ⟨wf64 a, wf64 b, len_le c⟩
end Go.Proofs.YtgjoenoknknoiaaDoor.PL
namespace Go.Proofs.YtgjoenoknknoiaaDoor.PL
open Go Go.RowKit Go.Proofs.YtgjoenoknknoiaaDoorW.PrintWords Go.Proofs.YtgjoenoknknoiaaDoorW.PrintLast Go.Proofs.YtgjoenoknknoiaaDoorW.PrintMore Go.Proofs.YtgjoenoknknoiaaDoor.Pr Go.Proofs.YtgjoenoknknoiaaDoor.Opn Go.Proofs.YtgjoenoknknoiaaDoor.TX Go.Proofs.YtgjoenoknknoiaaDoor.X
def wLot : List UInt8 := [108, 111, 116]
def wMass : List UInt8 := [109, 97, 115, 115]
def wFill : List UInt8 := [102, 105, 108, 108]
def wAlc : List UInt8 := [97, 108, 99, 111, 104, 111, 108]
/-- Names and numbers by turns. -/
def pairsL : List UInt8 → List UInt8 → List (List UInt8) → Option (List Int)
  | _, _, [] => some []
  | _, _, [_] => none
  | n0, n1, a :: b :: r => if a = n0 then (match numP 15 b with
    | none => none
    | some v => (match pairsL n1 n0 r with
      | none => none
      | some l => some ((v : Int) :: l))) else none
theorem pairsL_cons (n0 n1 a b : List UInt8) (r : List (List UInt8)) : pairsL n0 n1 (a :: b :: r) = if a = n0 then (match numP 15 b with
    | none => none
    | some v => (match pairsL n1 n0 r with
      | none => none
      | some l => some ((v : Int) :: l))) else none := rfl
theorem pairsL_len : ∀ (m : Nat) (n0 n1 : List UInt8) (ws : List (List UInt8)) (l : List Int), ws.length ≤ m → pairsL n0 n1 ws = some l → 2 * l.length = ws.length
  | _, n0, n1, [], l, _, h => by obtain rfl := Option.some.inj h; rfl
  | _, n0, n1, [_], l, _, h => by cases h
  | 0, n0, n1, a :: b :: r, l, hm, h => by simp at hm
  | m + 1, n0, n1, a :: b :: r, l, hm, h => by
    rw [pairsL_cons] at h
    by_cases c : a = n0
    · rw [if_pos c] at h
      cases hv : numP 15 b with
      | none => rw [hv] at h; cases h
      | some v =>
        rw [hv] at h
        simp only [] at h
        cases hp : pairsL n1 n0 r with
        | none => rw [hp] at h; cases h
        | some t =>
          rw [hp] at h
          obtain rfl := Option.some.inj h
          have := pairsL_len m n1 n0 r t (by simp at hm; omega) hp
          simp; omega
    · rw [if_neg c] at h; cases h
theorem word_at (ws : List (List UInt8)) (j : Nat) (h : j < ws.length) : rdOf ByteArray.empty (ws.map ba) (j : Int) = ba ws[j] := by
  unfold rdOf
  rw [List.getD_eq_getElem?_getD, Int.toNat_natCast, List.getElem?_map, List.getElem?_eq_getElem h]
  rfl
/-- A word's number, by Atoi and Itoa. -/
theorem atoi_ev {α : Type} (b : List UInt8) (hb : b.length ≤ 281474976710656) (fail r : α) (cont : Nat → Int → Option α) (hy : ∀ v : Nat, numP 15 b = some v → Ev (fun k => cont k (v : Int)) r) (hn : numP 15 b = none → fail = r) :
    Ev (fun k => (strconv_Atoi.f (ba b)).bind fun bt => if bt.2.isNone = true then (if bt.1 < 0 then some fail else (if ((ba b).size : Int) > 15 then some fail else ((strconv_Itoa.f bt.1).bind fun t => if t.toList = (ba b).toList then cont k bt.1 else some fail))) else some fail) r := by
  obtain ⟨n, e, h1, h2, h3⟩ := atoi_cases (ba b) (by rw [ba_size]; exact hb)
  rw [ba_list] at h2
  have none_of : ¬ (Canon b ∧ b.length ≤ 15) → numP 15 b = none := fun h => by unfold numP; rw [if_neg h]
  have ok_of : Canon b ∧ b.length ≤ 15 → e = none ∧ n = ((valFrom 0 b : Nat) : Int) := fun h => by
    have ha := atoi_of_canon h.1 (by omega)
    cases e with
    | none =>
      have := h2.1 rfl
      rw [ha] at this
      injection this with this
      exact ⟨rfl, this.symm⟩
    | some q =>
      exfalso
      unfold strconv_Atoi.f at h1
      rw [if_pos (by rw [ba_size]; exact hb), ba_list, ha] at h1
      simp at h1
  refine evb (evc (fun _ => rfl) h1) ?_
  cases e with
  | some q => exact evn (by simp) (evr (hn (none_of (fun h => by have := (ok_of h).1; cases this))))
  | none =>
    refine evp rfl ?_
    by_cases c1 : n < 0
    · exact evp c1 (evr (hn (none_of (fun h => by have := (ok_of h).2; omega))))
    · refine evn c1 ?_
      by_cases c2 : ((ba b).size : Int) > 15
      · exact evp c2 (evr (hn (none_of (fun h => by rw [ba_size] at c2; omega))))
      · refine evn c2 (evb (evc (fun _ => rfl) (itoa_f h3.1 h3.2)) ?_)
        by_cases c3 : Lib.itoa n = b
        · obtain ⟨g1, g2⟩ := canon_of_atoi (by omega) c3
          refine evp (by rw [ba_toList, ba_toList]; exact c3) ?_
          have := hy (valFrom 0 b) (by unfold numP; rw [if_pos ⟨g1, by rw [ba_size] at c2; omega⟩])
          rw [← g2] at this
          exact this
        · refine evn (by rw [ba_toList, ba_toList]; exact c3) (evr (hn (none_of (fun h => c3 ?_))))
          rw [(ok_of h).2]
          exact itoa_of_canon h.1
def pairsR (o : List Int) : Option (List Int) → List Int × Bool
  | some l => (o ++ l, true)
  | none => ([], false)
theorem pairs_loop (ws : List (List UInt8)) (m : Nat) (hm : ws.length = 2 * m) (hb : ∀ b, b ∈ ws → b.length ≤ 281474976710656) (hl : ws.length ≤ 1000000) (n0 n1 : List UInt8) : ∀ (d j : Nat), j + d = m → ∀ out : List Int, out.length ≤ 2 * j →
    Ev (fun k => lot_pairs.l0 k (ws.map ba) [ba n0, ba n1] out ((2 * j : Nat) : Int)) (pairsR out (pairsL (if j % 2 = 0 then n0 else n1) (if j % 2 = 0 then n1 else n0) (ws.drop (2 * j)))) := by
  intro d
  induction d with
  | zero =>
    intro j hj out ho
    have e : ws.drop (2 * j) = [] := List.drop_eq_nil_of_le (by omega)
    rw [e]
    exact Ev.step (fun k => lot_pairs.l0.eq_2 ..) (evn (by rw [List.length_map]; omega) (evr (by simp [pairsR, pairsL])))
  | succ d ih =>
    intro j hj out ho
    have l0 : 2 * j < ws.length := by omega
    have l1 : 2 * j + 1 < ws.length := by omega
    have e : ws.drop (2 * j) = ws[2 * j] :: ws[2 * j + 1] :: ws.drop (2 * (j + 1)) := by
      rw [List.drop_eq_getElem_cons l0, List.drop_eq_getElem_cons l1, show 2 * j + 1 + 1 = 2 * (j + 1) from by omega]
    have w1 : wrap64 (((2 * j : Nat) : Int) + 1) = ((2 * j + 1 : Nat) : Int) := by rw [w64 (by omega) (by omega)]; omega
    have w2 : wrap64 (((2 * j : Nat) : Int) + 2) = ((2 * (j + 1) : Nat) : Int) := by rw [w64 (by omega) (by omega)]; omega
    have w3 : wrap64 (Int.tdiv ((2 * j : Nat) : Int) 2) = (j : Int) := by
      rw [Int.tdiv_eq_ediv_of_nonneg (by omega), w64 (by omega) (by omega)]; omega
    have w4 : Int.tmod (j : Int) ((([ba n0, ba n1] : List ByteArray).length : Int)) = ((j % 2 : Nat) : Int) := by
      rw [Int.tmod_eq_emod_of_nonneg (by omega)]; simp
    have w5 : rdOf ByteArray.empty [ba n0, ba n1] ((j % 2 : Nat) : Int) = ba (if j % 2 = 0 then n0 else n1) := by
      rcases Nat.mod_two_eq_zero_or_one j with h | h <;> rw [h] <;> rfl
    have swap : ((if (j + 1) % 2 = 0 then n0 else n1) = (if j % 2 = 0 then n1 else n0)) ∧ ((if (j + 1) % 2 = 0 then n1 else n0) = (if j % 2 = 0 then n0 else n1)) := by
      rcases Nat.mod_two_eq_zero_or_one j with h | h
      · rw [show (j + 1) % 2 = 1 from by omega, h]; simp
      · rw [show (j + 1) % 2 = 0 from by omega, h]; simp
    refine Ev.step (fun k => lot_pairs.l0.eq_2 ..) ?_
    rw [w1, w2, w3, w4, w5, word_at ws (2 * j) l0, word_at ws (2 * j + 1) l1, e, pairsL_cons]
    refine evp (by rw [List.length_map]; omega) (evp (by omega) (evp (by rw [List.length_map]; omega) ?_))
    refine atoi_ev ws[2 * j + 1] (hb _ (List.getElem_mem l1)) ([], false) _ (fun k n => if 0 ≤ ((2 * j : Nat) : Int) then (if (([ba n0, ba n1] : List ByteArray).length : Int) = 0 then none else (if 0 ≤ ((j % 2 : Nat) : Int) then (if ((j % 2 : Nat) : Int) < (([ba n0, ba n1] : List ByteArray).length : Int) then (if (ba ws[2 * j]).toList = (ba (if j % 2 = 0 then n0 else n1)).toList then (if out.length < 17592186044416 then (lot_pairs.l0 k (ws.map ba) [ba n0, ba n1] (out ++ [n]) ((2 * (j + 1) : Nat) : Int)) else none) else (some (([] : List Int), false))) else none) else none)) else none) ?_ ?_
    · intro v hv
      refine evp (by omega) (evn (by simp) (evp (by omega) (evp (by simp; omega) ?_)))
      by_cases c : ws[2 * j] = (if j % 2 = 0 then n0 else n1)
      · rw [if_pos c, hv]
        have q := ih (j + 1) (by omega) (out ++ [(v : Int)]) (by rw [List.length_append]; simp; omega)
        rw [swap.1, swap.2] at q
        refine evp (by rw [ba_toList, ba_toList]; exact c) (evp (by omega) ?_)
        cases hp : pairsL (if j % 2 = 0 then n1 else n0) (if j % 2 = 0 then n0 else n1) (ws.drop (2 * (j + 1))) with
        | none => rw [hp] at q; exact q
        | some t =>
          rw [hp] at q
          simp only [pairsR, List.append_assoc, List.singleton_append] at q ⊢
          exact q
      · rw [if_neg c]
        exact evn (by rw [ba_toList, ba_toList]; exact c) (evr rfl)
    · intro hv
      rw [hv]
      by_cases c : ws[2 * j] = (if j % 2 = 0 then n0 else n1)
      · rw [if_pos c]; rfl
      · rw [if_neg c]; rfl
theorem pairs_ev (ws : List (List UInt8)) (he : ws.length % 2 = 0) (hb : ∀ b, b ∈ ws → b.length ≤ 281474976710656) (hl : ws.length ≤ 1000000) (n0 n1 : List UInt8) :
    Ev (fun k => lot_pairs.f k (ws.map ba) [ba n0, ba n1]) (pairsR [] (pairsL n0 n1 ws)) := by
  have q := pairs_loop ws (ws.length / 2) (by omega) hb hl n0 n1 (ws.length / 2) 0 (by omega) [] (by simp)
  refine evp (by rw [List.length_map]; omega) ?_
  simpa using q
def sharesT : List Int → List S35
  | f :: a :: r => ⟨f, a⟩ :: sharesT r
  | _ => []
def sumW : Int → List S35 → Int
  | s, [] => s
  | s, x :: r => sumW (wrap64 (s + x.f1)) r
def readL (ws : List (List UInt8)) : Option S33 := if ws.length < 4 ∨ ws.length % 4 ≠ 0 then none else match pairsL wLot wMass (ws.take 4) with
  | none => none
  | some h => (match pairsL wFill wAlc (ws.drop 4) with
    | none => none
    | some t => some ⟨rd h 0, ⟨sumW 0 (sharesT t), rd h 1⟩, sharesT t⟩)
def readR : Option S33 → Int × Int × Int × List S35 × Bool
  | some x => (x.f0, x.f1.f0, x.f1.f1, x.f2, true)
  | none => (0, 0, 0, [], false)
def lineL (l : List UInt8) : Option S33 := readL (parts 32 l)
theorem read_loop (t : List Int) (m : Nat) (hm : t.length = 2 * m) (hl : t.length ≤ 1000000) (id mass : Int) : ∀ (d j : Nat), j + d = m → ∀ (alc : Int) (out : List S35), out.length ≤ j →
    Ev (fun k => lot_read.l0 k t ((2 * j : Nat) : Int) id alc mass out) (id, sumW alc (sharesT (t.drop (2 * j))), mass, out ++ sharesT (t.drop (2 * j)), true) := by
  intro d
  induction d with
  | zero =>
    intro j hj alc out ho
    have e : t.drop (2 * j) = [] := List.drop_eq_nil_of_le (by omega)
    rw [e]
    exact Ev.step (fun k => lot_read.l0.eq_2 ..) (evn (by omega) (evr (by simp [sharesT, sumW])))
  | succ d ih =>
    intro j hj alc out ho
    have l0 : 2 * j < t.length := by omega
    have l1 : 2 * j + 1 < t.length := by omega
    have e : t.drop (2 * j) = t[2 * j] :: t[2 * j + 1] :: t.drop (2 * (j + 1)) := by
      rw [List.drop_eq_getElem_cons l0, List.drop_eq_getElem_cons l1, show 2 * j + 1 + 1 = 2 * (j + 1) from by omega]
    have w1 : wrap64 (((2 * j : Nat) : Int) + 1) = ((2 * j + 1 : Nat) : Int) := by rw [w64 (by omega) (by omega)]; omega
    have w2 : wrap64 (((2 * j : Nat) : Int) + 2) = ((2 * (j + 1) : Nat) : Int) := by rw [w64 (by omega) (by omega)]; omega
    have r0 : ∀ i (h : i < t.length), rd t ((i : Nat) : Int) = t[i] := fun i h => by
      unfold rd; rw [List.getD_eq_getElem?_getD, Int.toNat_natCast, List.getElem?_eq_getElem h]; rfl
    refine Ev.step (fun k => lot_read.l0.eq_2 ..) ?_
    rw [w1, w2, r0 _ l0, r0 _ l1, e]
    have q := ih (j + 1) (by omega) (wrap64 (alc + t[2 * j + 1])) (out ++ [(⟨t[2 * j], t[2 * j + 1]⟩ : S35)]) (by rw [List.length_append]; simp; omega)
    rw [List.append_assoc] at q
    exact evp (by omega) (evp (by omega) (evp (by omega) (evp (by omega) (evp (by omega) q))))
theorem four (ws : List (List UInt8)) (h : 4 ≤ ws.length) : ∃ a b c d r, ws = a :: b :: c :: d :: r := by
  match ws, h with
  | a :: b :: c :: d :: r, _ => exact ⟨a, b, c, d, r, rfl⟩
theorem lot_read_ev (l : List UInt8) (hl : l.length ≤ 70000) : Ev (fun k => lot_read.f k (ba l)) (readR (lineL l)) := by
  have hs := split_ev (ba l) (by rw [ba_size]; omega)
  rw [ba_list] at hs
  have hcount : ∀ p, p ∈ parts 32 l → p.length ≤ 70000 := by
    intro p hp
    have : ∀ (s : List UInt8) (q : List UInt8), q ∈ parts 32 s → q.length ≤ s.length := by
      intro s
      induction s with
      | nil => intro q hq; simp [parts] at hq; simp [hq]
      | cons b r ih =>
        intro q hq
        rw [parts_cons] at hq
        by_cases c : b = 32
        · rw [if_pos c] at hq
          rcases List.mem_cons.1 hq with rfl | hq
          · simp
          · have := ih q hq; simp; omega
        · rw [if_neg c] at hq
          cases hpr : parts 32 r with
          | nil => exact absurd hpr (parts_ne 32 r)
          | cons u v =>
            rw [hpr] at hq ih
            simp only [List.mem_cons] at hq
            rcases hq with rfl | hq
            · have := ih u (by simp); simp; omega
            · have := ih q (by simp [hq]); simp; omega
    have := this l p hp
    omega
  have hlen : (parts 32 l).length ≤ 70001 := by
    have : ∀ s : List UInt8, (parts 32 s).length ≤ s.length + 1 := by
      intro s
      induction s with
      | nil => simp [parts]
      | cons b r ih =>
        rw [parts_cons]
        by_cases c : b = 32
        · rw [if_pos c]; simp; omega
        · rw [if_neg c]
          cases hpr : parts 32 r with
          | nil => exact absurd hpr (parts_ne 32 r)
          | cons u v => rw [hpr] at ih; simp at ih ⊢; omega
    have := this l
    omega
  refine evb (evc (fun _ => rfl) hs) ?_
  unfold lineL readL
  generalize parts 32 l = ws at hcount hlen
  by_cases c1 : ((ws.map ba).length : Int) < 4
  · rw [if_pos (.inl (by rw [List.length_map] at c1; omega))]
    exact evp c1 (Ev.step (fun k => lot_read.j0.eq_2 ..) (evp rfl (evr rfl)))
  refine evn c1 ?_
  rw [List.length_map] at c1 ⊢
  by_cases c2 : ws.length % 4 = 0
  · rw [if_neg (by omega)]
    have e2 : (((ws.length : Int) % 4) != 0) = false := by
      rw [bne_eq_false_iff_eq]; omega
    rw [e2]
    refine Ev.step (fun k => lot_read.j0.eq_2 ..) (evn (by simp) (evp (by rw [List.length_map]; omega) ?_))
    rw [← List.map_take, ← List.map_drop]
    have p1 := pairs_ev (ws.take 4) (by rw [List.length_take]; omega) (fun b hb => by have := hcount b (List.mem_of_mem_take hb); omega) (by rw [List.length_take]; omega) wLot wMass
    have p2 := pairs_ev (ws.drop 4) (by rw [List.length_drop]; omega) (fun b hb => by have := hcount b (List.mem_of_mem_drop hb); omega) (by rw [List.length_drop]; omega) wFill wAlc
    refine evb p1 (evb p2 ?_)
    cases h1 : pairsL wLot wMass (ws.take 4) with
    | none => exact evn (by simp [pairsR]) (Ev.step (fun k => lot_read.j1.eq_2 ..) (evp rfl (evr rfl)))
    | some h =>
      refine evp rfl ?_
      cases h2 : pairsL wFill wAlc (ws.drop 4) with
      | none => exact Ev.step (fun k => lot_read.j1.eq_2 ..) (evp rfl (evr rfl))
      | some t =>
        have g1 := pairsL_len _ _ _ _ _ (Nat.le_refl _) h1
        have g2 := pairsL_len _ _ _ _ _ (Nat.le_refl _) h2
        rw [List.length_take] at g1
        rw [List.length_drop] at g2
        have q := read_loop t (t.length / 2) (by omega) (by omega) (rd h 0) (rd h 1) (t.length / 2) 0 (by omega) 0 [] (by simp)
        refine Ev.step (fun k => lot_read.j1.eq_2 ..) (evn (by simp [pairsR]) ?_)
        simp only [pairsR, List.nil_append]
        refine evp (by omega) (evp (by omega) ?_)
        simpa [readR] using q
  · rw [if_pos (.inr c2)]
    have e2 : (((ws.length : Int) % 4) != 0) = true := by
      rw [bne_iff_ne]; omega
    rw [e2]
    exact Ev.step (fun k => lot_read.j0.eq_2 ..) (evp rfl (evr rfl))
end Go.Proofs.YtgjoenoknknoiaaDoor.PL
namespace Go.Proofs.YtgjoenoknknoiaaDoor.PL
open Go Go.RowKit Go.Proofs.YtgjoenoknknoiaaDoorW.PrintWords Go.Proofs.YtgjoenoknknoiaaDoorW.PrintLast Go.Proofs.YtgjoenoknknoiaaDoorW.PrintMore Go.Proofs.YtgjoenoknknoiaaDoor.Pr Go.Proofs.YtgjoenoknknoiaaDoor.Opn Go.Proofs.YtgjoenoknknoiaaDoor.TX Go.Proofs.YtgjoenoknknoiaaDoor.X
theorem drop35 {l : List S35} {i : Int} (h0 : 0 ≤ i) (h1 : i < (l.length : Int)) : l.drop i.toNat = rd_T35 l i :: l.drop (i + 1).toNat := by
  have hl : i.toNat < l.length := by omega
  have g : rd_T35 l i = l[i.toNat] := by
    unfold rd_T35
    simp [List.getD_eq_getElem?_getD, List.getElem?_eq_getElem hl]
  rw [g, show (i + 1).toNat = i.toNat + 1 from by omega, ← List.drop_eq_getElem_cons hl]
theorem alcohol_ev (l : List S35) (hl : (l.length : Int) ≤ 9223372036854775807) : Ev (fun k => spileref22_Alcohol.f k l) (sumW 0 l) := by
  have key : ∀ i, 0 ≤ i → i ≤ (l.length : Int) → ∀ s : Int, Ev (fun k => spileref22_Alcohol.l0 k l s i) (sumW s (l.drop i.toNat)) := by
    refine count_up 0 (l.length : Int) _ ?_ ?_
    · intro s
      rw [List.drop_eq_nil_of_le (by omega)]
      exact Ev.step (fun k => spileref22_Alcohol.l0.eq_2 ..) (evn (by omega) (Ev.now _))
    · intro i h0 h1 ih s
      have q := ih (wrap64 (s + (rd_T35 l i).f1))
      rw [drop35 h0 h1]
      rw [← w64_succ h0 h1 hl] at q
      refine Ev.step (fun k => spileref22_Alcohol.l0.eq_2 ..) (evp h1 (evp h0 ?_))
      rw [w64_succ h0 h1 hl] at q ⊢
      exact q
  have := key 0 (by omega) (by omega) 0
  rw [show (0 : Int).toNat = 0 from rfl, List.drop_zero] at this
  exact this
theorem pairsL_two (n0 n1 a b c d : List UInt8) (r : List (List UInt8)) : pairsL n0 n1 (a :: b :: c :: d :: r) = if a = n0 then (match numP 15 b with
    | none => none
    | some v => if c = n1 then (match numP 15 d with
      | none => none
      | some u => (match pairsL n0 n1 r with
        | none => none
        | some t => some ((v : Int) :: (u : Int) :: t))) else none) else none := by
  rw [pairsL_cons]
  by_cases c1 : a = n0
  · rw [if_pos c1, if_pos c1]
    cases numP 15 b with
    | none => rfl
    | some v =>
      simp only []
      rw [pairsL_cons]
      by_cases c2 : c = n1
      · rw [if_pos c2, if_pos c2]
        cases numP 15 d with
        | none => rfl
        | some u =>
          simp only []
          cases pairsL n0 n1 r with
          | none => rfl
          | some t => rfl
      · rw [if_neg c2, if_neg c2]
  · rw [if_neg c1, if_neg c1]
def tailR (id mass : Int) (ok : Bool) (out : List S35) (r : Int × Int × Int × List S35 × Bool) : Option (List Int) → Prop
  | some t => r = (id, sumW 0 (out ++ sharesT t), mass, out ++ sharesT t, ok)
  | none => r.2.2.2.2 = false
theorem ref_loop (ws : List (List UInt8)) (m : Nat) (hm : ws.length = 4 + 4 * m) (hl : ws.length ≤ 1000000) (a b : Bool) (id mass : Int) : ∀ (d j : Nat), j + d = m → ∀ out : List S35, out.length ≤ j →
    ∃ r, Ev (fun k => spileref22_read.l0 k (ws.map ba) a b ((4 + 4 * j : Nat) : Int) id 0 mass out) r ∧ tailR id mass (a && b) out r (pairsL wFill wAlc (ws.drop (4 + 4 * j))) := by
  intro d
  induction d with
  | zero =>
    intro j hj out ho
    have e : ws.drop (4 + 4 * j) = [] := List.drop_eq_nil_of_le (by omega)
    rw [e]
    refine ⟨(id, sumW 0 out, mass, out, a && b), Ev.step (fun k => spileref22_read.l0.eq_2 ..) (evn (by rw [List.length_map]; omega) (evb (alcohol_ev out (by omega)) ?_)), ?_⟩
    · cases a with
      | true => exact evp rfl (evr (by simp))
      | false => exact evn (by simp) (evr (by simp))
    · simp [tailR, pairsL, sharesT]
  | succ d ih =>
    intro j hj out ho
    have l0 : 4 + 4 * j < ws.length := by omega
    have l1 : 4 + 4 * j + 1 < ws.length := by omega
    have l2 : 4 + 4 * j + 1 + 1 < ws.length := by omega
    have l3 : 4 + 4 * j + 1 + 1 + 1 < ws.length := by omega
    have e : ws.drop (4 + 4 * j) = ws[4 + 4 * j] :: ws[4 + 4 * j + 1] :: ws[4 + 4 * j + 1 + 1] :: ws[4 + 4 * j + 1 + 1 + 1] :: ws.drop (4 + 4 * (j + 1)) := by
      rw [List.drop_eq_getElem_cons l0, List.drop_eq_getElem_cons l1, List.drop_eq_getElem_cons l2, List.drop_eq_getElem_cons l3, show 4 + 4 * j + 1 + 1 + 1 + 1 = 4 + 4 * (j + 1) from by omega]
    have w1 : wrap64 (((4 + 4 * j : Nat) : Int) + 1) = ((4 + 4 * j + 1 : Nat) : Int) := by rw [w64 (by omega) (by omega)]; omega
    have w2 : wrap64 (((4 + 4 * j : Nat) : Int) + 2) = ((4 + 4 * j + 1 + 1 : Nat) : Int) := by rw [w64 (by omega) (by omega)]; omega
    have w3 : wrap64 (((4 + 4 * j : Nat) : Int) + 3) = ((4 + 4 * j + 1 + 1 + 1 : Nat) : Int) := by rw [w64 (by omega) (by omega)]; omega
    have w4 : wrap64 (((4 + 4 * j : Nat) : Int) + 4) = ((4 + 4 * (j + 1) : Nat) : Int) := by rw [w64 (by omega) (by omega)]; omega
    have n1 := number_ev (ba ws[4 + 4 * j + 1]) 15 (by omega)
    have n3 := number_ev (ba ws[4 + 4 * j + 1 + 1 + 1]) 15 (by omega)
    rw [ba_list] at n1 n3
    rw [e, pairsL_two]
    have bad : Ev (fun _ : Nat => some ((0, 0, 0, ([] : List S35), false) : Int × Int × Int × List S35 × Bool)) (0, 0, 0, [], false) := Ev.now _
    have pre : ∀ r, Ev (fun k => if 0 ≤ ((4 + 4 * j : Nat) : Int) then (if (ba ws[4 + 4 * j]).toList = ([102, 105, 108, 108] : List UInt8) then (if 0 ≤ ((4 + 4 * j + 1 + 1 : Nat) : Int) then (if ((4 + 4 * j + 1 + 1 : Nat) : Int) < ((ws.map ba).length : Int) then (if (ba ws[4 + 4 * j + 1 + 1]).toList = ([97, 108, 99, 111, 104, 111, 108] : List UInt8) then (if (numR 15 ws[4 + 4 * j + 1]).2 = true then (if (numR 15 ws[4 + 4 * j + 1 + 1 + 1]).2 = true then (if out.length < 8796093022208 then (spileref22_read.l0 k (ws.map ba) a b ((4 + 4 * (j + 1) : Nat) : Int) id 0 mass (out ++ [(⟨(numR 15 ws[4 + 4 * j + 1]).1, (numR 15 ws[4 + 4 * j + 1 + 1 + 1]).1⟩ : S35)])) else none) else (some (0, 0, 0, ([] : List (S35)), false))) else (some (0, 0, 0, ([] : List (S35)), false))) else (some (0, 0, 0, ([] : List (S35)), false))) else none) else none) else (some (0, 0, 0, ([] : List (S35)), false))) else none) r → Ev (fun k => spileref22_read.l0 k (ws.map ba) a b ((4 + 4 * j : Nat) : Int) id 0 mass out) r := by
      intro r h
      refine Ev.step (fun k => spileref22_read.l0.eq_2 ..) ?_
      rw [w1, w2, w3, w4, word_at ws _ l0, word_at ws _ l1, word_at ws _ l2, word_at ws _ l3]
      exact evp (by rw [List.length_map]; omega) (evp (by omega) (evp (by rw [List.length_map]; omega) (evb n1 (evp (by omega) (evp (by rw [List.length_map]; omega) (evb n3 h))))))
    by_cases c0 : ws[4 + 4 * j] = wFill
    · rw [if_pos c0]
      by_cases c2 : ws[4 + 4 * j + 1 + 1] = wAlc
      · cases v1 : numP 15 ws[4 + 4 * j + 1] with
        | none => exact ⟨_, pre _ (evp (by omega) (evp (by rw [ba_toList]; exact c0) (evp (by omega) (evp (by rw [List.length_map]; omega) (evp (by rw [ba_toList]; exact c2) (evn (by simp [numR, v1]) bad)))))), rfl⟩
        | some x1 =>
          simp only []
          rw [if_pos c2]
          cases v3 : numP 15 ws[4 + 4 * j + 1 + 1 + 1] with
          | none => exact ⟨_, pre _ (evp (by omega) (evp (by rw [ba_toList]; exact c0) (evp (by omega) (evp (by rw [List.length_map]; omega) (evp (by rw [ba_toList]; exact c2) (evp (by simp [numR, v1]) (evn (by simp [numR, v3]) bad))))))), rfl⟩
          | some x3 =>
            obtain ⟨r, q1, q2⟩ := ih (j + 1) (by omega) (out ++ [(⟨(x1 : Int), (x3 : Int)⟩ : S35)]) (by rw [List.length_append]; simp; omega)
            refine ⟨r, pre _ (evp (by omega) (evp (by rw [ba_toList]; exact c0) (evp (by omega) (evp (by rw [List.length_map]; omega) (evp (by rw [ba_toList]; exact c2) (evp (by simp [numR, v1]) (evp (by simp [numR, v3]) (evp (by omega) ?_)))))))), ?_⟩
            · have z1 : (numR 15 ws[4 + 4 * j + 1]).1 = (x1 : Int) := by simp [numR, v1]
              have z3 : (numR 15 ws[4 + 4 * j + 1 + 1 + 1]).1 = (x3 : Int) := by simp [numR, v3]
              rw [z1, z3]
              exact q1
            · simp only []
              cases hp : pairsL wFill wAlc (ws.drop (4 + 4 * (j + 1))) with
              | none => rw [hp] at q2; exact q2
              | some t =>
                rw [hp] at q2
                simp only [tailR, List.append_assoc, List.singleton_append] at q2 ⊢
                exact q2
      · refine ⟨_, pre _ (evp (by omega) (evp (by rw [ba_toList]; exact c0) (evp (by omega) (evp (by rw [List.length_map]; omega) (evn (by rw [ba_toList]; exact c2) bad))))), ?_⟩
        cases numP 15 ws[4 + 4 * j + 1] with
        | none => rfl
        | some x1 => simp only []; rw [if_neg c2]; rfl
    · rw [if_neg c0]
      exact ⟨_, pre _ (evp (by omega) (evn (by rw [ba_toList]; exact c0) bad)), rfl⟩
def readOK (r : Int × Int × Int × List S35 × Bool) : Option S33 → Prop
  | some x => r = readR (some x)
  | none => r.2.2.2.2 = false
theorem parts_len (s : List UInt8) : (parts 32 s).length ≤ s.length + 1 := by
  induction s with
  | nil => simp [parts]
  | cons b r ih =>
    rw [parts_cons]
    by_cases c : b = 32
    · rw [if_pos c]; simp; omega
    · rw [if_neg c]
      cases hpr : parts 32 r with
      | nil => exact absurd hpr (parts_ne 32 r)
      | cons u v => rw [hpr] at ih; simp at ih ⊢; omega
theorem ref_read_ev (l : List UInt8) (hl : l.length ≤ 70000) : ∃ r, Ev (fun k => spileref22_read.f k (ba l)) r ∧ readOK r (lineL l) := by
  have hw := words_ev (ba l) (by rw [ba_size]; omega)
  rw [ba_list] at hw
  have hlen := parts_len l
  unfold lineL readL
  generalize parts 32 l = ws at hw hlen
  have no : Ev (fun k => spileref22_read.j0 k (ws.map ba) true) (0, 0, 0, [], false) := Ev.step (fun k => spileref22_read.j0.eq_2 ..) (evp rfl (Ev.now _))
  by_cases c1 : ws.length < 4
  · rw [if_pos (.inl c1)]
    exact ⟨_, evb hw (evp (by rw [List.length_map]; omega) no), rfl⟩
  by_cases c2 : ws.length % 4 = 0
  · rw [if_neg (by omega)]
    obtain ⟨a, b, c, d, r, rfl⟩ := four ws (by omega)
    have z0 := word_at (a :: b :: c :: d :: r) 0 (by simp)
    have z1 := word_at (a :: b :: c :: d :: r) 1 (by simp)
    have z2 := word_at (a :: b :: c :: d :: r) 2 (by simp)
    have z3 := word_at (a :: b :: c :: d :: r) 3 (by simp)
    have hh := pairsL_two wLot wMass a b c d []
    have t4 : (a :: b :: c :: d :: r).take 4 = [a, b, c, d] := rfl
    have d4 : (a :: b :: c :: d :: r).drop 4 = r := rfl
    rw [t4, d4, hh]
    have pre : ∀ x, Ev (fun k => if (ba a).toList = ([108, 111, 116] : List UInt8) then (if 2 < (((a :: b :: c :: d :: r).map ba).length : Int) then (spileref22_read.j0 k ((a :: b :: c :: d :: r).map ba) ((ba c).toList != ([109, 97, 115, 115] : List UInt8))) else none) else (spileref22_read.j0 k ((a :: b :: c :: d :: r).map ba) true)) x → Ev (fun k => spileref22_read.f k (ba l)) x := by
      intro x h
      refine evb hw (evn (by rw [List.length_map]; omega) (evp (by rw [List.length_map]; omega) (evp (by rw [List.length_map]; omega) ?_)))
      rw [show (0 : Int) = ((0 : Nat) : Int) from rfl, z0, show (2 : Int) = ((2 : Nat) : Int) from rfl, z2]
      exact h
    by_cases ca : a = wLot
    · by_cases cc : c = wMass
      · have e2 : ((ba c).toList != ([109, 97, 115, 115] : List UInt8)) = false := by rw [bne_eq_false_iff_eq, ba_toList]; exact cc
        have n1 := number_ev (ba b) 15 (by omega)
        have n3 := number_ev (ba d) 15 (by omega)
        rw [ba_list] at n1 n3
        obtain ⟨x, q1, q2⟩ := ref_loop (a :: b :: c :: d :: r) (r.length / 4) (by simp at c2 ⊢; omega) (by omega) (numR 15 b).2 (numR 15 d).2 (numR 15 b).1 (numR 15 d).1 (r.length / 4) 0 (by omega) [] (by simp)
        refine ⟨x, pre x (evp (by rw [ba_toList]; exact ca) (evp (by rw [List.length_map]; simp; omega) ?_)), ?_⟩
        · rw [e2]
          refine Ev.step (fun k => spileref22_read.j0.eq_2 ..) (evn (by simp) (evp (by rw [List.length_map]; simp; omega) ?_))
          rw [show (1 : Int) = ((1 : Nat) : Int) from rfl, z1, show (3 : Int) = ((3 : Nat) : Int) from rfl, z3]
          exact evb n1 (evp (by rw [List.length_map]; simp; omega) (evb n3 q1))
        · rw [if_pos ca]
          have hd : (a :: b :: c :: d :: r).drop (4 + 4 * 0) = r := rfl
          rw [hd] at q2
          cases v1 : numP 15 b with
          | none =>
            have : (numR 15 b).2 = false := by simp [numR, v1]
            rw [this, Bool.false_and] at q2
            cases hp : pairsL wFill wAlc r with
            | none => rw [hp] at q2; exact q2
            | some t => rw [hp] at q2; simp only [tailR] at q2; rw [q2]; rfl
          | some x1 =>
            simp only []
            rw [if_pos cc]
            cases v3 : numP 15 d with
            | none =>
              have : (numR 15 d).2 = false := by simp [numR, v3]
              rw [this, Bool.and_false] at q2
              cases hp : pairsL wFill wAlc r with
              | none => rw [hp] at q2; exact q2
              | some t => rw [hp] at q2; simp only [tailR] at q2; rw [q2]; rfl
            | some x3 =>
              have e1 : numR 15 b = ((x1 : Int), true) := by simp [numR, v1]
              have e3 : numR 15 d = ((x3 : Int), true) := by simp [numR, v3]
              rw [e1, e3] at q2
              cases hp : pairsL wFill wAlc r with
              | none => rw [hp] at q2; simp only [pairsL, readOK]; exact q2
              | some t =>
                rw [hp] at q2
                simp only [tailR, List.nil_append, Bool.and_self] at q2
                simp only [pairsL, readOK, readR]
                rw [q2]
                rfl
      · have e2 : ((ba c).toList != ([109, 97, 115, 115] : List UInt8)) = true := by rw [bne_iff_ne, ba_toList]; exact cc
        refine ⟨(0, 0, 0, [], false), pre _ (evp (by rw [ba_toList]; exact ca) (evp (by rw [List.length_map]; simp; omega) ?_)), ?_⟩
        · rw [e2]; exact no
        · rw [if_pos ca]
          cases numP 15 b with
          | none => rfl
          | some x1 => simp only []; rw [if_neg cc]; rfl
    · rw [if_neg ca]
      exact ⟨(0, 0, 0, [], false), pre _ (evn (by rw [ba_toList]; exact ca) no), rfl⟩
  · rw [if_pos (.inr c2)]
    exact ⟨_, evb hw (evn (by rw [List.length_map]; omega) (evn (by rw [List.length_map]; omega) no)), rfl⟩
def In64 (x : Int) : Prop := -9223372036854775808 ≤ x ∧ x ≤ 9223372036854775807
theorem sumW_in : ∀ (l : List S35) (s : Int), In64 s → In64 (sumW s l)
  | [], s, h => h
  | x :: r, s, h => sumW_in r _ (by unfold In64 wrap64; omega)
theorem sharesT_len : ∀ (n : Nat) (t : List Int), t.length ≤ n → (sharesT t).length ≤ t.length
  | _, [], _ => by simp [sharesT]
  | _, [_], _ => by simp [sharesT]
  | 0, _ :: _ :: _, h => by simp at h
  | n + 1, f :: a :: r, h => by
    have := sharesT_len n r (by simp at h; omega)
    simp [sharesT]; omega
theorem pairsL_small : ∀ (m : Nat) (n0 n1 : List UInt8) (ws : List (List UInt8)) (l : List Int), ws.length ≤ m → pairsL n0 n1 ws = some l → ∀ x, x ∈ l → 0 ≤ x ∧ x < 1000000000000000
  | _, n0, n1, [], l, _, h => by obtain rfl := Option.some.inj h; simp
  | _, n0, n1, [_], l, _, h => by cases h
  | 0, n0, n1, a :: b :: r, l, hm, h => by simp at hm
  | m + 1, n0, n1, a :: b :: r, l, hm, h => by
    rw [pairsL_cons] at h
    by_cases c : a = n0
    · rw [if_pos c] at h
      cases hv : numP 15 b with
      | none => rw [hv] at h; cases h
      | some v =>
        rw [hv] at h
        simp only [] at h
        cases hp : pairsL n1 n0 r with
        | none => rw [hp] at h; cases h
        | some t =>
          rw [hp] at h
          obtain rfl := Option.some.inj h
          intro x hx
          rcases List.mem_cons.1 hx with rfl | hx
          · have := numP_lt hv; omega
          · exact pairsL_small m n1 n0 r t (by simp at hm; omega) hp x hx
    · rw [if_neg c] at h; cases h
theorem rd_small {l : List Int} (h : ∀ x, x ∈ l → 0 ≤ x ∧ x < 1000000000000000) (i : Int) : 0 ≤ rd l i ∧ rd l i < 1000000000000000 := by
  unfold rd
  rw [List.getD_eq_getElem?_getD]
  cases e : l[i.toNat]? with
  | none => simp
  | some x => exact h x (List.mem_of_getElem? e)
theorem lineL_good {l : List UInt8} {x : S33} (hl : l.length ≤ 70000) (h : lineL l = some x) : Wf33 x := by
  unfold lineL readL at h
  have hlen := parts_len l
  generalize parts 32 l = ws at h hlen
  by_cases c : ws.length < 4 ∨ ws.length % 4 ≠ 0
  · rw [if_pos c] at h; cases h
  · rw [if_neg c] at h
    cases h1 : pairsL wLot wMass (ws.take 4) with
    | none => rw [h1] at h; cases h
    | some hd =>
      rw [h1] at h
      simp only [] at h
      cases h2 : pairsL wFill wAlc (ws.drop 4) with
      | none => rw [h2] at h; cases h
      | some t =>
        rw [h2] at h
        obtain rfl := Option.some.inj h
        have s1 := rd_small (pairsL_small _ _ _ _ _ (Nat.le_refl _) h1) 1
        have l2 := pairsL_len _ _ _ _ _ (Nat.le_refl _) h2
        have l3 := sharesT_len _ t (Nat.le_refl _)
        rw [List.length_drop] at l2
        refine ⟨sumW_in _ 0 (by unfold In64; omega), ⟨?_, ?_⟩, ?_⟩
        · show _ ≤ rd hd 1; omega
        · show rd hd 1 ≤ _; omega
        · show ((sharesT t).length : Int) ≤ _; omega
def run (e : Bool) : List (List UInt8) → List S33 → List S33 × Option Nat
  | [], out => (out, none)
  | l :: r, out => match lineL l with
    | none => ([], some out.length)
    | some x => if r = [] ∧ e = false then ([], some out.length) else run e r (out ++ [x])
theorem run_cons (e : Bool) (l : List UInt8) (r : List (List UInt8)) (out : List S33) : run e (l :: r) out = match lineL l with
    | none => ([], some out.length)
    | some x => if r = [] ∧ e = false then ([], some out.length) else run e r (out ++ [x]) := rfl
def fin (c : Int × Int) (o : List S33) : List S33 × Int × Int := if c.2 = 0 then (o, -1, 0) else ([], -1, c.2)
def runR (r : List S33 × Int × Int) : List S33 × Option Nat → Prop
  | (o, none) => (∃ c : Int × Int, r = fin c o ∧ (c.2 = 0 ↔ RightL o)) ∧ ∀ x, x ∈ o → Wf33 x
  | (_, some i) => r = ([], (i : Int), 3)
theorem lin_nil {s : List UInt8} {e : Bool} (h : lin [] s = ([], e)) : s = [] ∧ e = true := by
  rw [lin_cut] at h
  by_cases c : (cut1 10 s).2.2 = true
  · rw [if_pos c] at h; simp at h
  · rw [if_neg c] at h
    by_cases c2 : ([] : List UInt8) ++ s = []
    · rw [if_pos c2] at h
      exact ⟨by simpa using c2, (congrArg Prod.snd h).symm⟩
    · rw [if_neg c2] at h; simp at h
theorem lin_next {s l : List UInt8} {r : List (List UInt8)} {e : Bool} (h : lin [] s = (l :: r, e)) :
    (cut1 10 s).1 = l ∧ (((cut1 10 s).2.2 = true ∧ lin [] (cut1 10 s).2.1 = (r, e)) ∨ ((cut1 10 s).2.2 = false ∧ r = [] ∧ e = false)) ∧ s ≠ [] := by
  have hne : s ≠ [] := fun e2 => by rw [e2] at h; simp [lin] at h
  rw [lin_cut] at h
  by_cases c : (cut1 10 s).2.2 = true
  · rw [if_pos c] at h
    simp only [List.nil_append, Prod.mk.injEq, List.cons.injEq] at h
    exact ⟨h.1.1, .inl ⟨c, Prod.ext h.1.2 h.2⟩, hne⟩
  · rw [if_neg c, if_neg (by simpa using hne)] at h
    simp only [List.nil_append, Prod.mk.injEq, List.cons.injEq] at h
    have := cut1_no 10 s (Bool.eq_false_iff.2 c)
    exact ⟨by rw [this.1]; exact h.1.1, .inr ⟨Bool.eq_false_iff.2 c, h.1.2.symm, h.2.symm⟩, hne⟩
theorem parse_loop (e : Bool) : ∀ (ls : List (List UInt8)) (s : List UInt8) (all : List (List UInt8)) (out : List S33), lin [] s = (ls, e) → s.length ≤ 70000 → all.drop out.length = ls → out.length + ls.length = all.length → all.length ≤ 1000000 → (∀ x, x ∈ out → Wf33 x) →
    ∃ r, Ev (fun k => lot_Parse.l0 k (ba s) out) r ∧ Ev (fun k => spileref22_Parse.l0 k (all.map ba) e out (out.length : Int)) r ∧ runR r (run e ls out) := by
  intro ls
  induction ls with
  | nil =>
    intro s all out h1 h2 h3 h4 h5 h6
    obtain ⟨rfl, rfl⟩ := lin_nil h1
    have hw : ∀ i, 0 ≤ i → i < (out.length : Int) → Wf33 (rd_T33 out i) := fun i g0 g1 => h6 _ (rd33_mem g0 g1)
    obtain ⟨c, c1, c2, c3⟩ := check_iff out (by omega) hw
    refine ⟨fin c out, Ev.step (fun k => lot_Parse.l0.eq_2 ..) (evp (by rw [ba_toList]) (evb c1 ?_)), Ev.step (fun k => spileref22_Parse.l0.eq_2 ..) (evn (by rw [List.length_map]; simp at h4; omega) (evb c2 ?_)), ⟨c, rfl, c3⟩, h6⟩
    · by_cases q : c.2 = 0
      · exact evp q (evr (by unfold fin; rw [if_pos q]))
      · exact evn q (evr (by unfold fin; rw [if_neg q]))
    · by_cases q : c.2 = 0
      · exact evp q (evr (by unfold fin; rw [if_pos q]))
      · exact evn q (evr (by unfold fin; rw [if_neg q]))
  | cons l r ih =>
    intro s all out h1 h2 h3 h4 h5 h6
    obtain ⟨e1, e2, hne⟩ := lin_next h1
    have hc := cut_ev (ba s) (by rw [ba_size]; omega)
    rw [ba_list, e1] at hc
    have hll : l.length ≤ 70000 := by
      rcases e2 with ⟨c, _⟩ | ⟨c, _⟩
      · have := congrArg List.length (cut1_sum 10 s c)
        rw [List.length_append, e1] at this; omega
      · have := (cut1_no 10 s c).1
        rw [← e1, this]; exact h2
    have hread := lot_read_ev l hll
    obtain ⟨rr, q1, q2⟩ := ref_read_ev l hll
    have hlt : out.length < all.length := by simp at h4; omega
    have hat : all[out.length] = l := by
      rw [List.drop_eq_getElem_cons hlt] at h3
      exact (List.cons.inj h3).1
    have hat2 := word_at all out.length hlt
    rw [hat] at hat2
    have lotside : ∀ x, Ev (fun k => if (cut1 10 s).2.2 = true then (if (readR (lineL l)).2.2.2.2 = true then (if out.length < 2932031007402 then (lot_Parse.l0 k (ba (cut1 10 s).2.1) (out ++ [(⟨(readR (lineL l)).1, (⟨(readR (lineL l)).2.1, (readR (lineL l)).2.2.1⟩ : S26), (readR (lineL l)).2.2.2.1⟩ : S33)])) else none) else (some (([] : List S33), (out.length : Int), 3))) else (some (([] : List S33), (out.length : Int), 3))) x → Ev (fun k => lot_Parse.l0 k (ba s) out) x := by
      intro x h
      exact Ev.step (fun k => lot_Parse.l0.eq_2 ..) (evn (by rw [ba_toList]; exact hne) (evb (evc (fun _ => rfl) hc) (evb hread h)))
    have refside : ∀ x, Ev (fun k => if rr.2.2.2.2 = true then (if (out.length : Int) = (wrap64 (((all.map ba).length : Int) - 1)) then (if e = true then (if out.length < 2932031007402 then (spileref22_Parse.l0 k (all.map ba) e (out ++ [(⟨rr.1, (⟨rr.2.1, rr.2.2.1⟩ : S26), rr.2.2.2.1⟩ : S33)]) (wrap64 ((out.length : Int) + 1))) else none) else (some (([] : List S33), (out.length : Int), 3))) else (if out.length < 2932031007402 then (spileref22_Parse.l0 k (all.map ba) e (out ++ [(⟨rr.1, (⟨rr.2.1, rr.2.2.1⟩ : S26), rr.2.2.2.1⟩ : S33)]) (wrap64 ((out.length : Int) + 1))) else none)) else (some (([] : List S33), (out.length : Int), 3))) x → Ev (fun k => spileref22_Parse.l0 k (all.map ba) e out (out.length : Int)) x := by
      intro x h
      refine Ev.step (fun k => spileref22_Parse.l0.eq_2 ..) ?_
      rw [hat2]
      exact evp (by rw [List.length_map]; omega) (evp (by omega) (evb q1 h))
    rw [run_cons]
    cases hx : lineL l with
    | none =>
      rw [hx] at q2 lotside
      refine ⟨([], (out.length : Int), 3), lotside _ ?_, refside _ (evn (by rw [q2]; simp) (Ev.now _)), rfl⟩
      by_cases c : (cut1 10 s).2.2 = true
      · exact evp c (evn (by simp [readR]) (Ev.now _))
      · exact evn c (Ev.now _)
    | some x =>
      rw [hx] at q2 lotside
      simp only [readOK] at q2
      subst q2
      simp only []
      have hw1 : wrap64 (((all.map ba).length : Int) - 1) = (all.length : Int) - 1 := by rw [List.length_map, w64 (by omega) (by omega)]
      have hw2 : wrap64 ((out.length : Int) + 1) = ((out ++ [x]).length : Int) := by rw [w64 (by omega) (by omega), List.length_append]; simp
      rw [hw1, hw2] at refside
      rcases e2 with ⟨c, hrest⟩ | ⟨c, rfl, rfl⟩
      · have hno : ¬ (r = [] ∧ e = false) := fun h => by
          have := (lin_nil (s := (cut1 10 s).2.1) (e := e) (by rw [hrest, h.1])).2
          rw [h.2] at this; cases this
        rw [if_neg hno]
        have hl2 := cut1_len 10 s c
        obtain ⟨y, y1, y2, y3⟩ := ih (cut1 10 s).2.1 all (out ++ [x]) hrest (by omega) (by
          rw [List.length_append, show out.length + [x].length = out.length + 1 from rfl, ← List.drop_drop, h3]; rfl) (by rw [List.length_append]; simp at h4 ⊢; omega) h5 (fun z hz => by
            rcases List.mem_append.1 hz with hz | hz
            · exact h6 z hz
            · simp at hz; rw [hz]; exact lineL_good hll hx)
        refine ⟨y, lotside _ (evp c (evp rfl (evp (by omega) y1))), refside _ (evp rfl ?_), y3⟩
        by_cases c3 : (out.length : Int) = (all.length : Int) - 1
        · have hre : r = [] := by
            simp at h4
            exact List.eq_nil_of_length_eq_zero (by omega)
          have hee : e = true := by
            cases e with
            | true => rfl
            | false => exact absurd ⟨hre, rfl⟩ hno
          exact evp c3 (evp hee (evp (by omega) y2))
        · exact evn c3 (evp (by omega) y2)
      · rw [if_pos ⟨rfl, rfl⟩]
        exact ⟨([], (out.length : Int), 3), lotside _ (evn (by rw [c]; simp) (Ev.now _)), refside _ (evp rfl (evp (by simp at h4; omega) (evn (by simp) (Ev.now _)))), rfl⟩
theorem parse_both (s : ByteArray) (hs : s.size ≤ 65536) : ∃ r, Ev (fun k => lot_Parse.f k s) r ∧ Ev (fun k => spileref22_Parse.f k s) r ∧ runR r (run (lin [] s.data.toList).2 (lin [] s.data.toList).1 []) := by
  have hl := lines_ev s (by omega)
  have hn : ∀ t : List UInt8, ∀ p, (lin p t).1.length ≤ t.length + 1 := by
    intro t
    induction t with
    | nil => intro p; unfold lin; split <;> simp
    | cons b r ih =>
      intro p
      rw [lin_cons]
      by_cases c : b = 10
      · rw [if_pos c]; have := ih []; simp; omega
      · rw [if_neg c]; have := ih (p ++ [b]); simp; omega
  have hlen := hn s.data.toList []
  rw [size_data] at hlen
  obtain ⟨r, r1, r2, r3⟩ := parse_loop (lin [] s.data.toList).2 (lin [] s.data.toList).1 s.data.toList (lin [] s.data.toList).1 [] rfl (by rw [size_data]; omega) rfl (by simp) (by omega) (by simp)
  rw [ba_data] at r1
  exact ⟨r, evn (by omega) r1, evn (by omega) (evb hl r2), r3⟩
end Go.Proofs.YtgjoenoknknoiaaDoor.PL
namespace Go.Proofs.YtgjoenoknknoiaaDoor.PL
open Go Go.RowKit Go.Proofs.YtgjoenoknknoiaaDoorW.PrintWords Go.Proofs.YtgjoenoknknoiaaDoorW.PrintLast Go.Proofs.YtgjoenoknknoiaaDoorW.PrintMore Go.Proofs.YtgjoenoknknoiaaDoor.Pr Go.Proofs.YtgjoenoknknoiaaDoor.Opn Go.Proofs.YtgjoenoknknoiaaDoor.TX Go.Proofs.YtgjoenoknknoiaaDoor.X
def Ok35 (s : S35) : Prop := 1 ≤ s.f0 ∧ s.f0 ≤ 1073741824 ∧ 1 ≤ s.f1 ∧ s.f1 ≤ 10737418240000
theorem shares_sem (l : List S35) (hl : (l.length : Int) ≤ 9223372036854775807) : ∀ i, 0 ≤ i → i ≤ (l.length : Int) →
    ∃ e, Ev (fun k => spileref22_Shares.l0 k l i) e ∧ (e = 0 → ∀ j, i ≤ j → j < (l.length : Int) → Ok35 (rd_T35 l j)) := by
  refine count_up 0 (l.length : Int) _ ?_ ?_
  · exact ⟨0, Ev.step (fun k => spileref22_Shares.l0.eq_2 ..) (evn (by omega) (Ev.now _)), fun _ j h0 h1 => by omega⟩
  · intro i h0 h1 ih
    obtain ⟨e, q1, q2⟩ := ih
    rw [← w64_succ h0 h1 hl] at q1
    by_cases c1 : (rd_T35 l i).f0 < 1
    · exact ⟨10, Ev.step (fun k => spileref22_Shares.l0.eq_2 ..) (evp h1 (evp h0 (evp c1 (Ev.now _)))), fun h => absurd h (by decide)⟩
    by_cases c2 : (rd_T35 l i).f0 > 1073741824
    · exact ⟨10, Ev.step (fun k => spileref22_Shares.l0.eq_2 ..) (evp h1 (evp h0 (evn c1 (evp c2 (Ev.now _))))), fun h => absurd h (by decide)⟩
    by_cases c3 : (rd_T35 l i).f1 < 1
    · exact ⟨10, Ev.step (fun k => spileref22_Shares.l0.eq_2 ..) (evp h1 (evp h0 (evn c1 (evn c2 (evp c3 (Ev.now _)))))), fun h => absurd h (by decide)⟩
    by_cases c4 : (rd_T35 l i).f1 > 10737418240000
    · exact ⟨10, Ev.step (fun k => spileref22_Shares.l0.eq_2 ..) (evp h1 (evp h0 (evn c1 (evn c2 (evn c3 (evp c4 (Ev.now _))))))), fun h => absurd h (by decide)⟩
    have all : e = 0 → ∀ j, i ≤ j → j < (l.length : Int) → Ok35 (rd_T35 l j) := fun h j g0 g1 => by
      by_cases ej : j = i
      · rw [ej]; exact ⟨by omega, by omega, by omega, by omega⟩
      · exact q2 h j (by omega) g1
    by_cases c5 : i > 0
    · have hp := w64_pred h0 (Int.le_of_lt h1) hl
      have p0 : 0 ≤ wrap64 (i - 1) := by rw [hp]; omega
      have p1 : wrap64 (i - 1) < (l.length : Int) := by rw [hp]; omega
      by_cases c6 : (rd_T35 l i).f0 ≤ (rd_T35 l (wrap64 (i - 1))).f0
      · exact ⟨10, Ev.step (fun k => spileref22_Shares.l0.eq_2 ..) (evp h1 (evp h0 (evn c1 (evn c2 (evn c3 (evn c4 (evp c5 (evp p0 (evp p1 (evp c6 (Ev.now _)))))))))) ), fun h => absurd h (by decide)⟩
      · exact ⟨e, Ev.step (fun k => spileref22_Shares.l0.eq_2 ..) (evp h1 (evp h0 (evn c1 (evn c2 (evn c3 (evn c4 (evp c5 (evp p0 (evp p1 (evn c6 q1)))))))))), all⟩
    · exact ⟨e, Ev.step (fun k => spileref22_Shares.l0.eq_2 ..) (evp h1 (evp h0 (evn c1 (evn c2 (evn c3 (evn c4 (evn c5 q1))))))), all⟩
def FineP (x : S33) : Prop := PlainP x.f1.f0 x.f1.f1 ∧ (x.f2.length : Int) ≤ 32 ∧ (∀ s, s ∈ x.f2 → Ok35 s) ∧ sumW 0 x.f2 = x.f1.f0
theorem fine_sem (x : S33) (h : Wf33 x) (hf : Fine x) : FineP x := by
  unfold Fine at hf
  by_cases c : PlainP x.f1.f0 x.f1.f1
  · have hr : Ev (fun _ : Nat => spileref21_Plain.f x.f1.f0 x.f1.f1) true := evc (fun _ => rfl) (by rw [ref_plain_eq, decide_eq_true c])
    by_cases c2 : x.f1.f1 = 0
    · have : Ev (fun k => spileref22_One.f k x.f0 x.f1.f0 x.f1.f1 x.f2) 1 := evb hr (evp rfl (Ev.step (fun k => spileref22_One.j0.eq_2 ..) (evp (by simpa using c2) (Ev.now _))))
      have := ev_unique hf this
      omega
    · have c3 : ¬ (x.f1.f1 == 0) = true := by simpa using c2
      obtain ⟨e, q1, q2, q3⟩ := shares_f_both x h
      by_cases he : e = 0
      · obtain ⟨t, q4, _⟩ := q3 he
        have ht : t = sumW 0 x.f2 := ev_unique q4 (alcohol_ev x.f2 h.2.2)
        have hlen : ¬ (x.f2.length : Int) > 32 := fun c4 => by
          have : Ev (fun k => spileref22_Shares.f k x.f2) 12 := evp c4 (Ev.now _)
          have := ev_unique q1 this
          omega
        obtain ⟨e2, s1, s2⟩ := shares_sem x.f2 h.2.2 0 (by omega) (by omega)
        have he2 : e2 = e := ev_unique (show Ev (fun k => spileref22_Shares.f k x.f2) e2 from evn hlen s1) q1
        have hsum : t = x.f1.f0 := by
          by_cases c5 : t = x.f1.f0
          · exact c5
          · have : Ev (fun k => spileref22_One.f k x.f0 x.f1.f0 x.f1.f1 x.f2) 14 := evb hr (evp rfl (Ev.step (fun k => spileref22_One.j0.eq_2 ..) (evn c3 (evb q1 (evp he (evb q4 (evn c5 (Ev.now _))))))))
            have := ev_unique hf this
            omega
        refine ⟨c, by omega, fun s hs => ?_, by rw [← ht]; exact hsum⟩
        obtain ⟨i, hi, es⟩ := List.mem_iff_getElem.1 hs
        have := s2 (by omega) (i : Int) (by omega) (by omega)
        have er : rd_T35 x.f2 (i : Int) = s := by
          unfold rd_T35
          simp [List.getD_eq_getElem?_getD, List.getElem?_eq_getElem hi, es]
        rw [er] at this
        exact this
      · have : Ev (fun k => spileref22_One.f k x.f0 x.f1.f0 x.f1.f1 x.f2) e := evb hr (evp rfl (Ev.step (fun k => spileref22_One.j0.eq_2 ..) (evn c3 (evb q1 (evn he (Ev.now _))))))
        exact absurd (ev_unique this hf) he
  · have hr : Ev (fun _ : Nat => spileref21_Plain.f x.f1.f0 x.f1.f1) false := evc (fun _ => rfl) (by rw [ref_plain_eq, decide_eq_false c])
    have : Ev (fun k => spileref22_One.f k x.f0 x.f1.f0 x.f1.f1 x.f2) 1 := evb hr (evn (by simp) (Ev.step (fun k => spileref22_One.j0.eq_2 ..) (evp rfl (Ev.now _))))
    have := ev_unique hf this
    omega
def partT (s : S35) : List UInt8 := (([32, 102, 105, 108, 108, 32] ++ Lib.itoa s.f0) ++ [32, 97, 108, 99, 111, 104, 111, 108, 32]) ++ Lib.itoa s.f1
def partsT : List S35 → List UInt8
  | [] => []
  | s :: r => partT s ++ partsT r
def headT (x : S33) : List UInt8 := (([108, 111, 116, 32] ++ Lib.itoa x.f0) ++ [32, 109, 97, 115, 115, 32]) ++ Lib.itoa x.f1.f1
def lineT (x : S33) : List UInt8 := headT x ++ partsT x.f2
def printL : List S33 → List UInt8
  | [] => []
  | x :: r => lineT x ++ (10 :: printL r)
theorem itoa_dig {n : Int} (h0 : 0 ≤ n) : Lib.itoa n = Lib.decDigits n.toNat := by unfold Lib.itoa; rw [if_neg (by omega)]
theorem itoa_len {n : Int} (h0 : 0 ≤ n) (h1 : n < 1000000000000000) : (Lib.itoa n).length ≤ 15 := by
  rw [itoa_dig h0]
  exact digits_length_le (by omega) (by decide)
theorem itoa_num {n : Int} (h0 : 0 ≤ n) (h1 : n < 1000000000000000) : numP 15 (Lib.itoa n) = some n.toNat := by
  rw [itoa_dig h0]
  exact numP_digits (digits_length_le (by omega) (by decide))
theorem partT_len {s : S35} (h : Ok35 s) : (partT s).length ≤ 45 := by
  have a := itoa_len (n := s.f0) (by unfold Ok35 at h; omega) (by unfold Ok35 at h; omega)
  have b := itoa_len (n := s.f1) (by unfold Ok35 at h; omega) (by unfold Ok35 at h; omega)
  unfold partT
  simp; omega
theorem headT_len {x : S33} (h : IdP x) (hf : FineP x) : (headT x).length ≤ 40 := by
  have hp := hf.1
  unfold IdP at h
  unfold PlainP at hp
  have a := itoa_len (n := x.f0) (by omega) (by omega)
  have b := itoa_len (n := x.f1.f1) (by omega) (by omega)
  unfold headT
  simp; omega
theorem partsT_len : ∀ l : List S35, (∀ s, s ∈ l → Ok35 s) → (partsT l).length ≤ 45 * l.length
  | [], _ => by simp [partsT]
  | s :: r, h => by
    have a := partT_len (h s (by simp))
    have b := partsT_len r (fun z hz => h z (by simp [hz]))
    simp only [partsT, List.length_append, List.length_cons]; omega
theorem lineT_len {x : S33} (h : IdP x) (hf : FineP x) : (lineT x).length ≤ 1500 := by
  have a := headT_len h hf
  have b := partsT_len x.f2 hf.2.2.1
  have c := hf.2.1
  unfold lineT
  rw [List.length_append]; omega
theorem printL_len : ∀ l : List S33, (∀ x, x ∈ l → IdP x ∧ FineP x) → (printL l).length ≤ 1501 * l.length
  | [], _ => by simp [printL]
  | x :: r, h => by
    have a := lineT_len (h x (by simp)).1 (h x (by simp)).2
    have b := printL_len r (fun z hz => h z (by simp [hz]))
    simp only [printL, List.length_append, List.length_cons]; omega
theorem head_eq {x : S33} (h : IdP x) (hf : FineP x) : lot_Print.head x = some (ba (headT x)) := by
  have hp := hf.1
  unfold IdP at h
  unfold PlainP at hp
  have a := itoa_len (n := x.f0) (by omega) (by omega)
  have b := itoa_len (n := x.f1.f1) (by omega) (by omega)
  unfold lot_Print.head
  rw [itoa_f (by omega) (by omega), itoa_f (by omega) (by omega)]
  show (if (ba (Lib.itoa x.f0)).size ≤ 100 ∧ (ba (Lib.itoa x.f1.f1)).size ≤ 100 then some (((ba [108, 111, 116, 32] ++ ba (Lib.itoa x.f0)) ++ ba [32, 109, 97, 115, 115, 32]) ++ ba (Lib.itoa x.f1.f1)) else none) = _
  rw [if_pos (by rw [ba_size, ba_size]; omega), ba_app, ba_app, ba_app]
  rfl
theorem part_eq {s : S35} (h : Ok35 s) : lot_Print.part s = some (ba (partT s)) := by
  have h2 := h
  unfold Ok35 at h2
  have a := itoa_len (n := s.f0) (by omega) (by omega)
  have b := itoa_len (n := s.f1) (by omega) (by omega)
  unfold lot_Print.part
  rw [itoa_f (by omega) (by omega), itoa_f (by omega) (by omega)]
  show (if (ba (Lib.itoa s.f0)).size ≤ 100 ∧ (ba (Lib.itoa s.f1)).size ≤ 100 then some (((ba [32, 102, 105, 108, 108, 32] ++ ba (Lib.itoa s.f0)) ++ ba [32, 97, 108, 99, 111, 104, 111, 108, 32]) ++ ba (Lib.itoa s.f1)) else none) = _
  rw [if_pos (by rw [ba_size, ba_size]; omega), ba_app, ba_app, ba_app]
  rfl
theorem app_eq (acc s : List UInt8) (h : acc.length + s.length ≤ 140737488355328) : lot_Print.app acc (ba s) = some (acc ++ s) := by
  unfold lot_Print.app
  rw [ba_size, if_pos h]
  rfl
theorem rd35_mem {l : List S35} {i : Int} (h0 : 0 ≤ i) (h1 : i < (l.length : Int)) : rd_T35 l i ∈ l := by
  have hl : i.toNat < l.length := by omega
  unfold rd_T35
  simp [List.getD_eq_getElem?_getD, List.getElem?_eq_getElem hl]
theorem lot_print_loop (l : List S33) (hn : (l.length : Int) ≤ 32) (h : ∀ x, x ∈ l → IdP x ∧ FineP x) : ∀ i, 0 ≤ i → i ≤ (l.length : Int) → ∀ acc : List UInt8, (acc.length : Int) ≤ 1600 * i →
    Ev (fun k => lot_Print.l0 k l acc i) (ba (acc ++ printL (l.drop i.toNat)), 0) := by
  refine count_up 0 (l.length : Int) _ ?_ ?_
  · intro acc ha
    rw [List.drop_eq_nil_of_le (by omega)]
    exact Ev.step (fun k => lot_Print.l0.eq_2 ..) (evn (by omega) (evr (by simp [printL]; rfl)))
  · intro i h0 h1 ih acc ha
    have hx := h _ (rd33_mem h0 h1)
    have hl2 := hx.2.2.1
    have hh := headT_len hx.1 hx.2
    rw [drop_next h0 h1]
    have inner : ∀ j, 0 ≤ j → j ≤ ((rd_T33 l i).f2.length : Int) → ∀ acc2 : List UInt8, (acc2.length : Int) ≤ 1600 * i + 50 + 45 * j →
        Ev (fun k => lot_Print.l1 k l acc2 i j) (ba (acc2 ++ (partsT ((rd_T33 l i).f2.drop j.toNat) ++ (10 :: printL (l.drop (i + 1).toNat)))), 0) := by
      refine count_up 0 ((rd_T33 l i).f2.length : Int) _ ?_ ?_
      · intro acc2 ha2
        rw [List.drop_eq_nil_of_le (by omega)]
        have q := ih (acc2 ++ [10]) (by rw [List.length_append]; simp; omega)
        rw [List.append_assoc] at q
        refine Ev.step (fun k => lot_Print.l1.eq_2 ..) (evn (by omega) (evb (evc (fun _ => rfl) (app_eq acc2 [10] (by simp; omega))) ?_))
        rw [w64_succ h0 h1 (by omega)]
        exact q
      · intro j g0 g1 ih2 acc2 ha2
        have hs := hx.2.2.2.1 _ (rd35_mem g0 g1)
        have hp := partT_len hs
        have q := ih2 (acc2 ++ partT (rd_T35 (rd_T33 l i).f2 j)) (by rw [List.length_append]; omega)
        rw [drop35 g0 g1]
        rw [List.append_assoc] at q
        refine Ev.step (fun k => lot_Print.l1.eq_2 ..) (evp g1 (evp g0 (evb (evc (fun _ => rfl) (part_eq hs)) (evb (evc (fun _ => rfl) (app_eq acc2 _ (by omega))) ?_))))
        rw [w64_succ g0 g1 (by omega)]
        simp only [partsT, List.append_assoc] at q ⊢
        exact q
    have q := inner 0 (by omega) (by omega) (acc ++ headT (rd_T33 l i)) (by rw [List.length_append]; omega)
    rw [show (0 : Int).toNat = 0 from rfl, List.drop_zero] at q
    refine Ev.step (fun k => lot_Print.l0.eq_2 ..) (evp h1 (evp h0 (evb (evc (fun _ => rfl) (head_eq hx.1 hx.2)) (evb (evc (fun _ => rfl) (app_eq acc _ (by omega))) ?_))))
    simp only [printL, lineT, List.append_assoc] at q ⊢
    exact q
theorem dec_ev {n : Int} (h0 : 0 ≤ n) (h1 : n < 1000000000000000) : Ev (fun k => spileref16_Decimal.f k n) (ba (Lib.itoa n)) := decimal_ev n.toNat n h0 (by omega) (by omega)
theorem ref_print_loop (l : List S33) (hn : (l.length : Int) ≤ 32) (h : ∀ x, x ∈ l → IdP x ∧ FineP x) : ∀ i, 0 ≤ i → i ≤ (l.length : Int) → ∀ acc : List UInt8, (acc.length : Int) ≤ 1600 * i →
    Ev (fun k => spileref22_Print.l0 k l (ba acc) i) (ba (acc ++ printL (l.drop i.toNat)), 0) := by
  refine count_up 0 (l.length : Int) _ ?_ ?_
  · intro acc ha
    rw [List.drop_eq_nil_of_le (by omega)]
    exact Ev.step (fun k => spileref22_Print.l0.eq_2 ..) (evn (by omega) (evr (by simp [printL])))
  · intro i h0 h1 ih acc ha
    have hx := h _ (rd33_mem h0 h1)
    have hl2 := hx.2.2.1
    have hp0 := hx.2.1
    have hid := hx.1
    unfold IdP at hid
    unfold PlainP at hp0
    have z0 := itoa_len (n := (rd_T33 l i).f0) (by omega) (by omega)
    have z1 := itoa_len (n := (rd_T33 l i).f1.f1) (by omega) (by omega)
    rw [drop_next h0 h1]
    have inner : ∀ j, 0 ≤ j → j ≤ ((rd_T33 l i).f2.length : Int) → ∀ acc2 : List UInt8, (acc2.length : Int) ≤ 1600 * i + 50 + 45 * j →
        Ev (fun k => spileref22_Print.l1 k l (ba acc2) i j) (ba (acc2 ++ (partsT ((rd_T33 l i).f2.drop j.toNat) ++ (10 :: printL (l.drop (i + 1).toNat)))), 0) := by
      refine count_up 0 ((rd_T33 l i).f2.length : Int) _ ?_ ?_
      · intro acc2 ha2
        rw [List.drop_eq_nil_of_le (by omega)]
        have q := ih (acc2 ++ [10]) (by rw [List.length_append]; simp; omega)
        rw [List.append_assoc, ← ba_app] at q
        refine Ev.step (fun k => spileref22_Print.l1.eq_2 ..) (evp h0 (evp h1 (evn (by omega) (evp (by rw [ba_size]; omega) ?_))))
        rw [w64_succ h0 h1 (by omega)]
        exact q
      · intro j g0 g1 ih2 acc2 ha2
        have hs := hx.2.2.2.1 _ (rd35_mem g0 g1)
        have hs2 := hs
        unfold Ok35 at hs2
        have y0 := itoa_len (n := (rd_T35 (rd_T33 l i).f2 j).f0) (by omega) (by omega)
        have y1 := itoa_len (n := (rd_T35 (rd_T33 l i).f2 j).f1) (by omega) (by omega)
        have hp := partT_len hs
        have q := ih2 (acc2 ++ partT (rd_T35 (rd_T33 l i).f2 j)) (by rw [List.length_append]; omega)
        rw [drop35 g0 g1]
        rw [List.append_assoc] at q
        refine Ev.step (fun k => spileref22_Print.l1.eq_2 ..) (evp h0 (evp h1 (evp g1 (evp (by rw [ba_size]; omega) (evp g0 (evb (dec_ev (by omega) (by omega)) ?_))))))
        have e1 : ba acc2 ++ (⟨#[32, 102, 105, 108, 108, 32]⟩ : ByteArray) = ba (acc2 ++ [32, 102, 105, 108, 108, 32]) := ba_app _ _
        rw [e1, ba_app]
        have e2 : ba (acc2 ++ [32, 102, 105, 108, 108, 32] ++ Lib.itoa (rd_T35 (rd_T33 l i).f2 j).f0) ++ (⟨#[32, 97, 108, 99, 111, 104, 111, 108, 32]⟩ : ByteArray) = ba (acc2 ++ [32, 102, 105, 108, 108, 32] ++ Lib.itoa (rd_T35 (rd_T33 l i).f2 j).f0 ++ [32, 97, 108, 99, 111, 104, 111, 108, 32]) := ba_app _ _
        rw [e2]
        refine evp (by rw [ba_size, ba_size, List.length_append]; simp; omega) (evp (by rw [ba_size, List.length_append, List.length_append]; simp; omega) (evb (dec_ev (by omega) (by omega)) (evp (by rw [ba_size, ba_size]; simp only [List.length_append, List.length_cons, List.length_nil]; omega) ?_)))
        rw [ba_app, w64_succ g0 g1 (by omega)]
        simp only [partsT, partT, List.append_assoc] at q ⊢
        exact q
    have q := inner 0 (by omega) (by omega) (acc ++ headT (rd_T33 l i)) (by have := headT_len hx.1 hx.2; rw [List.length_append]; omega)
    rw [show (0 : Int).toNat = 0 from rfl, List.drop_zero] at q
    refine Ev.step (fun k => spileref22_Print.l0.eq_2 ..) (evp h1 (evp (by rw [ba_size]; omega) (evp h0 (evb (dec_ev (by omega) (by omega)) ?_))))
    have e1 : ba acc ++ (⟨#[108, 111, 116, 32]⟩ : ByteArray) = ba (acc ++ [108, 111, 116, 32]) := ba_app _ _
    rw [e1, ba_app]
    have e2 : ba (acc ++ [108, 111, 116, 32] ++ Lib.itoa (rd_T33 l i).f0) ++ (⟨#[32, 109, 97, 115, 115, 32]⟩ : ByteArray) = ba (acc ++ [108, 111, 116, 32] ++ Lib.itoa (rd_T33 l i).f0 ++ [32, 109, 97, 115, 115, 32]) := ba_app _ _
    rw [e2]
    refine evp (by rw [ba_size, ba_size]; simp only [List.length_append, List.length_cons, List.length_nil]; omega) (evp (by rw [ba_size]; simp only [List.length_append, List.length_cons, List.length_nil]; omega) (evb (dec_ev (by omega) (by omega)) (evp (by rw [ba_size, ba_size]; simp only [List.length_append, List.length_cons, List.length_nil]; omega) ?_)))
    rw [ba_app]
    simp only [printL, lineT, headT, List.append_assoc] at q ⊢
    exact q
theorem right_fine {l : List S33} (hw : ∀ x, x ∈ l → Wf33 x) (h : RightL l) : ∀ x, x ∈ l → IdP x ∧ FineP x := fun x hx => ⟨(h.2.2 x hx).1, fine_sem x (hw x hx) (h.2.2 x hx).2⟩
theorem print_both (l : List S33) (hl : (l.length : Int) ≤ 9223372036854775807) (hw : ∀ x, x ∈ l → Wf33 x) : ∃ r, Ev (fun k => lot_Print.f k l) r ∧ Ev (fun k => spileref22_Print.f k l) r ∧ (RightL l → r = (ba (printL l), 0)) ∧ (¬ RightL l → r = (ba [], 1)) := by
  obtain ⟨b, b1, b2, b3⟩ := right_iff l hl (fun i h0 h1 => hw _ (rd33_mem h0 h1))
  cases b with
  | false =>
    have hn : ¬ RightL l := fun h => by have := b3.2 h; cases this
    exact ⟨(ba [], 1), evb b1 (evn (by simp) (Ev.now _)), evb b2 (evn (by simp) (Ev.now _)), fun h => absurd h hn, fun _ => rfl⟩
  | true =>
    have hr := b3.1 rfl
    have hf := right_fine hw hr
    have p1 := lot_print_loop l hr.1 hf 0 (by omega) (by omega) [] (by simp)
    have p2 := ref_print_loop l hr.1 hf 0 (by omega) (by omega) [] (by simp)
    rw [show (0 : Int).toNat = 0 from rfl, List.drop_zero, List.nil_append] at p1 p2
    exact ⟨_, evb b1 (evp rfl p1), evb b2 (evp rfl p2), fun _ => rfl, fun h => absurd hr h⟩
end Go.Proofs.YtgjoenoknknoiaaDoor.PL
