/-
A part of what these laws rest on: contracts of the functions that they reach, and plain lemmas.
-/
import Derived.Test.YtnhmlneebnkjcaaDoorCaskAgainC
set_option linter.unusedVariables false
set_option linter.unusedSimpArgs false
namespace Go.Proofs.YtnhmlneebnkjcaaDoor.Pr
open Go.RowKit Go.Proofs.YtnhmlneebnkjcaaDoorW.PrintWords Go.Proofs.YtnhmlneebnkjcaaDoorW.PrintLast Go.Proofs.YtnhmlneebnkjcaaDoorW.PrintMore Go.Proofs.YtnhmlneebnkjcaaDoor.X
attribute [local go_sem] max2_int min2_int max_two min_two max_three min_three max_four min_four   -- for this text's walks alone
set_option linter.unusedVariables false
set_option linter.unusedSimpArgs false
def spileref09_Same.l0 : Nat → List (S27) → List (S27) → Int → Option (Bool)
 | 0, _, _, _ => none
 | k + 1, x0, x1, x5 => if x5 < (x0.length : Int) then (if 0 ≤ x5 then (if x5 < (x1.length : Int) then ((spileref09_SameCask.f k ((rd_T27 x0 x5).f0) ((rd_T27 x0 x5).f1) ((rd_T27 x0 x5).f2) ((rd_T27 x0 x5).f3) ((rd_T27 x1 x5).f0) ((rd_T27 x1 x5).f1) ((rd_T27 x1 x5).f2) ((rd_T27 x1 x5).f3)).bind fun t146 => (if t146 = true then (spileref09_Same.l0 k x0 x1 (wrap64 (x5 + 1))) else (some false))) else (none)) else (none)) else (some true)
def spileref09_Same.f (k : Nat) (l0 : List (S27)) (l1 : List (S27)) : Option (Bool) := if (l0.length : Int) = (l1.length : Int) then (spileref09_Same.l0 k l0 l1 0) else (some false)
def spileref09_Same.T6 : Bool × List (List Nat × List Nat) := (true, [([], []), ([], []), ([0, 1], [0, 1]), ([2], [2]), ([], []), ([], []), ([4, 5], [4, 5]), ([6], [6]), ([3, 7], [3, 7]), ([8], [8])])
def spileref09_Same.B6 : List Nat := [0, 0, 3, 7, 0, 0, 48, 112, 255, 511]
theorem spileref09_Same.tab6 : rtab .any (opsOf Tryd.f26 6) = spileref09_Same.T6 := by kernel_rfl
theorem spileref09_Same.bits6 : waitsOk spileref09_Same.T6.2 spileref09_Same.B6 = true := by kernel_rfl
set_option maxHeartbeats 8000000 in
set_option maxRecDepth 100000 in
theorem spileref09_Same.calls (k : Nat) (A0 : Option Addr) (c0 : Nat) (l0 : List (S27)) (A1 : Option Addr) (c1 : Nat) (l1 : List (S27)) (r : Bool) (w : World) (hr0 : Kd.C k27 w A0 l0.length l0) (hc0 : l0.length ≤ c0) (hr1 : Kd.C k27 w A1 l1.length l1) (hc1 : l1.length ≤ c1) (h : spileref09_Same.f k l0 l1 = some r) :
  Calls Tryd.prog 26 #[.slice A0 l0.length c0, .slice A1 l1.length c1] w fun e w' => e = .returned (.bool r) ∧ Below w.heap.size w w' := by
 have hu27 := Tryd.underlying27; have HR0 := Aside0.mk hr0; have HC0 := Aside0.mk hc0; clear hr0 hc0; have HR1 := Aside0.mk hr1; have HC1 := Aside0.mk hc1; clear hr1 hc1; have HB := Aside0.mk (Below.refl w.heap.size w); have H : (if (l0.length : Int) = (l1.length : Int) then (spileref09_Same.l0 k l0 l1 0) else (some false)) = some r := h; clear h; by_cases c3 : (l0.length : Int) = (l1.length : Int)
 ·
  rw [if_pos c3] at H; have c3b0 : ((l0.length : Int) == (l1.length : Int)) = true := beq_iff_eq.mpr c3; have c3b1 : ((l0.length : Int) != (l1.length : Int)) = false := bne_eq_false_iff_eq.mpr c3; have c3b2 : (l0.length == l1.length) = true := by first | simpa using c3 | (simp at c3 ⊢; omega)
  clear c3; have H' := Aside0.mk H; clear H; go_enter Tryd.func26, Tryd.ntmps26
  go_wp2; go_loopg [5] k (fun kq v5 w' => ∃ (x5_1 : Int), v5 = .int .i64 x5_1 ∧ Aside0 (spileref09_Same.l0 kq l0 l1 x5_1 = some r) ∧ Aside0 (kq ≤ k) ∧ Aside0 (Below w.heap.size w w'))
  case atStart => exact ⟨(0), (by first | rfl | (simp; done) | (simp [*]; done)), H', ⟨Nat.le_refl _⟩, ⟨by repeat (first | (with_reducible first | exact HB.out | apply below_alloc | apply pw_below_drewN | apply below_drew1) | exact HB.out)⟩⟩
  case round =>
   clear H'; try clear c1
   try clear c2
   try clear p2
   try clear c3
   try clear c3b0
   try clear c3b1
   try clear c3b2
   obtain ⟨x5_1, rfl, HA, HK1, HB⟩ := hrel
   cases gk with
   | zero => exact absurd HA.out (by simp [spileref09_Same.l0])
   | succ k1 =>
    have H := HA.out; clear HA; simp only [spileref09_Same.l0] at H; by_cases c4 : x5_1 < (l0.length : Int)
    ·
     rw [if_pos c4] at H; have c4b0 : decide (x5_1 < (l0.length : Int)) = true := decide_eq_true c4; clear c4; by_cases c5 : 0 ≤ x5_1
     ·
      rw [if_pos c5] at H; have c5b0 : decide (0 ≤ x5_1) = true := decide_eq_true c5; clear c5; by_cases c6 : x5_1 < (l1.length : Int)
      ·
       rw [if_pos c6] at H; have c6b0 : decide (x5_1 < (l1.length : Int)) = true := decide_eq_true c6; clear c6; replace H := Option.bind_eq_some_iff.mp H; obtain ⟨t146, A70, H⟩ := H; replace H : (if t146 = true then (spileref09_Same.l0 k1 l0 l1 (wrap64 (x5_1 + 1))) else (some false)) = some r := H; have A7 := Aside0.mk A70; clear A70; by_cases c8 : t146 = true
       ·
        subst c8; have H1 : (spileref09_Same.l0 k1 l0 l1 (wrap64 (x5_1 + 1))) = some r := by rw [if_pos rfl] at H; exact H
        clear H; have H := H1; clear H1; have H' := Aside0.mk H; clear H; try go_wp2
        have n0_ := Aside0.mk (below_drew1 HB.out); clear HB; have HB := n0_; clear n0_; have p144 : 0 ≤ (x5_1 : Int) := of_decide_eq_true (by first | (with_reducible assumption) | assumption); have q144 : x5_1 < (l0.length : Int) := of_decide_eq_true (by first | (with_reducible assumption) | assumption); obtain ⟨ad144, A144_2, c144_2, e144, hx144_0, hx144_1, hx144_2, hx144_3, hl144_2, hi144_2⟩ := at_T27 HR0.out x5_1 p144 q144; have hw144_3 := hx144_3; have hw144_2 := hx144_2; have hw144_1 := hx144_1; have hw144_0 := hx144_0; cases e144; replace hx144_0 := (HB.out.cell (World.block_lt_of_cell? w _ hx144_0)).trans hx144_0; replace hx144_1 := (HB.out.cell (World.block_lt_of_cell? w _ hx144_1)).trans hx144_1; replace hx144_2 := (HB.out.cell (World.block_lt_of_cell? w _ hx144_2)).trans hx144_2; replace hx144_3 := (HB.out.cell (World.block_lt_of_cell? w _ hx144_3)).trans hx144_3; have HR144_2 := Aside0.mk hi144_2; have HC144_2 := Aside0.mk hl144_2; clear hi144_2 hl144_2; replace p144 := eq_true p144; replace q144 := eq_true q144; have p145 : 0 ≤ (x5_1 : Int) := of_decide_eq_true (by first | (with_reducible assumption) | assumption); have q145 : x5_1 < (l1.length : Int) := of_decide_eq_true (by first | (with_reducible assumption) | assumption); obtain ⟨ad145, A145_2, c145_2, e145, hx145_0, hx145_1, hx145_2, hx145_3, hl145_2, hi145_2⟩ := at_T27 HR1.out x5_1 p145 q145; have hw145_3 := hx145_3; have hw145_2 := hx145_2; have hw145_1 := hx145_1; have hw145_0 := hx145_0; cases e145; replace hx145_0 := (HB.out.cell (World.block_lt_of_cell? w _ hx145_0)).trans hx145_0; replace hx145_1 := (HB.out.cell (World.block_lt_of_cell? w _ hx145_1)).trans hx145_1; replace hx145_2 := (HB.out.cell (World.block_lt_of_cell? w _ hx145_2)).trans hx145_2; replace hx145_3 := (HB.out.cell (World.block_lt_of_cell? w _ hx145_3)).trans hx145_3; have HR145_2 := Aside0.mk hi145_2; have HC145_2 := Aside0.mk hl145_2; clear hi145_2 hl145_2; replace p145 := eq_true p145; replace q145 := eq_true q145; refine start_ (n := 10) (S := fun w' => w'.cell? (ad144.add ((x5_1).toNat * 4)) = some (.string ((rd_T27 l0 x5_1).f0)) ∧ w'.cell? ⟨(ad144.add ((x5_1).toNat * 4)).block, (ad144.add ((x5_1).toNat * 4)).off + 1, none⟩ = some (.int .i64 ((rd_T27 l0 x5_1).f1)) ∧ w'.cell? ⟨(ad144.add ((x5_1).toNat * 4)).block, (ad144.add ((x5_1).toNat * 4)).off + 2, none⟩ = some (.slice A144_2 ((rd_T27 l0 x5_1).f2).length c144_2) ∧ w'.cell? ⟨(ad144.add ((x5_1).toNat * 4)).block, (ad144.add ((x5_1).toNat * 4)).off + 3, none⟩ = some (.int .i64 ((rd_T27 l0 x5_1).f3)) ∧ w'.cell? (ad145.add ((x5_1).toNat * 4)) = some (.string ((rd_T27 l1 x5_1).f0)) ∧ w'.cell? ⟨(ad145.add ((x5_1).toNat * 4)).block, (ad145.add ((x5_1).toNat * 4)).off + 1, none⟩ = some (.int .i64 ((rd_T27 l1 x5_1).f1)) ∧ w'.cell? ⟨(ad145.add ((x5_1).toNat * 4)).block, (ad145.add ((x5_1).toNat * 4)).off + 2, none⟩ = some (.slice A145_2 ((rd_T27 l1 x5_1).f2).length c145_2) ∧ w'.cell? ⟨(ad145.add ((x5_1).toNat * 4)).block, (ad145.add ((x5_1).toNat * 4)).off + 3, none⟩ = some (.int .i64 ((rd_T27 l1 x5_1).f3))) (ds := []) #[false, false, false, false, false, false, false, false, false, false] (by kernel_rfl) rfl rfl ⟨((HB.out.cell (World.block_lt_of_cell? w _ hw144_0)).trans hw144_0), ((HB.out.cell (World.block_lt_of_cell? w _ hw144_1)).trans hw144_1), ((HB.out.cell (World.block_lt_of_cell? w _ hw144_2)).trans hw144_2), ((HB.out.cell (World.block_lt_of_cell? w _ hw144_3)).trans hw144_3), ((HB.out.cell (World.block_lt_of_cell? w _ hw145_0)).trans hw145_0), ((HB.out.cell (World.block_lt_of_cell? w _ hw145_1)).trans hw145_1), ((HB.out.cell (World.block_lt_of_cell? w _ hw145_2)).trans hw145_2), ((HB.out.cell (World.block_lt_of_cell? w _ hw145_3)).trans hw145_3)⟩ (fun hHeld => ?_); refine with_tabW spileref09_Same.tab6 spileref09_Same.bits6 (fun HT_ HW_ => ?_)
        generalize wr.drew = w9 at HB HR144_2 HR145_2 hx144_0 hx144_1 hx144_2 hx144_3 hx145_0 hx145_1 hx145_2 hx145_3 hHeld ⊢; refine pure_ (i := 0) (N := some 17) (v := ?_) (a' := ?_) #[true, false, false, false, false, false, false, false, false, false] rfl rfl (any_of HT_.out (by kernel_rfl)) (fun _ _ _ h => h) (Or.inl ⟨by rfl, ?_⟩) ?_ ?_; rotate_left
        · intro w'; go_simp; with_reducible rfl
        rotate_left
        · simp only [Act.put, sIA, sC0, sCS, i64_w, i32_w]; rfl
        refine pure_ (i := 1) (N := some 18) (v := ?_) (a' := ?_) #[true, true, false, false, false, false, false, false, false, false] rfl rfl (any_of HT_.out (by kernel_rfl)) (fun _ _ _ h => h) (Or.inl ⟨by rfl, ?_⟩) ?_ ?_; rotate_left
        · intro w'; go_simp; with_reducible rfl
        rotate_left
        · simp only [Act.put, sIA, sC0, sCS, i64_w, i32_w]; rfl
        refine pure_ (i := 2) (N := some 19) (v := ?_) (a' := ?_) #[true, true, true, false, false, false, false, false, false, false] rfl rfl (any_of HT_.out (by kernel_rfl)) (fun _ _ _ h => h) (Or.inl ⟨by rfl, ?_⟩) ?_ ?_; rotate_left
        · intro w'; go_simp; with_reducible rfl
        rotate_left
        · simp only [Act.put, sIA, sC0, sCS, i64_w, i32_w]; rfl
        refine pure_ (i := 4) (N := some 21) (v := ?_) (a' := ?_) #[true, true, true, false, true, false, false, false, false, false] rfl rfl (any_of HT_.out (by kernel_rfl)) (fun _ _ _ h => h) (Or.inl ⟨by rfl, ?_⟩) ?_ ?_; rotate_left
        · intro w'; go_simp; with_reducible rfl
        rotate_left
        · simp only [Act.put, sIA, sC0, sCS, i64_w, i32_w]; rfl
        refine pure_ (i := 5) (N := some 22) (v := ?_) (a' := ?_) #[true, true, true, false, true, true, false, false, false, false] rfl rfl (any_of HT_.out (by kernel_rfl)) (fun _ _ _ h => h) (Or.inl ⟨by rfl, ?_⟩) ?_ ?_; rotate_left
        · intro w'; go_simp; with_reducible rfl
        rotate_left
        · simp only [Act.put, sIA, sC0, sCS, i64_w, i32_w]; rfl
        refine pure_ (i := 6) (N := some 23) (v := ?_) (a' := ?_) #[true, true, true, false, true, true, true, false, false, false] rfl rfl (any_of HT_.out (by kernel_rfl)) (fun _ _ _ h => h) (Or.inl ⟨by rfl, ?_⟩) ?_ ?_; rotate_left
        · intro w'; go_simp; with_reducible rfl
        rotate_left
        · simp only [Act.put, sIA, sC0, sCS, i64_w, i32_w]; rfl
        refine take_ (i := 3) (N := some 20) (v := ?_) (a' := ?_) #[true, true, true, true, true, true, true, false, false, false] rfl rfl (take_ofW HT_.out HW_.out (by kernel_rfl)) (fun _ _ _ h => h) (Or.inl ⟨by rfl, ?_⟩) hHeld ?_ ?_; rotate_left
        · rintro w' ⟨s0, s1, s2, s3, s4, s5, s6, s7⟩; go_simp; with_reducible rfl
        rotate_left
        · simp only [Act.put, sIA, sC0, sCS, i64_w, i32_w]; rfl
        refine take_ (i := 7) (N := some 24) (v := ?_) (a' := ?_) #[true, true, true, true, true, true, true, true, false, false] rfl rfl (take_ofW HT_.out HW_.out (by kernel_rfl)) (fun _ _ _ h => h) (Or.inl ⟨by rfl, ?_⟩) hHeld ?_ ?_; rotate_left
        · rintro w' ⟨s0, s1, s2, s3, s4, s5, s6, s7⟩; go_simp; with_reducible rfl
        rotate_left
        · simp only [Act.put, sIA, sC0, sCS, i64_w, i32_w]; rfl
        refine one_ (i := 8) (N := some 25) #[true, true, true, true, true, true, true, true, true, false] rfl rfl (one_of HT_.out (by kernel_rfl)) (by decide) (fun K hK => ?_); refine goes_ Tryd.func15 (by kernel_rfl) rfl #[.agg #[.string ((rd_T27 l0 x5_1).f0), .int .i64 ((rd_T27 l0 x5_1).f1), .slice A144_2 ((rd_T27 l0 x5_1).f2).length c144_2, .int .i64 ((rd_T27 l0 x5_1).f3)], .agg #[.string ((rd_T27 l1 x5_1).f0), .int .i64 ((rd_T27 l1 x5_1).f1), .slice A145_2 ((rd_T27 l1 x5_1).f2).length c145_2, .int .i64 ((rd_T27 l1 x5_1).f3)]] (by rfl) rfl rfl (by (try simp only [List.map_toArray, List.map_cons, List.map_nil]); first | done | rfl | (simp only [List.length_drop, List.length_take]; rfl)) ?_; with_reducible refine (spileref09_SameCask.calls k1 ((rd_T27 l0 x5_1).f0) ((rd_T27 l0 x5_1).f1) _ _ ((rd_T27 l0 x5_1).f2) ((rd_T27 l0 x5_1).f3) ((rd_T27 l1 x5_1).f0) ((rd_T27 l1 x5_1).f1) _ _ ((rd_T27 l1 x5_1).f2) ((rd_T27 l1 x5_1).f3) true _ ?side1 ?side2 ?side3 ?side4 A7.out).mono ?_
        (case side1 => repeat (first | exact (Kd.C_below HR144_2.out HB.out) | (with_reducible refine Kd.C_alloc ?_ _) | (with_reducible refine Kd.C_drewN ?_ _) | (with_reducible refine Kd.C_drew ?_)))
        (case side2 => exact HC144_2.out)
        (case side3 => repeat (first | exact (Kd.C_below HR145_2.out HB.out) | (with_reducible refine Kd.C_alloc ?_ _) | (with_reducible refine Kd.C_drewN ?_ _) | (with_reducible refine Kd.C_drew ?_)))
        (case side4 => exact HC145_2.out)
        rintro e w10 ⟨rfl, hb⟩; refine ⟨_, rfl, ?_⟩; have n0_ := Aside0.mk (below_step (by repeat (first | (with_reducible first | exact HB.out | apply below_alloc | apply pw_below_drewN | apply below_drew1) | exact HB.out)) hb); clear HB; have HB := n0_; clear n0_; (try clear hb)
        (try clear hb2)
        (try clear hk)
        (try clear hi)
        refine hK.out _ _ ⟨((HB.out.cell (World.block_lt_of_cell? w _ hw144_0)).trans hw144_0), ((HB.out.cell (World.block_lt_of_cell? w _ hw144_1)).trans hw144_1), ((HB.out.cell (World.block_lt_of_cell? w _ hw144_2)).trans hw144_2), ((HB.out.cell (World.block_lt_of_cell? w _ hw144_3)).trans hw144_3), ((HB.out.cell (World.block_lt_of_cell? w _ hw145_0)).trans hw145_0), ((HB.out.cell (World.block_lt_of_cell? w _ hw145_1)).trans hw145_1), ((HB.out.cell (World.block_lt_of_cell? w _ hw145_2)).trans hw145_2), ((HB.out.cell (World.block_lt_of_cell? w _ hw145_3)).trans hw145_3)⟩ (fun hHeld => ?_); clear hK K; refine norm_ (a' := ?_) ?_ ?_; rotate_left
        ·
         show Act.put _ (some 25) _ = _
         simp only [Act.put, sIA, sC0, sCS, i64_w, i32_w]; rfl
        refine pure_ (i := 9) (N := some 26) (v := ?_) (a' := ?_) #[true, true, true, true, true, true, true, true, true, true] rfl rfl (any_of HT_.out (by kernel_rfl)) (fun _ _ _ h => h) (Or.inl ⟨by rfl, ?_⟩) ?_ ?_; rotate_left
        · intro w'; go_simp; with_reducible rfl
        rotate_left
        · simp only [Act.put, sIA, sC0, sCS, i64_w, i32_w]; rfl
        refine done_ (done_of HT_.out (by kernel_rfl)) ?_; try go_wp2
        go_roundg k1
        case measure => have := HK1.out; omega
        case rel => exact ⟨(wrap64 (x5_1 + 1)), (by first | rfl | (simp; done) | (simp [*]; done)), H', ⟨by have := HK1.out; omega⟩, ⟨by repeat (first | (with_reducible first | exact HB.out | apply below_alloc | apply pw_below_drewN | apply below_drew1) | exact HB.out)⟩⟩
       ·
        replace c8 := Bool.eq_false_iff.mpr c8; subst c8; have H1 : (some false) = some r := by rw [if_neg (show ¬ (false = true) by decide)] at H; exact H
        clear H; have H := H1; clear H1; obtain rfl := Option.some.inj H; try go_wp2
        have n0_ := Aside0.mk (below_drew1 HB.out); clear HB; have HB := n0_; clear n0_; have p144 : 0 ≤ (x5_1 : Int) := of_decide_eq_true (by first | (with_reducible assumption) | assumption); have q144 : x5_1 < (l0.length : Int) := of_decide_eq_true (by first | (with_reducible assumption) | assumption); obtain ⟨ad144, A144_2, c144_2, e144, hx144_0, hx144_1, hx144_2, hx144_3, hl144_2, hi144_2⟩ := at_T27 HR0.out x5_1 p144 q144; have hw144_3 := hx144_3; have hw144_2 := hx144_2; have hw144_1 := hx144_1; have hw144_0 := hx144_0; cases e144; replace hx144_0 := (HB.out.cell (World.block_lt_of_cell? w _ hx144_0)).trans hx144_0; replace hx144_1 := (HB.out.cell (World.block_lt_of_cell? w _ hx144_1)).trans hx144_1; replace hx144_2 := (HB.out.cell (World.block_lt_of_cell? w _ hx144_2)).trans hx144_2; replace hx144_3 := (HB.out.cell (World.block_lt_of_cell? w _ hx144_3)).trans hx144_3; have HR144_2 := Aside0.mk hi144_2; have HC144_2 := Aside0.mk hl144_2; clear hi144_2 hl144_2; replace p144 := eq_true p144; replace q144 := eq_true q144; have p145 : 0 ≤ (x5_1 : Int) := of_decide_eq_true (by first | (with_reducible assumption) | assumption); have q145 : x5_1 < (l1.length : Int) := of_decide_eq_true (by first | (with_reducible assumption) | assumption); obtain ⟨ad145, A145_2, c145_2, e145, hx145_0, hx145_1, hx145_2, hx145_3, hl145_2, hi145_2⟩ := at_T27 HR1.out x5_1 p145 q145; have hw145_3 := hx145_3; have hw145_2 := hx145_2; have hw145_1 := hx145_1; have hw145_0 := hx145_0; cases e145; replace hx145_0 := (HB.out.cell (World.block_lt_of_cell? w _ hx145_0)).trans hx145_0; replace hx145_1 := (HB.out.cell (World.block_lt_of_cell? w _ hx145_1)).trans hx145_1; replace hx145_2 := (HB.out.cell (World.block_lt_of_cell? w _ hx145_2)).trans hx145_2; replace hx145_3 := (HB.out.cell (World.block_lt_of_cell? w _ hx145_3)).trans hx145_3; have HR145_2 := Aside0.mk hi145_2; have HC145_2 := Aside0.mk hl145_2; clear hi145_2 hl145_2; replace p145 := eq_true p145; replace q145 := eq_true q145; refine start_ (n := 10) (S := fun w' => w'.cell? (ad144.add ((x5_1).toNat * 4)) = some (.string ((rd_T27 l0 x5_1).f0)) ∧ w'.cell? ⟨(ad144.add ((x5_1).toNat * 4)).block, (ad144.add ((x5_1).toNat * 4)).off + 1, none⟩ = some (.int .i64 ((rd_T27 l0 x5_1).f1)) ∧ w'.cell? ⟨(ad144.add ((x5_1).toNat * 4)).block, (ad144.add ((x5_1).toNat * 4)).off + 2, none⟩ = some (.slice A144_2 ((rd_T27 l0 x5_1).f2).length c144_2) ∧ w'.cell? ⟨(ad144.add ((x5_1).toNat * 4)).block, (ad144.add ((x5_1).toNat * 4)).off + 3, none⟩ = some (.int .i64 ((rd_T27 l0 x5_1).f3)) ∧ w'.cell? (ad145.add ((x5_1).toNat * 4)) = some (.string ((rd_T27 l1 x5_1).f0)) ∧ w'.cell? ⟨(ad145.add ((x5_1).toNat * 4)).block, (ad145.add ((x5_1).toNat * 4)).off + 1, none⟩ = some (.int .i64 ((rd_T27 l1 x5_1).f1)) ∧ w'.cell? ⟨(ad145.add ((x5_1).toNat * 4)).block, (ad145.add ((x5_1).toNat * 4)).off + 2, none⟩ = some (.slice A145_2 ((rd_T27 l1 x5_1).f2).length c145_2) ∧ w'.cell? ⟨(ad145.add ((x5_1).toNat * 4)).block, (ad145.add ((x5_1).toNat * 4)).off + 3, none⟩ = some (.int .i64 ((rd_T27 l1 x5_1).f3))) (ds := []) #[false, false, false, false, false, false, false, false, false, false] (by kernel_rfl) rfl rfl ⟨((HB.out.cell (World.block_lt_of_cell? w _ hw144_0)).trans hw144_0), ((HB.out.cell (World.block_lt_of_cell? w _ hw144_1)).trans hw144_1), ((HB.out.cell (World.block_lt_of_cell? w _ hw144_2)).trans hw144_2), ((HB.out.cell (World.block_lt_of_cell? w _ hw144_3)).trans hw144_3), ((HB.out.cell (World.block_lt_of_cell? w _ hw145_0)).trans hw145_0), ((HB.out.cell (World.block_lt_of_cell? w _ hw145_1)).trans hw145_1), ((HB.out.cell (World.block_lt_of_cell? w _ hw145_2)).trans hw145_2), ((HB.out.cell (World.block_lt_of_cell? w _ hw145_3)).trans hw145_3)⟩ (fun hHeld => ?_); refine with_tabW spileref09_Same.tab6 spileref09_Same.bits6 (fun HT_ HW_ => ?_)
        generalize wr.drew = w11 at HB HR144_2 HR145_2 hx144_0 hx144_1 hx144_2 hx144_3 hx145_0 hx145_1 hx145_2 hx145_3 hHeld ⊢; refine pure_ (i := 0) (N := some 17) (v := ?_) (a' := ?_) #[true, false, false, false, false, false, false, false, false, false] rfl rfl (any_of HT_.out (by kernel_rfl)) (fun _ _ _ h => h) (Or.inl ⟨by rfl, ?_⟩) ?_ ?_; rotate_left
        · intro w'; go_simp; with_reducible rfl
        rotate_left
        · simp only [Act.put, sIA, sC0, sCS, i64_w, i32_w]; rfl
        refine pure_ (i := 1) (N := some 18) (v := ?_) (a' := ?_) #[true, true, false, false, false, false, false, false, false, false] rfl rfl (any_of HT_.out (by kernel_rfl)) (fun _ _ _ h => h) (Or.inl ⟨by rfl, ?_⟩) ?_ ?_; rotate_left
        · intro w'; go_simp; with_reducible rfl
        rotate_left
        · simp only [Act.put, sIA, sC0, sCS, i64_w, i32_w]; rfl
        refine pure_ (i := 2) (N := some 19) (v := ?_) (a' := ?_) #[true, true, true, false, false, false, false, false, false, false] rfl rfl (any_of HT_.out (by kernel_rfl)) (fun _ _ _ h => h) (Or.inl ⟨by rfl, ?_⟩) ?_ ?_; rotate_left
        · intro w'; go_simp; with_reducible rfl
        rotate_left
        · simp only [Act.put, sIA, sC0, sCS, i64_w, i32_w]; rfl
        refine pure_ (i := 4) (N := some 21) (v := ?_) (a' := ?_) #[true, true, true, false, true, false, false, false, false, false] rfl rfl (any_of HT_.out (by kernel_rfl)) (fun _ _ _ h => h) (Or.inl ⟨by rfl, ?_⟩) ?_ ?_; rotate_left
        · intro w'; go_simp; with_reducible rfl
        rotate_left
        · simp only [Act.put, sIA, sC0, sCS, i64_w, i32_w]; rfl
        refine pure_ (i := 5) (N := some 22) (v := ?_) (a' := ?_) #[true, true, true, false, true, true, false, false, false, false] rfl rfl (any_of HT_.out (by kernel_rfl)) (fun _ _ _ h => h) (Or.inl ⟨by rfl, ?_⟩) ?_ ?_; rotate_left
        · intro w'; go_simp; with_reducible rfl
        rotate_left
        · simp only [Act.put, sIA, sC0, sCS, i64_w, i32_w]; rfl
        refine pure_ (i := 6) (N := some 23) (v := ?_) (a' := ?_) #[true, true, true, false, true, true, true, false, false, false] rfl rfl (any_of HT_.out (by kernel_rfl)) (fun _ _ _ h => h) (Or.inl ⟨by rfl, ?_⟩) ?_ ?_; rotate_left
        · intro w'; go_simp; with_reducible rfl
        rotate_left
        · simp only [Act.put, sIA, sC0, sCS, i64_w, i32_w]; rfl
        refine take_ (i := 3) (N := some 20) (v := ?_) (a' := ?_) #[true, true, true, true, true, true, true, false, false, false] rfl rfl (take_ofW HT_.out HW_.out (by kernel_rfl)) (fun _ _ _ h => h) (Or.inl ⟨by rfl, ?_⟩) hHeld ?_ ?_; rotate_left
        · rintro w' ⟨s0, s1, s2, s3, s4, s5, s6, s7⟩; go_simp; with_reducible rfl
        rotate_left
        · simp only [Act.put, sIA, sC0, sCS, i64_w, i32_w]; rfl
        refine take_ (i := 7) (N := some 24) (v := ?_) (a' := ?_) #[true, true, true, true, true, true, true, true, false, false] rfl rfl (take_ofW HT_.out HW_.out (by kernel_rfl)) (fun _ _ _ h => h) (Or.inl ⟨by rfl, ?_⟩) hHeld ?_ ?_; rotate_left
        · rintro w' ⟨s0, s1, s2, s3, s4, s5, s6, s7⟩; go_simp; with_reducible rfl
        rotate_left
        · simp only [Act.put, sIA, sC0, sCS, i64_w, i32_w]; rfl
        refine one_ (i := 8) (N := some 25) #[true, true, true, true, true, true, true, true, true, false] rfl rfl (one_of HT_.out (by kernel_rfl)) (by decide) (fun K hK => ?_); refine goes_ Tryd.func15 (by kernel_rfl) rfl #[.agg #[.string ((rd_T27 l0 x5_1).f0), .int .i64 ((rd_T27 l0 x5_1).f1), .slice A144_2 ((rd_T27 l0 x5_1).f2).length c144_2, .int .i64 ((rd_T27 l0 x5_1).f3)], .agg #[.string ((rd_T27 l1 x5_1).f0), .int .i64 ((rd_T27 l1 x5_1).f1), .slice A145_2 ((rd_T27 l1 x5_1).f2).length c145_2, .int .i64 ((rd_T27 l1 x5_1).f3)]] (by rfl) rfl rfl (by (try simp only [List.map_toArray, List.map_cons, List.map_nil]); first | done | rfl | (simp only [List.length_drop, List.length_take]; rfl)) ?_; with_reducible refine (spileref09_SameCask.calls k1 ((rd_T27 l0 x5_1).f0) ((rd_T27 l0 x5_1).f1) _ _ ((rd_T27 l0 x5_1).f2) ((rd_T27 l0 x5_1).f3) ((rd_T27 l1 x5_1).f0) ((rd_T27 l1 x5_1).f1) _ _ ((rd_T27 l1 x5_1).f2) ((rd_T27 l1 x5_1).f3) false _ ?side1 ?side2 ?side3 ?side4 A7.out).mono ?_
        (case side1 => repeat (first | exact (Kd.C_below HR144_2.out HB.out) | (with_reducible refine Kd.C_alloc ?_ _) | (with_reducible refine Kd.C_drewN ?_ _) | (with_reducible refine Kd.C_drew ?_)))
        (case side2 => exact HC144_2.out)
        (case side3 => repeat (first | exact (Kd.C_below HR145_2.out HB.out) | (with_reducible refine Kd.C_alloc ?_ _) | (with_reducible refine Kd.C_drewN ?_ _) | (with_reducible refine Kd.C_drew ?_)))
        (case side4 => exact HC145_2.out)
        rintro e w12 ⟨rfl, hb⟩; refine ⟨_, rfl, ?_⟩; have n0_ := Aside0.mk (below_step (by repeat (first | (with_reducible first | exact HB.out | apply below_alloc | apply pw_below_drewN | apply below_drew1) | exact HB.out)) hb); clear HB; have HB := n0_; clear n0_; (try clear hb)
        (try clear hb2)
        (try clear hk)
        (try clear hi)
        refine hK.out _ _ ⟨((HB.out.cell (World.block_lt_of_cell? w _ hw144_0)).trans hw144_0), ((HB.out.cell (World.block_lt_of_cell? w _ hw144_1)).trans hw144_1), ((HB.out.cell (World.block_lt_of_cell? w _ hw144_2)).trans hw144_2), ((HB.out.cell (World.block_lt_of_cell? w _ hw144_3)).trans hw144_3), ((HB.out.cell (World.block_lt_of_cell? w _ hw145_0)).trans hw145_0), ((HB.out.cell (World.block_lt_of_cell? w _ hw145_1)).trans hw145_1), ((HB.out.cell (World.block_lt_of_cell? w _ hw145_2)).trans hw145_2), ((HB.out.cell (World.block_lt_of_cell? w _ hw145_3)).trans hw145_3)⟩ (fun hHeld => ?_); clear hK K; refine norm_ (a' := ?_) ?_ ?_; rotate_left
        ·
         show Act.put _ (some 25) _ = _
         simp only [Act.put, sIA, sC0, sCS, i64_w, i32_w]; rfl
        refine pure_ (i := 9) (N := some 26) (v := ?_) (a' := ?_) #[true, true, true, true, true, true, true, true, true, true] rfl rfl (any_of HT_.out (by kernel_rfl)) (fun _ _ _ h => h) (Or.inl ⟨by rfl, ?_⟩) ?_ ?_; rotate_left
        · intro w'; go_simp; with_reducible rfl
        rotate_left
        · simp only [Act.put, sIA, sC0, sCS, i64_w, i32_w]; rfl
        refine done_ (done_of HT_.out (by kernel_rfl)) ?_; try go_wp2
        go_ret
        exact ⟨by first | rfl | (simp [errW_none, errW_some] <;> rfl) | (simp [*, errW_none, errW_some] <;> rfl), by repeat (first | (with_reducible first | exact HB.out | apply below_alloc | apply pw_below_drewN | apply below_drew1) | exact HB.out)⟩
      · rw [if_neg c6] at H; exact absurd H (by simp)
     · rw [if_neg c5] at H; exact absurd H (by simp)
    ·
     rw [if_neg c4] at H; have c4b0 : decide (x5_1 < (l0.length : Int)) = false := decide_eq_false c4; clear c4; obtain rfl := Option.some.inj H; go_wp2; go_ret
     exact ⟨by first | rfl | (simp [errW_none, errW_some] <;> rfl) | (simp [*, errW_none, errW_some] <;> rfl), by repeat (first | (with_reducible first | exact HB.out | apply below_alloc | apply pw_below_drewN | apply below_drew1) | exact HB.out)⟩
 ·
  rw [if_neg c3] at H; have c3b0 : ((l0.length : Int) == (l1.length : Int)) = false := beq_eq_false_iff_ne.mpr c3; have c3b1 : ((l0.length : Int) != (l1.length : Int)) = true := bne_iff_ne.mpr c3; have c3b2 : (l0.length == l1.length) = false := by first | simpa using c3 | (simp at c3 ⊢; omega)
  obtain rfl := Option.some.inj H; go_enter Tryd.func26, Tryd.ntmps26
  go_wp2; go_ret
  exact ⟨by first | rfl | (simp [errW_none, errW_some] <;> rfl) | (simp [*, errW_none, errW_some] <;> rfl), by repeat (first | (with_reducible first | exact HB.out | apply below_alloc | apply pw_below_drewN | apply below_drew1) | exact HB.out)⟩
def spilelaw09_Barrel.f  : Option (ByteArray × Int × (List (S46)) × Int) := some ((⟨#[65, 45, 49]⟩ : ByteArray), 1, (([(⟨0, 300⟩ : S46), (⟨500, 400⟩ : S46), (⟨1000, 300⟩ : S46)] : List (S46))), 500)
set_option maxHeartbeats 8000000 in
set_option maxRecDepth 100000 in
theorem spilelaw09_Barrel.calls  (r1 : ByteArray) (r2 : Int) (r3 : List (S46)) (r4 : Int) (w : World) (h : spilelaw09_Barrel.f  = some (r1, r2, r3, r4)) :
  Calls Tryd.prog 31 #[] w fun e w' => ∃ v2_ : Value, e = .returned (.agg #[.string r1, .int .i64 r2, v2_, .int .i64 r4]) ∧ Kd.R k46 46 w' w.heap.size (fun _ => True) v2_ r3 ∧ Below w.heap.size w w' := by
 have hu27 := Tryd.underlying27; have hu46 := Tryd.underlying46; have HB := Aside0.mk (Below.refl w.heap.size w); have H : (some ((⟨#[65, 45, 49]⟩ : ByteArray), 1, (([(⟨0, 300⟩ : S46), (⟨500, 400⟩ : S46), (⟨1000, 300⟩ : S46)] : List (S46))), 500)) = some (r1, r2, r3, r4) := h; clear h; obtain ⟨y148, hy148⟩ : ∃ y_ : List (S46), y_ = (([(⟨0, 300⟩ : S46), (⟨500, 400⟩ : S46), (⟨1000, 300⟩ : S46)] : List (S46))) := ⟨_, rfl⟩; replace H : (some ((⟨#[65, 45, 49]⟩ : ByteArray), 1, y148, 500)) = some (r1, r2, r3, r4) := by first | (rw [hy148]; with_reducible exact H) | (have H2_ := (Option.bind_some _ _).symm.trans H; rw [hy148]; with_reducible exact H2_) | (have H2_ := (Option.bind_some _ _).symm.trans H; with_reducible exact H2_) | with_reducible exact H | (rw [hy148]; exact H) | exact H
 have Ny148 := Aside0.mk hy148; clear hy148; simp only [Option.some.injEq, Prod.mk.injEq] at H; obtain ⟨rfl, rfl, rfl, rfl⟩ := H; go_enter Tryd.func31, Tryd.ntmps31
 go_wp2_with (first | ((with_reducible refine gate_dst (N := 0) rfl ?_); refine box_event ?hg (N := 0) ?hd (cs := #[.string (⟨#[]⟩ : ByteArray), .int .i64 0, .slice none 0 0, .int .i64 0]) (t := 27) ?hr ?_; (case hd => rfl); (case hg => rfl); (case hr => first | (go_simp; done) | (go_simp; rfl)); intro gb147 hg w1 hbox hb; have n0_ := Aside0.mk (below_step (by repeat (first | (with_reducible first | exact HB.out | apply below_alloc | apply pw_below_drewN | apply below_drew1) | exact HB.out)) hb); have n1_ := Aside0.mk (hbox); have n2_ := Aside0.mk ((by rw [hg]; exact (below_size (by repeat (first | (with_reducible first | exact HB.out | apply below_alloc | apply pw_below_drewN | apply below_drew1) | exact HB.out))) : w.heap.size ≤ gb147)); have n3_ := Aside0.mk ((by rw [hg]; exact (below_size (by repeat (first | (with_reducible first | exact HB.out | apply below_alloc | apply pw_below_drewN | apply below_drew1) | exact HB.out))) : w.heap.size ≤ gb147)); clear HB; have HB := n0_; have BK147 := n1_; have GW147 := n2_; have GE147 := n3_; clear n0_ n1_ n2_ n3_; clear hb hbox hg) | ((with_reducible refine gate_dst (N := 4) rfl ?_); refine Kd.R_lit k46 _ 46 ?hg (N := 4) ?hd (xs := ([(⟨0, 300⟩ : S46), (⟨500, 400⟩ : S46), (⟨1000, 300⟩ : S46)] : List (S46))) (inner := [.int .i64 0, .int .i64 300, .int .i64 500, .int .i64 400, .int .i64 1000, .int .i64 300]) (ok := fun _ => True) (okp := fun _ => True) ?hr ?hp (fun _ hk => hk) trivial (Below.refl _ _) (Nat.le_refl _) (by simp) ?_; (case hd => rfl); (case hg => rfl); (case hr => first | (go_simp; done) | (go_simp; rfl)); (case hp => exact (Reps.c2 (show Kd.M k46 _ _ _ (⟨0, 300⟩ : S46) [.int .i64 0, .int .i64 300] from (k46_mkM _ _ _ (⟨0, 300⟩ : S46) )) (Reps.c2 (show Kd.M k46 _ _ _ (⟨500, 400⟩ : S46) [.int .i64 500, .int .i64 400] from (k46_mkM _ _ _ (⟨500, 400⟩ : S46) )) (Reps.c2 (show Kd.M k46 _ _ _ (⟨1000, 300⟩ : S46) [.int .i64 1000, .int .i64 300] from (k46_mkM _ _ _ (⟨1000, 300⟩ : S46) )) (Reps.none _ _))))); intro v149 w2 ho3 hb hg_ hnew_; clear hg_ hnew_; (first | rw [← Ny148.out] at ho3 | (simp only [Int.reduceToNat] at ho3; rw [← Ny148.out] at ho3)); have n0_ := Aside0.mk (Kd.R_lower ho3 (below_size (by repeat (first | (with_reducible first | exact HB.out | apply below_alloc | apply pw_below_drewN | apply below_drew1 | refine below_set ?_ GE147.out) | exact HB.out)))); have n1_ := Aside0.mk (blk_below (g := gb147) (o := .cells #[.string (⟨#[]⟩ : ByteArray), .int .i64 0, .slice none 0 0, .int .i64 0] 27 (0, 0)) (by (with_reducible repeat (first | refine blk_drewN ?_ _ | refine blk_drew ?_ | refine blk_alloc ?_ _)); exact BK147.out) hb); have n2_ := Aside0.mk (below_step (by repeat (first | (with_reducible first | exact HB.out | apply below_alloc | apply pw_below_drewN | apply below_drew1 | refine below_set ?_ GE147.out) | exact HB.out)) hb); clear BK147; clear HB; have HO150 := n0_; have BK147 := n1_; have HB := n2_; clear n0_ n1_ n2_; clear hb ho3; obtain ⟨Ao4, co4, eo4⟩ := Kd.R_slice HO150.out; subst eo4; have hcz5_0 : w2.cell? ⟨gb147, 0, none⟩ = some (.string (⟨#[]⟩ : ByteArray)) := (blk_cell BK147.out 0).trans rfl; have hcz5_1 : w2.cell? ⟨gb147, 1, none⟩ = some (.int .i64 0) := (blk_cell BK147.out 1).trans rfl; have hcz5_2 : w2.cell? ⟨gb147, 2, none⟩ = some (.slice none 0 0) := (blk_cell BK147.out 2).trans rfl; have hcz5_3 : w2.cell? ⟨gb147, 3, none⟩ = some (.int .i64 0) := (blk_cell BK147.out 3).trans rfl; have hfz5_0 := blk_frozen BK147.out 0; have hfz5_1 := blk_frozen BK147.out 1; have hfz5_2 := blk_frozen BK147.out 2; have hfz5_3 := blk_frozen BK147.out 3))
 refine bodyPost_ret (results_cell_row rfl _ _ gb147 27 #[.string (⟨#[65, 45, 49]⟩ : ByteArray), .int .i64 1, .slice Ao4 y148.length co4, .int .i64 500] (0, 0) _ rfl (by (with_reducible repeat (first | refine blk_drewN ?_ _ | refine blk_drew ?_ | refine blk_alloc ?_ _)); refine blk_put (cs := #[.string (⟨#[65, 45, 49]⟩ : ByteArray), .int .i64 1, .slice Ao4 y148.length co4, .int .i64 0]) ?_ 3 _ rfl; (with_reducible repeat (first | refine blk_drewN ?_ _ | refine blk_drew ?_ | refine blk_alloc ?_ _)); refine blk_put (cs := #[.string (⟨#[65, 45, 49]⟩ : ByteArray), .int .i64 1, .slice none 0 0, .int .i64 0]) ?_ 2 _ rfl; (with_reducible repeat (first | refine blk_drewN ?_ _ | refine blk_drew ?_ | refine blk_alloc ?_ _)); refine blk_put (cs := #[.string (⟨#[65, 45, 49]⟩ : ByteArray), .int .i64 0, .slice none 0 0, .int .i64 0]) ?_ 1 _ rfl; (with_reducible repeat (first | refine blk_drewN ?_ _ | refine blk_drew ?_ | refine blk_alloc ?_ _)); refine blk_put (cs := #[.string (⟨#[]⟩ : ByteArray), .int .i64 0, .slice none 0 0, .int .i64 0]) ?_ 0 _ rfl; (with_reducible repeat (first | refine blk_drewN ?_ _ | refine blk_drew ?_ | refine blk_alloc ?_ _)); exact BK147.out) Tryd.underlying27 rfl (by kernel_rfl)) rfl ?_; exact ⟨_, by first | rfl | (simp [errW_none, errW_some] <;> rfl) | (simp [*, errW_none, errW_some] <;> rfl), by (with_reducible repeat (first | apply Kd.R_alloc | apply Kd.R_drewN | apply Kd.R_drew)); exact Kd.R_mono (Kd.R_far (p := ⟨gb147, 3, none⟩) (Kd.R_far (p := ⟨gb147, 2, none⟩) (Kd.R_far (p := ⟨gb147, 1, none⟩) (Kd.R_far (p := ⟨gb147, 0, none⟩) (Kd.R_types HO150.out BK147.out (by decide)) (fun _ hk => hk.2) (.string (⟨#[65, 45, 49]⟩ : ByteArray))) (fun _ hk => hk.2) (.int .i64 1)) (fun _ hk => hk.2) (.slice Ao4 y148.length co4)) (fun _ hk => hk.2) (.int .i64 500)) (fun _ hk => trivial), by repeat (first | (with_reducible first | exact HB.out | apply below_alloc | apply pw_below_drewN | apply below_drew1 | refine below_set ?_ GE147.out) | exact HB.out)⟩
end Go.Proofs.YtnhmlneebnkjcaaDoor.Pr
namespace Go.Proofs.YtnhmlneebnkjcaaDoor.Pr
open Go.RowKit Go.Proofs.YtnhmlneebnkjcaaDoorW.PrintWords Go.Proofs.YtnhmlneebnkjcaaDoorW.PrintLast Go.Proofs.YtnhmlneebnkjcaaDoorW.PrintMore Go.Proofs.YtnhmlneebnkjcaaDoor.X
attribute [local go_sem] max2_int min2_int max_two min_two max_three min_three max_four min_four   -- for this text's walks alone
set_option linter.unusedVariables false
set_option linter.unusedSimpArgs false
def spilelaw09_awake.f  : Option (Bool) := some true
def spilelaw09_awake.T5 : Bool × List (List Nat × List Nat) := (true, [([], []), ([0], [0]), ([1], [1]), ([2], [2]), ([3, 2], [2, 3]), ([2, 4], [2, 4]), ([5, 2], [5]), ([6], [6]), ([7, 6], [6, 7]), ([6, 8], [6, 8]), ([9, 6], [9]), ([10], [10]), ([11, 10], [10, 11]), ([10, 12], [10, 12]), ([13, 10], [13]), ([14], [14]), ([15, 14], [14, 15]), ([14, 16], [14, 16]), ([17, 14], [17]), ([18], [18]), ([19, 18], [18, 19]), ([18, 20], [18, 20]), ([21, 18], [21]), ([22], [22]), ([23, 22], [22, 23]), ([22, 24], [22, 24]), ([25, 22], [25]), ([26], [26]), ([26, 26], [26]), ([28, 26], [26, 28]), ([27, 29, 28, 26], [26, 27, 29]), ([26, 30], [26, 30]), ([31, 30], [31]), ([32], [32]), ([32, 32], [32]), ([33, 34, 34, 32], [32, 33, 34]), ([32, 35], [32, 35]), ([36, 35], [36]), ([37, 37], [37]), ([38, 38, 37], [37, 38]), ([39, 37], [37, 39]), ([37, 40], [37, 40]), ([41, 39], [41]), ([42], [42]), ([43, 42, 42], [42, 43]), ([44, 42], [42, 44]), ([42, 45], [42, 45]), ([46, 44, 0, 1, 2, 3, 4, 5, 6, 7, 8, 9, 10, 11, 12, 13, 14, 15, 16, 17, 18, 19, 20, 21, 22, 23, 24, 25, 26, 27, 28, 29, 30, 31, 32, 33, 34, 35, 36, 37, 38, 39, 40, 41, 42, 43, 44, 45, 46], [46])])
def spilelaw09_awake.B5 : List Nat := [0, 1, 3, 7, 15, 31, 63, 127, 255, 511, 1023, 2047, 4095, 8191, 16383, 32767, 65535, 131071, 262143, 524287, 1048575, 2097151, 4194303, 8388607, 16777215, 33554431, 67108863, 134217727, 134217727, 402653183, 1073741823, 2147483647, 4294967295, 8589934591, 8589934591, 34359738367, 68719476735, 137438953471, 274877906943, 549755813887, 1099511627775, 2199023255551, 4398046511103, 8796093022207, 17592186044415, 35184372088831, 70368744177663, 140737488355327]
theorem spilelaw09_awake.tab5 : rtab .any (opsOf Tryd.f10 5) = spilelaw09_awake.T5 := by kernel_rfl
theorem spilelaw09_awake.bits5 : waitsOk spilelaw09_awake.T5.2 spilelaw09_awake.B5 = true := by kernel_rfl
set_option maxHeartbeats 8000000 in
set_option maxRecDepth 100000 in
theorem spilelaw09_awake.calls  (r : Bool) (w : World) (hG : GI w) (h : spilelaw09_awake.f  = some r) :
  Calls Tryd.prog 10 #[] w fun e w' => e = .returned (.bool r) ∧ Below w.heap.size w w' := by
 have hu27 := Tryd.underlying27; have HG := Aside0.mk hG; clear hG; have HB := Aside0.mk (Below.refl w.heap.size w); have H : (some true) = some r := h; clear h; have A1 := Aside0.mk (show (spilelaw09_Barrel.f) = some ((⟨#[65, 45, 49]⟩ : ByteArray), 1, [(⟨0, 300⟩ : S46), (⟨500, 400⟩ : S46), (⟨1000, 300⟩ : S46)], 500) from by kernel_rfl); obtain ⟨y153, hy153⟩ : ∃ y_ : List (S27), y_ = (([(⟨(⟨#[65, 45, 49]⟩ : ByteArray), 1, [(⟨0, 300⟩ : S46), (⟨500, 400⟩ : S46), (⟨1000, 300⟩ : S46)], 500⟩ : S27)] : List (S27))) := ⟨_, rfl⟩; have Ny153 := Aside0.mk hy153; clear hy153; have A2 := Aside0.mk (show (cask_Print.f 400 y153) = some ((⟨#[99, 97, 115, 107, 32, 65, 45, 49, 32, 108, 121, 105, 110, 103, 32, 100, 101, 99, 108, 97, 114, 101, 100, 32, 53, 48, 48, 10, 97, 116, 32, 48, 32, 114, 97, 100, 105, 117, 115, 32, 51, 48, 48, 10, 97, 116, 32, 53, 48, 48, 32, 114, 97, 100, 105, 117, 115, 32, 52, 48, 48, 10, 97, 116, 32, 49, 48, 48, 48, 32, 114, 97, 100, 105, 117, 115, 32, 51, 48, 48, 10, 101, 110, 100, 10]⟩ : ByteArray), 0) from by (try rw [Ny153.out]); kernel_rfl); have A3 := Aside0.mk (show (cask_Parse.f 400 (⟨#[99, 97, 115, 107, 32, 65, 45, 49, 32, 108, 121, 105, 110, 103, 32, 100, 101, 99, 108, 97, 114, 101, 100, 32, 53, 48, 48, 10, 97, 116, 32, 48, 32, 114, 97, 100, 105, 117, 115, 32, 51, 48, 48, 10, 97, 116, 32, 53, 48, 48, 32, 114, 97, 100, 105, 117, 115, 32, 52, 48, 48, 10, 97, 116, 32, 49, 48, 48, 48, 32, 114, 97, 100, 105, 117, 115, 32, 51, 48, 48, 10, 101, 110, 100, 10]⟩ : ByteArray)) = some ([(⟨(⟨#[65, 45, 49]⟩ : ByteArray), 1, [(⟨0, 300⟩ : S46), (⟨500, 400⟩ : S46), (⟨1000, 300⟩ : S46)], 500⟩ : S27)], 0, 0) from by kernel_rfl); have A4 := Aside0.mk (show (spilelaw09_Barrel.f) = some ((⟨#[65, 45, 49]⟩ : ByteArray), 1, [(⟨0, 300⟩ : S46), (⟨500, 400⟩ : S46), (⟨1000, 300⟩ : S46)], 500) from by kernel_rfl); have A5 := Aside0.mk (show (cask_Depth.f 400 (⟨#[65, 45, 49]⟩ : ByteArray) 1 [(⟨0, 300⟩ : S46), (⟨500, 400⟩ : S46), (⟨1000, 300⟩ : S46)] 500) = some (800, 0) from by kernel_rfl); have A6 := Aside0.mk (show (spilelaw09_Barrel.f) = some ((⟨#[65, 45, 49]⟩ : ByteArray), 1, [(⟨0, 300⟩ : S46), (⟨500, 400⟩ : S46), (⟨1000, 300⟩ : S46)], 500) from by kernel_rfl); obtain ⟨y162, hy162⟩ : ∃ y_ : List (S27), y_ = (([(⟨(⟨#[65, 45, 49]⟩ : ByteArray), 1, [(⟨0, 300⟩ : S46), (⟨500, 400⟩ : S46), (⟨1000, 300⟩ : S46)], 500⟩ : S27)] : List (S27))) := ⟨_, rfl⟩; have Ny162 := Aside0.mk hy162; clear hy162; have A7 := Aside0.mk (show (cask_Find.f 400 y162 (⟨#[65, 45, 49]⟩ : ByteArray)) = some ((⟨#[65, 45, 49]⟩ : ByteArray), 1, [(⟨0, 300⟩ : S46), (⟨500, 400⟩ : S46), (⟨1000, 300⟩ : S46)], 500, 0) from by (try rw [Ny162.out]); kernel_rfl); have A8 := Aside0.mk (show (spilelaw09_Barrel.f) = some ((⟨#[65, 45, 49]⟩ : ByteArray), 1, [(⟨0, 300⟩ : S46), (⟨500, 400⟩ : S46), (⟨1000, 300⟩ : S46)], 500) from by kernel_rfl); obtain ⟨y170, hy170⟩ : ∃ y_ : List (S27), y_ = (([(⟨(⟨#[65, 45, 49]⟩ : ByteArray), 1, [(⟨0, 300⟩ : S46), (⟨500, 400⟩ : S46), (⟨1000, 300⟩ : S46)], 500⟩ : S27)] : List (S27))) := ⟨_, rfl⟩; have Ny170 := Aside0.mk hy170; clear hy170; have A9 := Aside0.mk (show (spileref09_Same.f 400 [(⟨(⟨#[65, 45, 49]⟩ : ByteArray), 1, [(⟨0, 300⟩ : S46), (⟨500, 400⟩ : S46), (⟨1000, 300⟩ : S46)], 500⟩ : S27)] y170) = some true from by (try rw [Ny170.out]); kernel_rfl); have A10 := Aside0.mk (show (spilelaw09_Barrel.f) = some ((⟨#[65, 45, 49]⟩ : ByteArray), 1, [(⟨0, 300⟩ : S46), (⟨500, 400⟩ : S46), (⟨1000, 300⟩ : S46)], 500) from by kernel_rfl); have A11 := Aside0.mk (show (spileref09_SameCask.f 400 (⟨#[65, 45, 49]⟩ : ByteArray) 1 [(⟨0, 300⟩ : S46), (⟨500, 400⟩ : S46), (⟨1000, 300⟩ : S46)] 500 (⟨#[65, 45, 49]⟩ : ByteArray) 1 [(⟨0, 300⟩ : S46), (⟨500, 400⟩ : S46), (⟨1000, 300⟩ : S46)] 500) = some true from by kernel_rfl); have A12 := Aside0.mk (show (spilelaw09_Barrel.f) = some ((⟨#[65, 45, 49]⟩ : ByteArray), 1, [(⟨0, 300⟩ : S46), (⟨500, 400⟩ : S46), (⟨1000, 300⟩ : S46)], 500) from by kernel_rfl); have A13 := Aside0.mk (show (cask_Check.f 400 (⟨#[65, 45, 49]⟩ : ByteArray) 1 [(⟨0, 300⟩ : S46), (⟨500, 400⟩ : S46), (⟨1000, 300⟩ : S46)] 500) = some 0 from by kernel_rfl); have A14 := Aside0.mk (show (cask_List.f 400 [(⟨(⟨#[65, 45, 49]⟩ : ByteArray), 1, [(⟨0, 300⟩ : S46), (⟨500, 400⟩ : S46), (⟨1000, 300⟩ : S46)], 500⟩ : S27)]) = some 0 from by kernel_rfl); obtain rfl := Option.some.inj H; go_enter Tryd.func10, Tryd.ntmps10
 try simp only [List.append_eq, List.cons_append, List.nil_append]
 try go_wp2_with (first | ((with_reducible refine gate_callee (f := 31) rfl ?_); refine goesL_ (some 11) rfl rfl Tryd.func31 (by kernel_rfl) rfl #[] rfl (by (try simp only [List.map_toArray, List.map_cons, List.map_nil]); first | done | rfl | (simp only [List.length_drop, List.length_take]; rfl)) ?_; (with_reducible refine (spilelaw09_Barrel.calls  (⟨#[65, 45, 49]⟩ : ByteArray) 1 [(⟨0, 300⟩ : S46), (⟨500, 400⟩ : S46), (⟨1000, 300⟩ : S46)] 500 _ A1.out).mono ?_); rintro e w15 ⟨v151, rfl, ho0, hb⟩; refine ⟨_, rfl, ?_⟩; have n0_ := Aside0.mk (Kd.R_lower ho0 (below_size (by repeat (first | (with_reducible first | exact HB.out | apply below_alloc | apply pw_below_drewN | apply below_drew1) | exact HB.out)))); have n1_ := Aside0.mk (below_step (by repeat (first | (with_reducible first | exact HB.out | apply below_alloc | apply pw_below_drewN | apply below_drew1) | exact HB.out)) hb); clear HB; have HO152 := n0_; have HB := n1_; clear n0_ n1_; (try clear hb); (try clear hb2); (try clear hk); (try clear hi); (try clear ho0); obtain ⟨Ao16, co16, eo16⟩ := Kd.R_slice HO152.out; subst eo16) | ((with_reducible refine gate_dst (N := 12) rfl ?_); (try (refine gate_guard (by rfl) ?_; dsimp only)); refine Kd.N_lit k27 _ 27 ?hg (N' := 12) ?hd (xs := ([(⟨(⟨#[65, 45, 49]⟩ : ByteArray), 1, [(⟨0, 300⟩ : S46), (⟨500, 400⟩ : S46), (⟨1000, 300⟩ : S46)], 500⟩ : S27)] : List (S27))) (inner := [.string (⟨#[65, 45, 49]⟩ : ByteArray), .int .i64 1, .slice Ao16 [(⟨0, 300⟩ : S46), (⟨500, 400⟩ : S46), (⟨1000, 300⟩ : S46)].length co16, .int .i64 500]) (ok := (fun _ => True)) (okp := (fun _ => True)) ?hr ?hp (fun _ hk => hk) ((show ∀ k_, w15.heap.size ≤ k_ → (fun _ => True) k_ from fun k_ hk => trivial) _ (Nat.le_refl _)) (Below.refl _ _) (Nat.le_refl _) (by simp) ?_; (case hd => rfl); (case hg => rfl); (case hr => first | (go_simp; done) | (go_simp; rfl)); (case hp => exact (Reps.c4 (show Kd.FK k27 _ _ (⟨(⟨#[65, 45, 49]⟩ : ByteArray), 1, [(⟨0, 300⟩ : S46), (⟨500, 400⟩ : S46), (⟨1000, 300⟩ : S46)], 500⟩ : S27) [.string (⟨#[65, 45, 49]⟩ : ByteArray), .int .i64 1, .slice Ao16 [(⟨0, 300⟩ : S46), (⟨500, 400⟩ : S46), (⟨1000, 300⟩ : S46)].length co16, .int .i64 500] from (k27_mkF _ _ (⟨(⟨#[65, 45, 49]⟩ : ByteArray), 1, [(⟨0, 300⟩ : S46), (⟨500, 400⟩ : S46), (⟨1000, 300⟩ : S46)], 500⟩ : S27) (Kd.R_reads' (Kd.R_mono (ok' := (fun _ => True)) (HO152.out) (fun k_ hk => trivial))).2.1 (Kd.R_F (Kd.R_mono (ok' := (fun _ => True)) (HO152.out) (fun k_ hk => trivial))))) (Reps.none _ _))); intro v154 w17 ho18 hb hg_ hnew_; clear hg_ hnew_; (first | rw [← Ny153.out] at ho18 | (simp only [Int.reduceToNat] at ho18; rw [← Ny153.out] at ho18)); have n0_ := Aside0.mk (Kd.N_lower ho18 (below_size (by repeat (first | (with_reducible first | exact HB.out | apply below_alloc | apply pw_below_drewN | apply below_drew1) | exact HB.out)))); have n1_ := Aside0.mk (below_step (by repeat (first | (with_reducible first | exact HB.out | apply below_alloc | apply pw_below_drewN | apply below_drew1) | exact HB.out)) hb); clear HB; clear HO152; have HO155 := n0_; have HB := n1_; clear n0_ n1_; clear hb ho18; obtain ⟨Ao19, co19, eo19⟩ := Kd.N_slice HO155.out; subst eo19) | ((with_reducible refine gate_callee (f := 22) rfl ?_); refine goesL_ (some 13) rfl rfl Tryd.func22 (by kernel_rfl) rfl #[.slice Ao19 y153.length co19] rfl (by (try simp only [List.map_toArray, List.map_cons, List.map_nil]); first | done | rfl | (simp only [List.length_drop, List.length_take]; rfl)) ?_; (with_reducible refine (cask_Print.calls 400 _ _ y153 (⟨#[99, 97, 115, 107, 32, 65, 45, 49, 32, 108, 121, 105, 110, 103, 32, 100, 101, 99, 108, 97, 114, 101, 100, 32, 53, 48, 48, 10, 97, 116, 32, 48, 32, 114, 97, 100, 105, 117, 115, 32, 51, 48, 48, 10, 97, 116, 32, 53, 48, 48, 32, 114, 97, 100, 105, 117, 115, 32, 52, 48, 48, 10, 97, 116, 32, 49, 48, 48, 48, 32, 114, 97, 100, 105, 117, 115, 32, 51, 48, 48, 10, 101, 110, 100, 10]⟩ : ByteArray) 0 _ ?side1 ?side2 ?side3 A2.out).mono ?_); (case side1 => repeat (first | exact (Kd.N_reads' HO155.out).2.2 | (with_reducible refine Kd.C_alloc ?_ _) | (with_reducible refine Kd.C_drewN ?_ _) | (with_reducible refine Kd.C_drew ?_))); (case side2 => exact (Kd.N_reads' HO155.out).2.1); (case side3 => exact GI.below HG.out (by repeat (first | (with_reducible first | exact HB.out | apply below_alloc | apply pw_below_drewN | apply below_drew1) | exact HB.out))); rintro e w20 ⟨rfl, hb⟩; refine ⟨_, rfl, ?_⟩; have n0_ := Aside0.mk (Kd.N_below (by (with_reducible repeat (first | apply Kd.N_alloc | apply Kd.N_drewN | apply Kd.N_drew)); exact HO155.out) hb); have n1_ := Aside0.mk (below_step (by repeat (first | (with_reducible first | exact HB.out | apply below_alloc | apply pw_below_drewN | apply below_drew1) | exact HB.out)) hb); clear HO155; clear HB; have HO155 := n0_; have HB := n1_; clear n0_ n1_; (try clear hb); (try clear hb2); (try clear hk); (try clear hi)) | ((with_reducible refine gate_callee (f := 24) rfl ?_); refine goesL_ (some 18) rfl rfl Tryd.func24 (by kernel_rfl) rfl #[.string (⟨#[99, 97, 115, 107, 32, 65, 45, 49, 32, 108, 121, 105, 110, 103, 32, 100, 101, 99, 108, 97, 114, 101, 100, 32, 53, 48, 48, 10, 97, 116, 32, 48, 32, 114, 97, 100, 105, 117, 115, 32, 51, 48, 48, 10, 97, 116, 32, 53, 48, 48, 32, 114, 97, 100, 105, 117, 115, 32, 52, 48, 48, 10, 97, 116, 32, 49, 48, 48, 48, 32, 114, 97, 100, 105, 117, 115, 32, 51, 48, 48, 10, 101, 110, 100, 10]⟩ : ByteArray)] rfl (by (try simp only [List.map_toArray, List.map_cons, List.map_nil]); first | done | rfl | (simp only [List.length_drop, List.length_take]; rfl)) ?_; (with_reducible refine (cask_Parse.calls 400 (⟨#[99, 97, 115, 107, 32, 65, 45, 49, 32, 108, 121, 105, 110, 103, 32, 100, 101, 99, 108, 97, 114, 101, 100, 32, 53, 48, 48, 10, 97, 116, 32, 48, 32, 114, 97, 100, 105, 117, 115, 32, 51, 48, 48, 10, 97, 116, 32, 53, 48, 48, 32, 114, 97, 100, 105, 117, 115, 32, 52, 48, 48, 10, 97, 116, 32, 49, 48, 48, 48, 32, 114, 97, 100, 105, 117, 115, 32, 51, 48, 48, 10, 101, 110, 100, 10]⟩ : ByteArray) [(⟨(⟨#[65, 45, 49]⟩ : ByteArray), 1, [(⟨0, 300⟩ : S46), (⟨500, 400⟩ : S46), (⟨1000, 300⟩ : S46)], 500⟩ : S27)] 0 0 _ ?side1 A3.out).mono ?_); (case side1 => exact GI.below HG.out (by repeat (first | (with_reducible first | exact HB.out | apply below_alloc | apply pw_below_drewN | apply below_drew1) | exact HB.out))); rintro e w21 ⟨v156, rfl, ho0, hb⟩; refine ⟨_, rfl, ?_⟩; have n0_ := Aside0.mk (Kd.N_elder' (by (with_reducible repeat (first | apply Kd.N_alloc | apply Kd.N_drewN | apply Kd.N_drew)); exact HO155.out) (Kd.S_base ho0) hb); have n1_ := Aside0.mk (Kd.N_lower (Kd.N_mono (ok' := fun k_ => some k_ ≠ (.slice Ao19 y153.length co19 : Value).ownBlock) (Kd.S_N (Kd.S_bound ho0)) (fun k_ hk_ => (Kd.fresh' (Kd.N_lt (by (with_reducible repeat (first | apply Kd.N_alloc | apply Kd.N_drewN | apply Kd.N_drew)); exact HO155.out)) k_ hk_.2.1))) (below_size (by repeat (first | (with_reducible first | exact HB.out | apply below_alloc | apply pw_below_drewN | apply below_drew1) | exact HB.out)))); have n2_ := Aside0.mk (below_step (by repeat (first | (with_reducible first | exact HB.out | apply below_alloc | apply pw_below_drewN | apply below_drew1) | exact HB.out)) hb); clear HO155; clear HB; have HO155 := n0_; have HO157 := n1_; have HB := n2_; clear n0_ n1_ n2_; (try clear hb); (try clear hb2); (try clear hk); (try clear hi); (try clear ho0)) | ((with_reducible refine gate_callee (f := 31) rfl ?_); refine goesL_ (some 23) rfl rfl Tryd.func31 (by kernel_rfl) rfl #[] rfl (by (try simp only [List.map_toArray, List.map_cons, List.map_nil]); first | done | rfl | (simp only [List.length_drop, List.length_take]; rfl)) ?_; (with_reducible refine (spilelaw09_Barrel.calls  (⟨#[65, 45, 49]⟩ : ByteArray) 1 [(⟨0, 300⟩ : S46), (⟨500, 400⟩ : S46), (⟨1000, 300⟩ : S46)] 500 _ A4.out).mono ?_); rintro e w22 ⟨v158, rfl, ho0, hb⟩; refine ⟨_, rfl, ?_⟩; have n0_ := Aside0.mk (Kd.N_elder' (by (with_reducible repeat (first | apply Kd.N_alloc | apply Kd.N_drewN | apply Kd.N_drew)); exact HO155.out) (Kd.R_base ho0) hb); have n1_ := Aside0.mk (Kd.N_elder' (by (with_reducible repeat (first | apply Kd.N_alloc | apply Kd.N_drewN | apply Kd.N_drew)); exact HO157.out) (Kd.R_base ho0) hb); have n2_ := Aside0.mk (Kd.R_lower ho0 (below_size (by repeat (first | (with_reducible first | exact HB.out | apply below_alloc | apply pw_below_drewN | apply below_drew1) | exact HB.out)))); have n3_ := Aside0.mk (below_step (by repeat (first | (with_reducible first | exact HB.out | apply below_alloc | apply pw_below_drewN | apply below_drew1) | exact HB.out)) hb); clear HO155; clear HO157; clear HB; have HO155 := n0_; have HO157 := n1_; have HO159 := n2_; have HB := n3_; clear n0_ n1_ n2_ n3_; (try clear hb); (try clear hb2); (try clear hk); (try clear hi); (try clear ho0); obtain ⟨Ao23, co23, eo23⟩ := Kd.R_slice HO159.out; subst eo23) | ((with_reducible refine gate_callee (f := 18) rfl ?_); refine goesL_ (some 24) rfl rfl Tryd.func18 (by kernel_rfl) rfl #[.agg #[.string (⟨#[65, 45, 49]⟩ : ByteArray), .int .i64 1, .slice Ao23 [(⟨0, 300⟩ : S46), (⟨500, 400⟩ : S46), (⟨1000, 300⟩ : S46)].length co23, .int .i64 500]] rfl (by (try simp only [List.map_toArray, List.map_cons, List.map_nil]); first | done | rfl | (simp only [List.length_drop, List.length_take]; rfl)) ?_; (with_reducible refine (cask_Depth.calls 400 (⟨#[65, 45, 49]⟩ : ByteArray) 1 _ _ [(⟨0, 300⟩ : S46), (⟨500, 400⟩ : S46), (⟨1000, 300⟩ : S46)] 500 800 0 _ ?side1 ?side2 A5.out).mono ?_); (case side1 => repeat (first | exact (Kd.R_reads' HO159.out).2.2 | (with_reducible refine Kd.C_alloc ?_ _) | (with_reducible refine Kd.C_drewN ?_ _) | (with_reducible refine Kd.C_drew ?_))); (case side2 => exact (Kd.R_reads' HO159.out).2.1); rintro e w24 ⟨rfl, hb⟩; refine ⟨_, rfl, ?_⟩; have n0_ := Aside0.mk (Kd.N_below (by (with_reducible repeat (first | apply Kd.N_alloc | apply Kd.N_drewN | apply Kd.N_drew)); exact HO155.out) hb); have n1_ := Aside0.mk (Kd.N_below (by (with_reducible repeat (first | apply Kd.N_alloc | apply Kd.N_drewN | apply Kd.N_drew)); exact HO157.out) hb); have n2_ := Aside0.mk (Kd.R_below (by (with_reducible repeat (first | apply Kd.R_alloc | apply Kd.R_drewN | apply Kd.R_drew)); exact HO159.out) hb); have n3_ := Aside0.mk (below_step (by repeat (first | (with_reducible first | exact HB.out | apply below_alloc | apply pw_below_drewN | apply below_drew1) | exact HB.out)) hb); clear HO155; clear HO157; clear HO159; clear HB; have HO155 := n0_; have HO157 := n1_; have HO159 := n2_; have HB := n3_; clear n0_ n1_ n2_ n3_; (try clear hb); (try clear hb2); (try clear hk); (try clear hi)) | ((with_reducible refine gate_callee (f := 31) rfl ?_); refine goesL_ (some 28) rfl rfl Tryd.func31 (by kernel_rfl) rfl #[] rfl (by (try simp only [List.map_toArray, List.map_cons, List.map_nil]); first | done | rfl | (simp only [List.length_drop, List.length_take]; rfl)) ?_; (with_reducible refine (spilelaw09_Barrel.calls  (⟨#[65, 45, 49]⟩ : ByteArray) 1 [(⟨0, 300⟩ : S46), (⟨500, 400⟩ : S46), (⟨1000, 300⟩ : S46)] 500 _ A6.out).mono ?_); rintro e w25 ⟨v160, rfl, ho0, hb⟩; refine ⟨_, rfl, ?_⟩; have n0_ := Aside0.mk (Kd.N_elder' (by (with_reducible repeat (first | apply Kd.N_alloc | apply Kd.N_drewN | apply Kd.N_drew)); exact HO155.out) (Kd.R_base ho0) hb); have n1_ := Aside0.mk (Kd.N_elder' (by (with_reducible repeat (first | apply Kd.N_alloc | apply Kd.N_drewN | apply Kd.N_drew)); exact HO157.out) (Kd.R_base ho0) hb); have n2_ := Aside0.mk (Kd.R_elder' (by (with_reducible repeat (first | apply Kd.R_alloc | apply Kd.R_drewN | apply Kd.R_drew)); exact HO159.out) (Kd.R_base ho0) hb); have n3_ := Aside0.mk (Kd.R_lower (Kd.R_new' ho0 (Kd.R_lt (by (with_reducible repeat (first | apply Kd.R_alloc | apply Kd.R_drewN | apply Kd.R_drew)); exact HO159.out))) (below_size (by repeat (first | (with_reducible first | exact HB.out | apply below_alloc | apply pw_below_drewN | apply below_drew1) | exact HB.out)))); have n4_ := Aside0.mk (below_step (by repeat (first | (with_reducible first | exact HB.out | apply below_alloc | apply pw_below_drewN | apply below_drew1) | exact HB.out)) hb); clear HO155; clear HO157; clear HO159; clear HB; have HO155 := n0_; have HO157 := n1_; have HO159 := n2_; have HO161 := n3_; have HB := n4_; clear n0_ n1_ n2_ n3_ n4_; (try clear hb); (try clear hb2); (try clear hk); (try clear hi); (try clear ho0); obtain ⟨Ao26, co26, eo26⟩ := Kd.R_slice HO161.out; subst eo26) | ((with_reducible refine gate_dst (N := 29) rfl ?_); (try (refine gate_guard (by rfl) ?_; dsimp only)); refine Kd.N_lit k27 _ 27 ?hg (N' := 29) ?hd (xs := ([(⟨(⟨#[65, 45, 49]⟩ : ByteArray), 1, [(⟨0, 300⟩ : S46), (⟨500, 400⟩ : S46), (⟨1000, 300⟩ : S46)], 500⟩ : S27)] : List (S27))) (inner := [.string (⟨#[65, 45, 49]⟩ : ByteArray), .int .i64 1, .slice Ao26 [(⟨0, 300⟩ : S46), (⟨500, 400⟩ : S46), (⟨1000, 300⟩ : S46)].length co26, .int .i64 500]) (ok := (fun k_ => some k_ ≠ (.slice Ao19 y153.length co19 : Value).ownBlock ∧ some k_ ≠ (v156 : Value).ownBlock ∧ some k_ ≠ (.slice Ao23 [(⟨0, 300⟩ : S46), (⟨500, 400⟩ : S46), (⟨1000, 300⟩ : S46)].length co23 : Value).ownBlock)) (okp := (fun k_ => some k_ ≠ (.slice Ao19 y153.length co19 : Value).ownBlock ∧ some k_ ≠ (v156 : Value).ownBlock ∧ some k_ ≠ (.slice Ao23 [(⟨0, 300⟩ : S46), (⟨500, 400⟩ : S46), (⟨1000, 300⟩ : S46)].length co23 : Value).ownBlock)) ?hr ?hp (fun _ hk => hk) ((show ∀ k_, w25.heap.size ≤ k_ → (fun k_ => some k_ ≠ (.slice Ao19 y153.length co19 : Value).ownBlock ∧ some k_ ≠ (v156 : Value).ownBlock ∧ some k_ ≠ (.slice Ao23 [(⟨0, 300⟩ : S46), (⟨500, 400⟩ : S46), (⟨1000, 300⟩ : S46)].length co23 : Value).ownBlock) k_ from fun k_ hk => ⟨Kd.fresh' (Kd.N_lt (by (with_reducible repeat (first | apply Kd.N_alloc | apply Kd.N_drewN | apply Kd.N_drew)); exact HO155.out)) k_ hk, Kd.fresh' (Kd.N_lt (by (with_reducible repeat (first | apply Kd.N_alloc | apply Kd.N_drewN | apply Kd.N_drew)); exact HO157.out)) k_ hk, Kd.fresh' (Kd.R_lt (by (with_reducible repeat (first | apply Kd.R_alloc | apply Kd.R_drewN | apply Kd.R_drew)); exact HO159.out)) k_ hk⟩) _ (Nat.le_refl _)) (Below.refl _ _) (Nat.le_refl _) (by simp) ?_; (case hd => rfl); (case hg => rfl); (case hr => first | (go_simp; done) | (go_simp; rfl)); (case hp => exact (Reps.c4 (show Kd.FK k27 _ _ (⟨(⟨#[65, 45, 49]⟩ : ByteArray), 1, [(⟨0, 300⟩ : S46), (⟨500, 400⟩ : S46), (⟨1000, 300⟩ : S46)], 500⟩ : S27) [.string (⟨#[65, 45, 49]⟩ : ByteArray), .int .i64 1, .slice Ao26 [(⟨0, 300⟩ : S46), (⟨500, 400⟩ : S46), (⟨1000, 300⟩ : S46)].length co26, .int .i64 500] from (k27_mkF _ _ (⟨(⟨#[65, 45, 49]⟩ : ByteArray), 1, [(⟨0, 300⟩ : S46), (⟨500, 400⟩ : S46), (⟨1000, 300⟩ : S46)], 500⟩ : S27) (Kd.R_reads' (Kd.R_mono (ok' := (fun k_ => some k_ ≠ (.slice Ao19 y153.length co19 : Value).ownBlock ∧ some k_ ≠ (v156 : Value).ownBlock ∧ some k_ ≠ (.slice Ao23 [(⟨0, 300⟩ : S46), (⟨500, 400⟩ : S46), (⟨1000, 300⟩ : S46)].length co23 : Value).ownBlock)) (Kd.R_apart' (Kd.R_apart' (HO161.out) (Kd.N_typed HO155.out) (by decide)) (Kd.N_typed HO157.out) (by decide)) (fun k_ hk => ⟨hk.1.2, ⟨hk.2, hk.1.1.2⟩⟩))).2.1 (Kd.R_F (Kd.R_mono (ok' := (fun k_ => some k_ ≠ (.slice Ao19 y153.length co19 : Value).ownBlock ∧ some k_ ≠ (v156 : Value).ownBlock ∧ some k_ ≠ (.slice Ao23 [(⟨0, 300⟩ : S46), (⟨500, 400⟩ : S46), (⟨1000, 300⟩ : S46)].length co23 : Value).ownBlock)) (Kd.R_apart' (Kd.R_apart' (HO161.out) (Kd.N_typed HO155.out) (by decide)) (Kd.N_typed HO157.out) (by decide)) (fun k_ hk => ⟨hk.1.2, ⟨hk.2, hk.1.1.2⟩⟩))))) (Reps.none _ _))); intro v163 w27 ho28 hb hg_ hnew_; clear hg_ hnew_; (first | rw [← Ny162.out] at ho28 | (simp only [Int.reduceToNat] at ho28; rw [← Ny162.out] at ho28)); have n0_ := Aside0.mk (Kd.N_elder' (by (with_reducible repeat (first | apply Kd.N_alloc | apply Kd.N_drewN | apply Kd.N_drew)); exact HO155.out) (Kd.N_base ho28) hb); have n1_ := Aside0.mk (Kd.N_elder' (by (with_reducible repeat (first | apply Kd.N_alloc | apply Kd.N_drewN | apply Kd.N_drew)); exact HO157.out) (Kd.N_base ho28) hb); have n2_ := Aside0.mk (Kd.R_below (by (with_reducible repeat (first | apply Kd.R_alloc | apply Kd.R_drewN | apply Kd.R_drew)); exact HO159.out) hb); have n3_ := Aside0.mk (Kd.N_lower ho28 (below_size (by repeat (first | (with_reducible first | exact HB.out | apply below_alloc | apply pw_below_drewN | apply below_drew1) | exact HB.out)))); have n4_ := Aside0.mk (below_step (by repeat (first | (with_reducible first | exact HB.out | apply below_alloc | apply pw_below_drewN | apply below_drew1) | exact HB.out)) hb); clear HO155; clear HO157; clear HO159; clear HB; clear HO161; have HO155 := n0_; have HO157 := n1_; have HO159 := n2_; have HO164 := n3_; have HB := n4_; clear n0_ n1_ n2_ n3_ n4_; clear hb ho28; obtain ⟨Ao29, co29, eo29⟩ := Kd.N_slice HO164.out; subst eo29) | ((with_reducible refine gate_callee (f := 12) rfl ?_); refine goesL_ (some 30) rfl rfl Tryd.func12 (by kernel_rfl) rfl #[.slice Ao29 y162.length co29, .string (⟨#[65, 45, 49]⟩ : ByteArray)] rfl (by (try simp only [List.map_toArray, List.map_cons, List.map_nil]); first | done | rfl | (simp only [List.length_drop, List.length_take]; rfl)) ?_; (with_reducible refine (cask_Find.calls 400 _ _ y162 (⟨#[65, 45, 49]⟩ : ByteArray) (⟨#[65, 45, 49]⟩ : ByteArray) 1 [(⟨0, 300⟩ : S46), (⟨500, 400⟩ : S46), (⟨1000, 300⟩ : S46)] 500 0 _ ?side1 ?side2 A7.out).mono ?_); (case side1 => repeat (first | exact (Kd.N_reads' HO164.out).2.2 | (with_reducible refine Kd.C_alloc ?_ _) | (with_reducible refine Kd.C_drewN ?_ _) | (with_reducible refine Kd.C_drew ?_))); (case side2 => exact (Kd.N_reads' HO164.out).2.1); rintro e w30 ⟨v165, rfl, ho0, hb⟩; refine ⟨_, rfl, ?_⟩; have n0_ := Aside0.mk (Kd.N_elder' (by (with_reducible repeat (first | apply Kd.N_alloc | apply Kd.N_drewN | apply Kd.N_drew)); exact HO155.out) (Kd.R_base ho0) hb); have n1_ := Aside0.mk (Kd.N_elder' (by (with_reducible repeat (first | apply Kd.N_alloc | apply Kd.N_drewN | apply Kd.N_drew)); exact HO157.out) (Kd.R_base ho0) hb); have n2_ := Aside0.mk (Kd.R_elder' (by (with_reducible repeat (first | apply Kd.R_alloc | apply Kd.R_drewN | apply Kd.R_drew)); exact HO159.out) (Kd.R_base ho0) hb); have n3_ := Aside0.mk (Kd.N_elder' (by (with_reducible repeat (first | apply Kd.N_alloc | apply Kd.N_drewN | apply Kd.N_drew)); exact HO164.out) (Kd.R_base ho0) hb); have n4_ := Aside0.mk (Kd.R_lower (Kd.R_new' ho0 (Kd.R_lt (by (with_reducible repeat (first | apply Kd.R_alloc | apply Kd.R_drewN | apply Kd.R_drew)); exact HO159.out))) (below_size (by repeat (first | (with_reducible first | exact HB.out | apply below_alloc | apply pw_below_drewN | apply below_drew1) | exact HB.out)))); have n5_ := Aside0.mk (below_step (by repeat (first | (with_reducible first | exact HB.out | apply below_alloc | apply pw_below_drewN | apply below_drew1) | exact HB.out)) hb); clear HO155; clear HO157; clear HO159; clear HO164; clear HB; have HO155 := n0_; have HO157 := n1_; have HO159 := n2_; have HO164 := n3_; have HO166 := n4_; have HB := n5_; clear n0_ n1_ n2_ n3_ n4_ n5_; (try clear hb); (try clear hb2); (try clear hk); (try clear hi); (try clear ho0)) | ((with_reducible refine gate_dst (N := 8) rfl ?_); (try (refine gate_guard (by rfl) ?_; dsimp only)); refine box_event ?hg (N := 8) ?hd (cs := #[.string (⟨#[]⟩ : ByteArray), .int .i64 0, .slice none 0 0, .int .i64 0]) (t := 27) ?hr ?_; (case hd => rfl); (case hg => rfl); (case hr => first | (go_simp; done) | (go_simp; rfl)); intro gb167 hg w31 hbox hb; have n0_ := Aside0.mk (Kd.N_below (Kd.N_elderB (by (with_reducible repeat (first | apply Kd.N_alloc | apply Kd.N_drewN | apply Kd.N_drew)); exact HO155.out) gb167 (Nat.le_of_eq hg.symm)) hb); have n1_ := Aside0.mk (Kd.N_below (Kd.N_elderB (by (with_reducible repeat (first | apply Kd.N_alloc | apply Kd.N_drewN | apply Kd.N_drew)); exact HO157.out) gb167 (Nat.le_of_eq hg.symm)) hb); have n2_ := Aside0.mk (Kd.R_below (by (with_reducible repeat (first | apply Kd.R_alloc | apply Kd.R_drewN | apply Kd.R_drew)); exact HO159.out) hb); have n3_ := Aside0.mk (Kd.N_below (Kd.N_elderB (by (with_reducible repeat (first | apply Kd.N_alloc | apply Kd.N_drewN | apply Kd.N_drew)); exact HO164.out) gb167 (Nat.le_of_eq hg.symm)) hb); have n4_ := Aside0.mk (Kd.R_below (by (with_reducible repeat (first | apply Kd.R_alloc | apply Kd.R_drewN | apply Kd.R_drew)); exact HO166.out) hb); have n5_ := Aside0.mk (below_step (by repeat (first | (with_reducible first | exact HB.out | apply below_alloc | apply pw_below_drewN | apply below_drew1) | exact HB.out)) hb); have n6_ := Aside0.mk (hbox); have n7_ := Aside0.mk ((by rw [hg]; exact (below_size (by repeat (first | (with_reducible first | exact HB.out | apply below_alloc | apply pw_below_drewN | apply below_drew1) | exact HB.out))) : w.heap.size ≤ gb167)); have n8_ := Aside0.mk ((by rw [hg]; exact (below_size (by repeat (first | (with_reducible first | exact HB.out | apply below_alloc | apply pw_below_drewN | apply below_drew1) | exact HB.out))) : w.heap.size ≤ gb167)); clear HO155; clear HO157; clear HO159; clear HO164; clear HO166; clear HB; have HO155 := n0_; have HO157 := n1_; have HO159 := n2_; have HO164 := n3_; have HO166 := n4_; have HB := n5_; have BK167 := n6_; have GW167 := n7_; have GE167 := n8_; clear n0_ n1_ n2_ n3_ n4_ n5_ n6_ n7_ n8_; clear hb hbox hg; have hcz32_0 : w31.cell? ⟨gb167, 0, none⟩ = some (.string (⟨#[]⟩ : ByteArray)) := (blk_cell BK167.out 0).trans rfl; have hcz32_1 : w31.cell? ⟨gb167, 1, none⟩ = some (.int .i64 0) := (blk_cell BK167.out 1).trans rfl; have hcz32_2 : w31.cell? ⟨gb167, 2, none⟩ = some (.slice none 0 0) := (blk_cell BK167.out 2).trans rfl; have hcz32_3 : w31.cell? ⟨gb167, 3, none⟩ = some (.int .i64 0) := (blk_cell BK167.out 3).trans rfl; have hfz32_0 := blk_frozen BK167.out 0; have hfz32_1 := blk_frozen BK167.out 1; have hfz32_2 := blk_frozen BK167.out 2; have hfz32_3 := blk_frozen BK167.out 3; obtain ⟨Ao33, co33, eo33⟩ := Kd.R_slice HO166.out; subst eo33))
 have n0_ : Aside0 (Kd.N k27 27 ((((w31.setCell ⟨gb167, 0, none⟩ (.string (⟨#[65, 45, 49]⟩ : ByteArray))).setCell ⟨gb167, 1, none⟩ (.int .i64 1)).setCell ⟨gb167, 2, none⟩ (.slice Ao33 [(⟨0, 300⟩ : S46), (⟨500, 400⟩ : S46), (⟨1000, 300⟩ : S46)].length co33)).setCell ⟨gb167, 3, none⟩ (.int .i64 500)) w.heap.size (fun k_ => some k_ ≠ (v156 : Value).ownBlock ∧ some k_ ≠ (.slice Ao23 [(⟨0, 300⟩ : S46), (⟨500, 400⟩ : S46), (⟨1000, 300⟩ : S46)].length co23 : Value).ownBlock ∧ some k_ ≠ (.slice Ao29 y162.length co29 : Value).ownBlock ∧ some k_ ≠ (.slice Ao33 [(⟨0, 300⟩ : S46), (⟨500, 400⟩ : S46), (⟨1000, 300⟩ : S46)].length co33 : Value).ownBlock ∧ k_ ≠ gb167) (.slice Ao19 y153.length co19) y153) := ⟨by (with_reducible repeat (first | apply Kd.N_alloc | apply Kd.N_drewN | apply Kd.N_drew)); exact Kd.N_mono (Kd.N_far (p := ⟨gb167, 3, none⟩) (Kd.N_far (p := ⟨gb167, 2, none⟩) (Kd.N_far (p := ⟨gb167, 1, none⟩) (Kd.N_far (p := ⟨gb167, 0, none⟩) (Kd.N_mono HO155.out (fun k_ hk => (⟨hk, hk.2⟩ : _ ∧ k_ ≠ gb167))) (fun _ hk => hk.2) (.string (⟨#[65, 45, 49]⟩ : ByteArray))) (fun _ hk => hk.2) (.int .i64 1)) (fun _ hk => hk.2) (.slice Ao33 [(⟨0, 300⟩ : S46), (⟨500, 400⟩ : S46), (⟨1000, 300⟩ : S46)].length co33)) (fun _ hk => hk.2) (.int .i64 500)) (fun _ hk => ⟨hk.1.1.1.1.1.1.2, ⟨hk.1.1.1.1.1.2, ⟨hk.1.1.1.2, ⟨hk.1.1.2, hk.1.2⟩⟩⟩⟩)⟩; have n1_ : Aside0 (Kd.N k27 27 ((((w31.setCell ⟨gb167, 0, none⟩ (.string (⟨#[65, 45, 49]⟩ : ByteArray))).setCell ⟨gb167, 1, none⟩ (.int .i64 1)).setCell ⟨gb167, 2, none⟩ (.slice Ao33 [(⟨0, 300⟩ : S46), (⟨500, 400⟩ : S46), (⟨1000, 300⟩ : S46)].length co33)).setCell ⟨gb167, 3, none⟩ (.int .i64 500)) w.heap.size (fun k_ => some k_ ≠ (.slice Ao19 y153.length co19 : Value).ownBlock ∧ some k_ ≠ (.slice Ao23 [(⟨0, 300⟩ : S46), (⟨500, 400⟩ : S46), (⟨1000, 300⟩ : S46)].length co23 : Value).ownBlock ∧ some k_ ≠ (.slice Ao29 y162.length co29 : Value).ownBlock ∧ some k_ ≠ (.slice Ao33 [(⟨0, 300⟩ : S46), (⟨500, 400⟩ : S46), (⟨1000, 300⟩ : S46)].length co33 : Value).ownBlock ∧ k_ ≠ gb167) v156 [(⟨(⟨#[65, 45, 49]⟩ : ByteArray), 1, [(⟨0, 300⟩ : S46), (⟨500, 400⟩ : S46), (⟨1000, 300⟩ : S46)], 500⟩ : S27)]) := ⟨by (with_reducible repeat (first | apply Kd.N_alloc | apply Kd.N_drewN | apply Kd.N_drew)); exact Kd.N_mono (Kd.N_far (p := ⟨gb167, 3, none⟩) (Kd.N_far (p := ⟨gb167, 2, none⟩) (Kd.N_far (p := ⟨gb167, 1, none⟩) (Kd.N_far (p := ⟨gb167, 0, none⟩) (Kd.N_mono HO157.out (fun k_ hk => (⟨hk, hk.2⟩ : _ ∧ k_ ≠ gb167))) (fun _ hk => hk.2) (.string (⟨#[65, 45, 49]⟩ : ByteArray))) (fun _ hk => hk.2) (.int .i64 1)) (fun _ hk => hk.2) (.slice Ao33 [(⟨0, 300⟩ : S46), (⟨500, 400⟩ : S46), (⟨1000, 300⟩ : S46)].length co33)) (fun _ hk => hk.2) (.int .i64 500)) (fun _ hk => ⟨hk.1.1.1.1.1.1, ⟨hk.1.1.1.1.1.2, ⟨hk.1.1.1.2, ⟨hk.1.1.2, hk.1.2⟩⟩⟩⟩)⟩; have n2_ : Aside0 (Kd.R k46 46 ((((w31.setCell ⟨gb167, 0, none⟩ (.string (⟨#[65, 45, 49]⟩ : ByteArray))).setCell ⟨gb167, 1, none⟩ (.int .i64 1)).setCell ⟨gb167, 2, none⟩ (.slice Ao33 [(⟨0, 300⟩ : S46), (⟨500, 400⟩ : S46), (⟨1000, 300⟩ : S46)].length co33)).setCell ⟨gb167, 3, none⟩ (.int .i64 500)) w.heap.size (fun k_ => some k_ ≠ (.slice Ao33 [(⟨0, 300⟩ : S46), (⟨500, 400⟩ : S46), (⟨1000, 300⟩ : S46)].length co33 : Value).ownBlock) (.slice Ao23 [(⟨0, 300⟩ : S46), (⟨500, 400⟩ : S46), (⟨1000, 300⟩ : S46)].length co23) [(⟨0, 300⟩ : S46), (⟨500, 400⟩ : S46), (⟨1000, 300⟩ : S46)]) := ⟨by (with_reducible repeat (first | apply Kd.R_alloc | apply Kd.R_drewN | apply Kd.R_drew)); exact Kd.R_mono (Kd.R_far (p := ⟨gb167, 3, none⟩) (Kd.R_far (p := ⟨gb167, 2, none⟩) (Kd.R_far (p := ⟨gb167, 1, none⟩) (Kd.R_far (p := ⟨gb167, 0, none⟩) (Kd.R_types HO159.out BK167.out (by decide)) (fun _ hk => hk.2) (.string (⟨#[65, 45, 49]⟩ : ByteArray))) (fun _ hk => hk.2) (.int .i64 1)) (fun _ hk => hk.2) (.slice Ao33 [(⟨0, 300⟩ : S46), (⟨500, 400⟩ : S46), (⟨1000, 300⟩ : S46)].length co33)) (fun _ hk => hk.2) (.int .i64 500)) (fun _ hk => hk.1.2)⟩; have n3_ : Aside0 (Kd.N k27 27 ((((w31.setCell ⟨gb167, 0, none⟩ (.string (⟨#[65, 45, 49]⟩ : ByteArray))).setCell ⟨gb167, 1, none⟩ (.int .i64 1)).setCell ⟨gb167, 2, none⟩ (.slice Ao33 [(⟨0, 300⟩ : S46), (⟨500, 400⟩ : S46), (⟨1000, 300⟩ : S46)].length co33)).setCell ⟨gb167, 3, none⟩ (.int .i64 500)) w.heap.size (fun k_ => some k_ ≠ (.slice Ao19 y153.length co19 : Value).ownBlock ∧ some k_ ≠ (v156 : Value).ownBlock ∧ some k_ ≠ (.slice Ao23 [(⟨0, 300⟩ : S46), (⟨500, 400⟩ : S46), (⟨1000, 300⟩ : S46)].length co23 : Value).ownBlock ∧ some k_ ≠ (.slice Ao33 [(⟨0, 300⟩ : S46), (⟨500, 400⟩ : S46), (⟨1000, 300⟩ : S46)].length co33 : Value).ownBlock ∧ k_ ≠ gb167) (.slice Ao29 y162.length co29) y162) := ⟨by (with_reducible repeat (first | apply Kd.N_alloc | apply Kd.N_drewN | apply Kd.N_drew)); exact Kd.N_mono (Kd.N_far (p := ⟨gb167, 3, none⟩) (Kd.N_far (p := ⟨gb167, 2, none⟩) (Kd.N_far (p := ⟨gb167, 1, none⟩) (Kd.N_far (p := ⟨gb167, 0, none⟩) (Kd.N_mono HO164.out (fun k_ hk => (⟨hk, hk.2⟩ : _ ∧ k_ ≠ gb167))) (fun _ hk => hk.2) (.string (⟨#[65, 45, 49]⟩ : ByteArray))) (fun _ hk => hk.2) (.int .i64 1)) (fun _ hk => hk.2) (.slice Ao33 [(⟨0, 300⟩ : S46), (⟨500, 400⟩ : S46), (⟨1000, 300⟩ : S46)].length co33)) (fun _ hk => hk.2) (.int .i64 500)) (fun _ hk => ⟨hk.1.1.1.1, ⟨hk.1.1.1.2.1, ⟨hk.1.1.1.2.2, ⟨hk.1.1.2, hk.1.2⟩⟩⟩⟩)⟩; have n4_ : Aside0 (Kd.R k46 46 ((((w31.setCell ⟨gb167, 0, none⟩ (.string (⟨#[65, 45, 49]⟩ : ByteArray))).setCell ⟨gb167, 1, none⟩ (.int .i64 1)).setCell ⟨gb167, 2, none⟩ (.slice Ao33 [(⟨0, 300⟩ : S46), (⟨500, 400⟩ : S46), (⟨1000, 300⟩ : S46)].length co33)).setCell ⟨gb167, 3, none⟩ (.int .i64 500)) w.heap.size (fun k_ => some k_ ≠ (.slice Ao23 [(⟨0, 300⟩ : S46), (⟨500, 400⟩ : S46), (⟨1000, 300⟩ : S46)].length co23 : Value).ownBlock) (.slice Ao33 [(⟨0, 300⟩ : S46), (⟨500, 400⟩ : S46), (⟨1000, 300⟩ : S46)].length co33) [(⟨0, 300⟩ : S46), (⟨500, 400⟩ : S46), (⟨1000, 300⟩ : S46)]) := ⟨by (with_reducible repeat (first | apply Kd.R_alloc | apply Kd.R_drewN | apply Kd.R_drew)); exact Kd.R_mono (Kd.R_far (p := ⟨gb167, 3, none⟩) (Kd.R_far (p := ⟨gb167, 2, none⟩) (Kd.R_far (p := ⟨gb167, 1, none⟩) (Kd.R_far (p := ⟨gb167, 0, none⟩) (Kd.R_types HO166.out BK167.out (by decide)) (fun _ hk => hk.2) (.string (⟨#[65, 45, 49]⟩ : ByteArray))) (fun _ hk => hk.2) (.int .i64 1)) (fun _ hk => hk.2) (.slice Ao33 [(⟨0, 300⟩ : S46), (⟨500, 400⟩ : S46), (⟨1000, 300⟩ : S46)].length co33)) (fun _ hk => hk.2) (.int .i64 500)) (fun _ hk => hk.1.2)⟩; have n5_ : Aside0 (((((w31.setCell ⟨gb167, 0, none⟩ (.string (⟨#[65, 45, 49]⟩ : ByteArray))).setCell ⟨gb167, 1, none⟩ (.int .i64 1)).setCell ⟨gb167, 2, none⟩ (.slice Ao33 [(⟨0, 300⟩ : S46), (⟨500, 400⟩ : S46), (⟨1000, 300⟩ : S46)].length co33)).setCell ⟨gb167, 3, none⟩ (.int .i64 500)).heap[gb167]? = some (.cells #[.string (⟨#[65, 45, 49]⟩ : ByteArray), .int .i64 1, .slice Ao33 [(⟨0, 300⟩ : S46), (⟨500, 400⟩ : S46), (⟨1000, 300⟩ : S46)].length co33, .int .i64 500] 27 (0, 0))) := ⟨by (with_reducible repeat (first | refine blk_drewN ?_ _ | refine blk_drew ?_ | refine blk_alloc ?_ _)); refine blk_put (cs := #[.string (⟨#[65, 45, 49]⟩ : ByteArray), .int .i64 1, .slice Ao33 [(⟨0, 300⟩ : S46), (⟨500, 400⟩ : S46), (⟨1000, 300⟩ : S46)].length co33, .int .i64 0]) ?_ 3 _ rfl; (with_reducible repeat (first | refine blk_drewN ?_ _ | refine blk_drew ?_ | refine blk_alloc ?_ _)); refine blk_put (cs := #[.string (⟨#[65, 45, 49]⟩ : ByteArray), .int .i64 1, .slice none 0 0, .int .i64 0]) ?_ 2 _ rfl; (with_reducible repeat (first | refine blk_drewN ?_ _ | refine blk_drew ?_ | refine blk_alloc ?_ _)); refine blk_put (cs := #[.string (⟨#[65, 45, 49]⟩ : ByteArray), .int .i64 0, .slice none 0 0, .int .i64 0]) ?_ 1 _ rfl; (with_reducible repeat (first | refine blk_drewN ?_ _ | refine blk_drew ?_ | refine blk_alloc ?_ _)); refine blk_put (cs := #[.string (⟨#[]⟩ : ByteArray), .int .i64 0, .slice none 0 0, .int .i64 0]) ?_ 0 _ rfl; (with_reducible repeat (first | refine blk_drewN ?_ _ | refine blk_drew ?_ | refine blk_alloc ?_ _)); exact BK167.out⟩; have n6_ : Aside0 (Below w.heap.size w ((((w31.setCell ⟨gb167, 0, none⟩ (.string (⟨#[65, 45, 49]⟩ : ByteArray))).setCell ⟨gb167, 1, none⟩ (.int .i64 1)).setCell ⟨gb167, 2, none⟩ (.slice Ao33 [(⟨0, 300⟩ : S46), (⟨500, 400⟩ : S46), (⟨1000, 300⟩ : S46)].length co33)).setCell ⟨gb167, 3, none⟩ (.int .i64 500))) := ⟨by repeat (first | (with_reducible first | exact HB.out | apply below_alloc | apply pw_below_drewN | apply below_drew1 | refine below_set ?_ GE167.out) | exact HB.out)⟩; (try clear HO155)
 (try clear HO157)
 (try clear HO159)
 (try clear HO164)
 (try clear HO166)
 (try clear BK167)
 (try clear HB)
 generalize ((((w31.setCell ⟨gb167, 0, none⟩ (.string (⟨#[65, 45, 49]⟩ : ByteArray))).setCell ⟨gb167, 1, none⟩ (.int .i64 1)).setCell ⟨gb167, 2, none⟩ (.slice Ao33 [(⟨0, 300⟩ : S46), (⟨500, 400⟩ : S46), (⟨1000, 300⟩ : S46)].length co33)).setCell ⟨gb167, 3, none⟩ (.int .i64 500)) = w34 at n0_ n1_ n2_ n3_ n4_ n5_ n6_ ⊢; have HO155 := n0_; have HO157 := n1_; have HO159 := n2_; have HO164 := n3_; have HO166 := n4_; have BK167 := n5_; have HB := n6_; clear n0_ n1_ n2_ n3_ n4_ n5_ n6_; have n0_ := Aside0.mk (Kd.N_drew HO155.out); have n1_ := Aside0.mk (Kd.N_drew HO157.out); have n2_ := Aside0.mk (Kd.R_drew HO159.out); have n3_ := Aside0.mk (Kd.N_drew HO164.out); have n4_ := Aside0.mk (Kd.R_drew HO166.out); have n5_ := Aside0.mk (blk_drew BK167.out); have n6_ := Aside0.mk (below_drew1 HB.out); clear HO155; clear HO157; clear HO159; clear HO164; clear HO166; clear BK167; clear HB; have HO155 := n0_; have HO157 := n1_; have HO159 := n2_; have HO164 := n3_; have HO166 := n4_; have BK167 := n5_; have HB := n6_; clear n0_ n1_ n2_ n3_ n4_ n5_ n6_; refine start_ (n := 48) (S := fun w' => w'.cell? ⟨gb167, 0, none⟩ = some (.string (⟨#[65, 45, 49]⟩ : ByteArray)) ∧ w'.cell? ⟨gb167, 1, none⟩ = some (.int .i64 1) ∧ w'.cell? ⟨gb167, 2, none⟩ = some (.slice Ao33 [(⟨0, 300⟩ : S46), (⟨500, 400⟩ : S46), (⟨1000, 300⟩ : S46)].length co33) ∧ w'.cell? ⟨gb167, 3, none⟩ = some (.int .i64 500)) (ds := []) #[false, false, false, false, false, false, false, false, false, false, false, false, false, false, false, false, false, false, false, false, false, false, false, false, false, false, false, false, false, false, false, false, false, false, false, false, false, false, false, false, false, false, false, false, false, false, false, false] (by kernel_rfl) rfl rfl ⟨(blk_cell BK167.out 0).trans rfl, (blk_cell BK167.out 1).trans rfl, (blk_cell BK167.out 2).trans rfl, (blk_cell BK167.out 3).trans rfl⟩ (fun hHeld => ?_); refine with_tabW spilelaw09_awake.tab5 spilelaw09_awake.bits5 (fun HT_ HW_ => ?_)
 generalize w34.drew = w35 at HO155 HO157 HO159 HO164 HO166 BK167 HB hHeld ⊢; refine pure_ (i := 0) (N := some 33) (v := ?_) (a' := ?_) #[true, false, false, false, false, false, false, false, false, false, false, false, false, false, false, false, false, false, false, false, false, false, false, false, false, false, false, false, false, false, false, false, false, false, false, false, false, false, false, false, false, false, false, false, false, false, false, false] rfl rfl (any_of HT_.out (by kernel_rfl)) (fun _ _ _ h => h) (Or.inl ⟨by rfl, ?_⟩) ?_ ?_; rotate_left
 · intro w'; go_simp; with_reducible rfl
 rotate_left
 · simp only [Act.put, sIA, sC0, sCS, i64_w, i32_w]; rfl
 refine pure_ (i := 1) (N := some 34) (v := ?_) (a' := ?_) #[true, true, false, false, false, false, false, false, false, false, false, false, false, false, false, false, false, false, false, false, false, false, false, false, false, false, false, false, false, false, false, false, false, false, false, false, false, false, false, false, false, false, false, false, false, false, false, false] rfl rfl (any_of HT_.out (by kernel_rfl)) (fun _ _ _ h => h) (Or.inl ⟨by rfl, ?_⟩) ?_ ?_; rotate_left
 · intro w'; go_simp; with_reducible rfl
 rotate_left
 · simp only [Act.put, sIA, sC0, sCS, i64_w, i32_w]; rfl
 refine pure_ (i := 2) (N := some 35) (v := ?_) (a' := ?_) #[true, true, true, false, false, false, false, false, false, false, false, false, false, false, false, false, false, false, false, false, false, false, false, false, false, false, false, false, false, false, false, false, false, false, false, false, false, false, false, false, false, false, false, false, false, false, false, false] rfl rfl (any_of HT_.out (by kernel_rfl)) (fun _ _ _ h => h) (Or.inl ⟨by rfl, ?_⟩) ?_ ?_; rotate_left
 · intro w'; go_simp; with_reducible rfl
 rotate_left
 · simp only [Act.put, sIA, sC0, sCS, i64_w, i32_w]; rfl
 refine pure_ (i := 3) (N := some 36) (v := ?_) (a' := ?_) #[true, true, true, true, false, false, false, false, false, false, false, false, false, false, false, false, false, false, false, false, false, false, false, false, false, false, false, false, false, false, false, false, false, false, false, false, false, false, false, false, false, false, false, false, false, false, false, false] rfl rfl (any_of HT_.out (by kernel_rfl)) (fun _ _ _ h => h) (Or.inl ⟨by rfl, ?_⟩) ?_ ?_; rotate_left
 · intro w'; go_simp; with_reducible rfl
 rotate_left
 · simp only [Act.put, sIA, sC0, sCS, i64_w, i32_w]; rfl
 refine pure_ (i := 4) (N := some 37) (v := ?_) (a' := ?_) #[true, true, true, true, true, false, false, false, false, false, false, false, false, false, false, false, false, false, false, false, false, false, false, false, false, false, false, false, false, false, false, false, false, false, false, false, false, false, false, false, false, false, false, false, false, false, false, false] rfl rfl (any_of HT_.out (by kernel_rfl)) (fun _ _ _ h => h) (Or.inl ⟨by rfl, ?_⟩) ?_ ?_; rotate_left
 · intro w'; go_simp; with_reducible rfl
 rotate_left
 · simp only [Act.put, sIA, sC0, sCS, i64_w, i32_w]; rfl
 refine pure_ (i := 5) (N := some 38) (v := ?_) (a' := ?_) #[true, true, true, true, true, true, false, false, false, false, false, false, false, false, false, false, false, false, false, false, false, false, false, false, false, false, false, false, false, false, false, false, false, false, false, false, false, false, false, false, false, false, false, false, false, false, false, false] rfl rfl (any_of HT_.out (by kernel_rfl)) (fun _ _ _ h => h) (Or.inl ⟨by rfl, ?_⟩) ?_ ?_; rotate_left
 · intro w'; go_simp; with_reducible rfl
 rotate_left
 · simp only [Act.put, sIA, sC0, sCS, i64_w, i32_w]; rfl
 refine pure_ (i := 6) (N := some 39) (v := ?_) (a' := ?_) #[true, true, true, true, true, true, true, false, false, false, false, false, false, false, false, false, false, false, false, false, false, false, false, false, false, false, false, false, false, false, false, false, false, false, false, false, false, false, false, false, false, false, false, false, false, false, false, false] rfl rfl (any_of HT_.out (by kernel_rfl)) (fun _ _ _ h => h) (Or.inl ⟨by rfl, ?_⟩) ?_ ?_; rotate_left
 · intro w'; go_simp; with_reducible rfl
 rotate_left
 · simp only [Act.put, sIA, sC0, sCS, i64_w, i32_w]; rfl
 refine pure_ (i := 7) (N := some 40) (v := ?_) (a' := ?_) #[true, true, true, true, true, true, true, true, false, false, false, false, false, false, false, false, false, false, false, false, false, false, false, false, false, false, false, false, false, false, false, false, false, false, false, false, false, false, false, false, false, false, false, false, false, false, false, false] rfl rfl (any_of HT_.out (by kernel_rfl)) (fun _ _ _ h => h) (Or.inl ⟨by rfl, ?_⟩) ?_ ?_; rotate_left
 · intro w'; go_simp; with_reducible rfl
 rotate_left
 · simp only [Act.put, sIA, sC0, sCS, i64_w, i32_w]; rfl
 refine pure_ (i := 8) (N := some 41) (v := ?_) (a' := ?_) #[true, true, true, true, true, true, true, true, true, false, false, false, false, false, false, false, false, false, false, false, false, false, false, false, false, false, false, false, false, false, false, false, false, false, false, false, false, false, false, false, false, false, false, false, false, false, false, false] rfl rfl (any_of HT_.out (by kernel_rfl)) (fun _ _ _ h => h) (Or.inl ⟨by rfl, ?_⟩) ?_ ?_; rotate_left
 · intro w'; go_simp; with_reducible rfl
 rotate_left
 · simp only [Act.put, sIA, sC0, sCS, i64_w, i32_w]; rfl
 refine pure_ (i := 9) (N := some 42) (v := ?_) (a' := ?_) #[true, true, true, true, true, true, true, true, true, true, false, false, false, false, false, false, false, false, false, false, false, false, false, false, false, false, false, false, false, false, false, false, false, false, false, false, false, false, false, false, false, false, false, false, false, false, false, false] rfl rfl (any_of HT_.out (by kernel_rfl)) (fun _ _ _ h => h) (Or.inl ⟨by rfl, ?_⟩) ?_ ?_; rotate_left
 · intro w'; go_simp; with_reducible rfl
 rotate_left
 · simp only [Act.put, sIA, sC0, sCS, i64_w, i32_w]; rfl
 refine pure_ (i := 10) (N := some 43) (v := ?_) (a' := ?_) #[true, true, true, true, true, true, true, true, true, true, true, false, false, false, false, false, false, false, false, false, false, false, false, false, false, false, false, false, false, false, false, false, false, false, false, false, false, false, false, false, false, false, false, false, false, false, false, false] rfl rfl (any_of HT_.out (by kernel_rfl)) (fun _ _ _ h => h) (Or.inl ⟨by rfl, ?_⟩) ?_ ?_; rotate_left
 · intro w'; go_simp; with_reducible rfl
 rotate_left
 · simp only [Act.put, sIA, sC0, sCS, i64_w, i32_w]; rfl
 refine pure_ (i := 11) (N := some 44) (v := ?_) (a' := ?_) #[true, true, true, true, true, true, true, true, true, true, true, true, false, false, false, false, false, false, false, false, false, false, false, false, false, false, false, false, false, false, false, false, false, false, false, false, false, false, false, false, false, false, false, false, false, false, false, false] rfl rfl (any_of HT_.out (by kernel_rfl)) (fun _ _ _ h => h) (Or.inl ⟨by rfl, ?_⟩) ?_ ?_; rotate_left
 · intro w'; go_simp; with_reducible rfl
 rotate_left
 · simp only [Act.put, sIA, sC0, sCS, i64_w, i32_w]; rfl
 refine pure_ (i := 12) (N := some 45) (v := ?_) (a' := ?_) #[true, true, true, true, true, true, true, true, true, true, true, true, true, false, false, false, false, false, false, false, false, false, false, false, false, false, false, false, false, false, false, false, false, false, false, false, false, false, false, false, false, false, false, false, false, false, false, false] rfl rfl (any_of HT_.out (by kernel_rfl)) (fun _ _ _ h => h) (Or.inl ⟨by rfl, ?_⟩) ?_ ?_; rotate_left
 · intro w'; go_simp; with_reducible rfl
 rotate_left
 · simp only [Act.put, sIA, sC0, sCS, i64_w, i32_w]; rfl
 refine pure_ (i := 13) (N := some 46) (v := ?_) (a' := ?_) #[true, true, true, true, true, true, true, true, true, true, true, true, true, true, false, false, false, false, false, false, false, false, false, false, false, false, false, false, false, false, false, false, false, false, false, false, false, false, false, false, false, false, false, false, false, false, false, false] rfl rfl (any_of HT_.out (by kernel_rfl)) (fun _ _ _ h => h) (Or.inl ⟨by rfl, ?_⟩) ?_ ?_; rotate_left
 · intro w'; go_simp; with_reducible rfl
 rotate_left
 · simp only [Act.put, sIA, sC0, sCS, i64_w, i32_w]; rfl
 refine pure_ (i := 14) (N := some 47) (v := ?_) (a' := ?_) #[true, true, true, true, true, true, true, true, true, true, true, true, true, true, true, false, false, false, false, false, false, false, false, false, false, false, false, false, false, false, false, false, false, false, false, false, false, false, false, false, false, false, false, false, false, false, false, false] rfl rfl (any_of HT_.out (by kernel_rfl)) (fun _ _ _ h => h) (Or.inl ⟨by rfl, ?_⟩) ?_ ?_; rotate_left
 · intro w'; go_simp; with_reducible rfl
 rotate_left
 · simp only [Act.put, sIA, sC0, sCS, i64_w, i32_w]; rfl
 refine pure_ (i := 15) (N := some 48) (v := ?_) (a' := ?_) #[true, true, true, true, true, true, true, true, true, true, true, true, true, true, true, true, false, false, false, false, false, false, false, false, false, false, false, false, false, false, false, false, false, false, false, false, false, false, false, false, false, false, false, false, false, false, false, false] rfl rfl (any_of HT_.out (by kernel_rfl)) (fun _ _ _ h => h) (Or.inl ⟨by rfl, ?_⟩) ?_ ?_; rotate_left
 · intro w'; go_simp; with_reducible rfl
 rotate_left
 · simp only [Act.put, sIA, sC0, sCS, i64_w, i32_w]; rfl
 refine pure_ (i := 16) (N := some 49) (v := ?_) (a' := ?_) #[true, true, true, true, true, true, true, true, true, true, true, true, true, true, true, true, true, false, false, false, false, false, false, false, false, false, false, false, false, false, false, false, false, false, false, false, false, false, false, false, false, false, false, false, false, false, false, false] rfl rfl (any_of HT_.out (by kernel_rfl)) (fun _ _ _ h => h) (Or.inl ⟨by rfl, ?_⟩) ?_ ?_; rotate_left
 · intro w'; go_simp; with_reducible rfl
 rotate_left
 · simp only [Act.put, sIA, sC0, sCS, i64_w, i32_w]; rfl
 refine pure_ (i := 17) (N := some 50) (v := ?_) (a' := ?_) #[true, true, true, true, true, true, true, true, true, true, true, true, true, true, true, true, true, true, false, false, false, false, false, false, false, false, false, false, false, false, false, false, false, false, false, false, false, false, false, false, false, false, false, false, false, false, false, false] rfl rfl (any_of HT_.out (by kernel_rfl)) (fun _ _ _ h => h) (Or.inl ⟨by rfl, ?_⟩) ?_ ?_; rotate_left
 · intro w'; go_simp; with_reducible rfl
 rotate_left
 · simp only [Act.put, sIA, sC0, sCS, i64_w, i32_w]; rfl
 refine pure_ (i := 18) (N := some 51) (v := ?_) (a' := ?_) #[true, true, true, true, true, true, true, true, true, true, true, true, true, true, true, true, true, true, true, false, false, false, false, false, false, false, false, false, false, false, false, false, false, false, false, false, false, false, false, false, false, false, false, false, false, false, false, false] rfl rfl (any_of HT_.out (by kernel_rfl)) (fun _ _ _ h => h) (Or.inl ⟨by rfl, ?_⟩) ?_ ?_; rotate_left
 · intro w'; go_simp; with_reducible rfl
 rotate_left
 · simp only [Act.put, sIA, sC0, sCS, i64_w, i32_w]; rfl
 refine pure_ (i := 19) (N := some 52) (v := ?_) (a' := ?_) #[true, true, true, true, true, true, true, true, true, true, true, true, true, true, true, true, true, true, true, true, false, false, false, false, false, false, false, false, false, false, false, false, false, false, false, false, false, false, false, false, false, false, false, false, false, false, false, false] rfl rfl (any_of HT_.out (by kernel_rfl)) (fun _ _ _ h => h) (Or.inl ⟨by rfl, ?_⟩) ?_ ?_; rotate_left
 · intro w'; go_simp; with_reducible rfl
 rotate_left
 · simp only [Act.put, sIA, sC0, sCS, i64_w, i32_w]; rfl
 refine pure_ (i := 20) (N := some 53) (v := ?_) (a' := ?_) #[true, true, true, true, true, true, true, true, true, true, true, true, true, true, true, true, true, true, true, true, true, false, false, false, false, false, false, false, false, false, false, false, false, false, false, false, false, false, false, false, false, false, false, false, false, false, false, false] rfl rfl (any_of HT_.out (by kernel_rfl)) (fun _ _ _ h => h) (Or.inl ⟨by rfl, ?_⟩) ?_ ?_; rotate_left
 · intro w'; go_simp; with_reducible rfl
 rotate_left
 · simp only [Act.put, sIA, sC0, sCS, i64_w, i32_w]; rfl
 refine pure_ (i := 21) (N := some 54) (v := ?_) (a' := ?_) #[true, true, true, true, true, true, true, true, true, true, true, true, true, true, true, true, true, true, true, true, true, true, false, false, false, false, false, false, false, false, false, false, false, false, false, false, false, false, false, false, false, false, false, false, false, false, false, false] rfl rfl (any_of HT_.out (by kernel_rfl)) (fun _ _ _ h => h) (Or.inl ⟨by rfl, ?_⟩) ?_ ?_; rotate_left
 · intro w'; go_simp; with_reducible rfl
 rotate_left
 · simp only [Act.put, sIA, sC0, sCS, i64_w, i32_w]; rfl
 refine pure_ (i := 22) (N := some 55) (v := ?_) (a' := ?_) #[true, true, true, true, true, true, true, true, true, true, true, true, true, true, true, true, true, true, true, true, true, true, true, false, false, false, false, false, false, false, false, false, false, false, false, false, false, false, false, false, false, false, false, false, false, false, false, false] rfl rfl (any_of HT_.out (by kernel_rfl)) (fun _ _ _ h => h) (Or.inl ⟨by rfl, ?_⟩) ?_ ?_; rotate_left
 · intro w'; go_simp; with_reducible rfl
 rotate_left
 · simp only [Act.put, sIA, sC0, sCS, i64_w, i32_w]; rfl
 refine pure_ (i := 23) (N := some 56) (v := ?_) (a' := ?_) #[true, true, true, true, true, true, true, true, true, true, true, true, true, true, true, true, true, true, true, true, true, true, true, true, false, false, false, false, false, false, false, false, false, false, false, false, false, false, false, false, false, false, false, false, false, false, false, false] rfl rfl (any_of HT_.out (by kernel_rfl)) (fun _ _ _ h => h) (Or.inl ⟨by rfl, ?_⟩) ?_ ?_; rotate_left
 · intro w'; go_simp; with_reducible rfl
 rotate_left
 · simp only [Act.put, sIA, sC0, sCS, i64_w, i32_w]; rfl
 refine pure_ (i := 24) (N := some 57) (v := ?_) (a' := ?_) #[true, true, true, true, true, true, true, true, true, true, true, true, true, true, true, true, true, true, true, true, true, true, true, true, true, false, false, false, false, false, false, false, false, false, false, false, false, false, false, false, false, false, false, false, false, false, false, false] rfl rfl (any_of HT_.out (by kernel_rfl)) (fun _ _ _ h => h) (Or.inl ⟨by rfl, ?_⟩) ?_ ?_; rotate_left
 · intro w'; go_simp; with_reducible rfl
 rotate_left
 · simp only [Act.put, sIA, sC0, sCS, i64_w, i32_w]; rfl
 refine pure_ (i := 25) (N := some 58) (v := ?_) (a' := ?_) #[true, true, true, true, true, true, true, true, true, true, true, true, true, true, true, true, true, true, true, true, true, true, true, true, true, true, false, false, false, false, false, false, false, false, false, false, false, false, false, false, false, false, false, false, false, false, false, false] rfl rfl (any_of HT_.out (by kernel_rfl)) (fun _ _ _ h => h) (Or.inl ⟨by rfl, ?_⟩) ?_ ?_; rotate_left
 · intro w'; go_simp; with_reducible rfl
 rotate_left
 · simp only [Act.put, sIA, sC0, sCS, i64_w, i32_w]; rfl
 refine pure_ (i := 26) (N := some 59) (v := ?_) (a' := ?_) #[true, true, true, true, true, true, true, true, true, true, true, true, true, true, true, true, true, true, true, true, true, true, true, true, true, true, true, false, false, false, false, false, false, false, false, false, false, false, false, false, false, false, false, false, false, false, false, false] rfl rfl (any_of HT_.out (by kernel_rfl)) (fun _ _ _ h => h) (Or.inl ⟨by rfl, ?_⟩) ?_ ?_; rotate_left
 · intro w'; go_simp; with_reducible rfl
 rotate_left
 · simp only [Act.put, sIA, sC0, sCS, i64_w, i32_w]; rfl
 refine pure_ (i := 27) (N := some 60) (v := ?_) (a' := ?_) #[true, true, true, true, true, true, true, true, true, true, true, true, true, true, true, true, true, true, true, true, true, true, true, true, true, true, true, true, false, false, false, false, false, false, false, false, false, false, false, false, false, false, false, false, false, false, false, false] rfl rfl (any_of HT_.out (by kernel_rfl)) (fun _ _ _ h => h) (Or.inl ⟨by rfl, ?_⟩) ?_ ?_; rotate_left
 · intro w'; go_simp; with_reducible rfl
 rotate_left
 · simp only [Act.put, sIA, sC0, sCS, i64_w, i32_w]; rfl
 refine one_ (i := 28) (N := some 61) #[true, true, true, true, true, true, true, true, true, true, true, true, true, true, true, true, true, true, true, true, true, true, true, true, true, true, true, true, true, false, false, false, false, false, false, false, false, false, false, false, false, false, false, false, false, false, false, false] rfl rfl (one_of HT_.out (by kernel_rfl)) (by decide) (fun K hK => ?_); refine goes_ Tryd.func31 (by kernel_rfl) rfl #[] (by rfl) rfl rfl (by (try simp only [List.map_toArray, List.map_cons, List.map_nil]); first | done | rfl | (simp only [List.length_drop, List.length_take]; rfl)) ?_; with_reducible refine (spilelaw09_Barrel.calls  (⟨#[65, 45, 49]⟩ : ByteArray) 1 [(⟨0, 300⟩ : S46), (⟨500, 400⟩ : S46), (⟨1000, 300⟩ : S46)] 500 _ A8.out).mono ?_
 rintro e w36 ⟨v168, rfl, ho0, hb⟩; refine ⟨_, rfl, ?_⟩; have n0_ := Aside0.mk (Kd.N_elder' (by (with_reducible repeat (first | apply Kd.N_alloc | apply Kd.N_drewN | apply Kd.N_drew)); exact HO155.out) (Kd.R_base ho0) hb); have n1_ := Aside0.mk (Kd.N_elder' (by (with_reducible repeat (first | apply Kd.N_alloc | apply Kd.N_drewN | apply Kd.N_drew)); exact HO157.out) (Kd.R_base ho0) hb); have n2_ := Aside0.mk (Kd.R_elder' (by (with_reducible repeat (first | apply Kd.R_alloc | apply Kd.R_drewN | apply Kd.R_drew)); exact HO159.out) (Kd.R_base ho0) hb); have n3_ := Aside0.mk (Kd.N_elder' (by (with_reducible repeat (first | apply Kd.N_alloc | apply Kd.N_drewN | apply Kd.N_drew)); exact HO164.out) (Kd.R_base ho0) hb); have n4_ := Aside0.mk (Kd.R_elder' (by (with_reducible repeat (first | apply Kd.R_alloc | apply Kd.R_drewN | apply Kd.R_drew)); exact HO166.out) (Kd.R_base ho0) hb); have n5_ := Aside0.mk (Kd.R_lower (Kd.R_new' (Kd.R_new' ho0 (Kd.R_lt (by (with_reducible repeat (first | apply Kd.R_alloc | apply Kd.R_drewN | apply Kd.R_drew)); exact HO159.out))) (Kd.R_lt (by (with_reducible repeat (first | apply Kd.R_alloc | apply Kd.R_drewN | apply Kd.R_drew)); exact HO166.out))) (below_size (by repeat (first | (with_reducible first | exact HB.out | apply below_alloc | apply pw_below_drewN | apply below_drew1 | refine below_set ?_ GE167.out) | exact HB.out)))); have n6_ := Aside0.mk (blk_below (g := gb167) (o := .cells #[.string (⟨#[65, 45, 49]⟩ : ByteArray), .int .i64 1, .slice Ao33 [(⟨0, 300⟩ : S46), (⟨500, 400⟩ : S46), (⟨1000, 300⟩ : S46)].length co33, .int .i64 500] 27 (0, 0)) (by (with_reducible repeat (first | refine blk_drewN ?_ _ | refine blk_drew ?_ | refine blk_alloc ?_ _)); exact BK167.out) hb); have n7_ := Aside0.mk (below_step (by repeat (first | (with_reducible first | exact HB.out | apply below_alloc | apply pw_below_drewN | apply below_drew1 | refine below_set ?_ GE167.out) | exact HB.out)) hb); clear HO155; clear HO157; clear HO159; clear HO164; clear HO166; clear BK167; clear HB; have HO155 := n0_; have HO157 := n1_; have HO159 := n2_; have HO164 := n3_; have HO166 := n4_; have HO169 := n5_; have BK167 := n6_; have HB := n7_; clear n0_ n1_ n2_ n3_ n4_ n5_ n6_ n7_; (try clear hb)
 (try clear hb2)
 (try clear hk)
 (try clear hi)
 (try clear ho0)
 obtain ⟨Ao37, co37, eo37⟩ := Kd.R_slice HO169.out; (first | subst eo37 | (injection eo37 with f1_ f2_ f3_; have f4_ := f1_.symm; have f5_ := f3_.symm; clear f1_ f2_ f3_; subst f4_; subst f5_))
 refine hK.out _ _ ⟨(blk_cell BK167.out 0).trans rfl, (blk_cell BK167.out 1).trans rfl, (blk_cell BK167.out 2).trans rfl, (blk_cell BK167.out 3).trans rfl⟩ (fun hHeld => ?_); clear hK K; refine norm_ (a' := ?_) ?_ ?_; rotate_left
 ·
  show Act.put _ (some 61) _ = _
  simp only [Act.put, sIA, sC0, sCS, i64_w, i32_w]; rfl
 refine one_ (i := 29) (N := some 62) #[true, true, true, true, true, true, true, true, true, true, true, true, true, true, true, true, true, true, true, true, true, true, true, true, true, true, true, true, true, true, false, false, false, false, false, false, false, false, false, false, false, false, false, false, false, false, false, false] rfl rfl (one_of HT_.out (by kernel_rfl)) (by decide) (fun K hK => ?_); refine Kd.N_lit_step k27 _ 27 ?hg (N' := 62) ?hd (xs := ([(⟨(⟨#[65, 45, 49]⟩ : ByteArray), 1, [(⟨0, 300⟩ : S46), (⟨500, 400⟩ : S46), (⟨1000, 300⟩ : S46)], 500⟩ : S27)] : List (S27))) (inner := [.string (⟨#[65, 45, 49]⟩ : ByteArray), .int .i64 1, .slice Ao37 [(⟨0, 300⟩ : S46), (⟨500, 400⟩ : S46), (⟨1000, 300⟩ : S46)].length co37, .int .i64 500]) (ok := (fun k_ => some k_ ≠ (.slice Ao19 y153.length co19 : Value).ownBlock ∧ some k_ ≠ (v156 : Value).ownBlock ∧ some k_ ≠ (.slice Ao23 [(⟨0, 300⟩ : S46), (⟨500, 400⟩ : S46), (⟨1000, 300⟩ : S46)].length co23 : Value).ownBlock ∧ some k_ ≠ (.slice Ao29 y162.length co29 : Value).ownBlock ∧ some k_ ≠ (.slice Ao33 [(⟨0, 300⟩ : S46), (⟨500, 400⟩ : S46), (⟨1000, 300⟩ : S46)].length co33 : Value).ownBlock ∧ k_ ≠ gb167)) (okp := (fun k_ => some k_ ≠ (.slice Ao19 y153.length co19 : Value).ownBlock ∧ some k_ ≠ (v156 : Value).ownBlock ∧ some k_ ≠ (.slice Ao23 [(⟨0, 300⟩ : S46), (⟨500, 400⟩ : S46), (⟨1000, 300⟩ : S46)].length co23 : Value).ownBlock ∧ some k_ ≠ (.slice Ao29 y162.length co29 : Value).ownBlock ∧ some k_ ≠ (.slice Ao33 [(⟨0, 300⟩ : S46), (⟨500, 400⟩ : S46), (⟨1000, 300⟩ : S46)].length co33 : Value).ownBlock ∧ k_ ≠ gb167)) ?hr ?hp (fun _ hk => hk) ((show ∀ k_, w36.heap.size ≤ k_ → (fun k_ => some k_ ≠ (.slice Ao19 y153.length co19 : Value).ownBlock ∧ some k_ ≠ (v156 : Value).ownBlock ∧ some k_ ≠ (.slice Ao23 [(⟨0, 300⟩ : S46), (⟨500, 400⟩ : S46), (⟨1000, 300⟩ : S46)].length co23 : Value).ownBlock ∧ some k_ ≠ (.slice Ao29 y162.length co29 : Value).ownBlock ∧ some k_ ≠ (.slice Ao33 [(⟨0, 300⟩ : S46), (⟨500, 400⟩ : S46), (⟨1000, 300⟩ : S46)].length co33 : Value).ownBlock ∧ k_ ≠ gb167) k_ from fun k_ hk => ⟨Kd.fresh' (Kd.N_lt (by (with_reducible repeat (first | apply Kd.N_alloc | apply Kd.N_drewN | apply Kd.N_drew)); exact HO155.out)) k_ hk, Kd.fresh' (Kd.N_lt (by (with_reducible repeat (first | apply Kd.N_alloc | apply Kd.N_drewN | apply Kd.N_drew)); exact HO157.out)) k_ hk, Kd.fresh' (Kd.R_lt (by (with_reducible repeat (first | apply Kd.R_alloc | apply Kd.R_drewN | apply Kd.R_drew)); exact HO159.out)) k_ hk, Kd.fresh' (Kd.N_lt (by (with_reducible repeat (first | apply Kd.N_alloc | apply Kd.N_drewN | apply Kd.N_drew)); exact HO164.out)) k_ hk, Kd.fresh' (Kd.R_lt (by (with_reducible repeat (first | apply Kd.R_alloc | apply Kd.R_drewN | apply Kd.R_drew)); exact HO166.out)) k_ hk, Kd.freshB (g := gb167) (o := .cells #[.string (⟨#[65, 45, 49]⟩ : ByteArray), .int .i64 1, .slice Ao33 [(⟨0, 300⟩ : S46), (⟨500, 400⟩ : S46), (⟨1000, 300⟩ : S46)].length co33, .int .i64 500] 27 (0, 0)) (by (with_reducible repeat (first | refine blk_drewN ?_ _ | refine blk_drew ?_ | refine blk_alloc ?_ _)); exact BK167.out) k_ hk⟩) _ (Nat.le_refl _)) (Below.refl _ _) (Nat.le_refl _) (by simp) ?_; (case hd => rfl); (case hg => rfl); (case hr => first | (go_simp; done) | (go_simp; rfl)); (case hp => exact (Reps.c4 (show Kd.FK k27 _ _ (⟨(⟨#[65, 45, 49]⟩ : ByteArray), 1, [(⟨0, 300⟩ : S46), (⟨500, 400⟩ : S46), (⟨1000, 300⟩ : S46)], 500⟩ : S27) [.string (⟨#[65, 45, 49]⟩ : ByteArray), .int .i64 1, .slice Ao37 [(⟨0, 300⟩ : S46), (⟨500, 400⟩ : S46), (⟨1000, 300⟩ : S46)].length co37, .int .i64 500] from (k27_mkF _ _ (⟨(⟨#[65, 45, 49]⟩ : ByteArray), 1, [(⟨0, 300⟩ : S46), (⟨500, 400⟩ : S46), (⟨1000, 300⟩ : S46)], 500⟩ : S27) (Kd.R_reads' (Kd.R_mono (ok' := (fun k_ => some k_ ≠ (.slice Ao19 y153.length co19 : Value).ownBlock ∧ some k_ ≠ (v156 : Value).ownBlock ∧ some k_ ≠ (.slice Ao23 [(⟨0, 300⟩ : S46), (⟨500, 400⟩ : S46), (⟨1000, 300⟩ : S46)].length co23 : Value).ownBlock ∧ some k_ ≠ (.slice Ao29 y162.length co29 : Value).ownBlock ∧ some k_ ≠ (.slice Ao33 [(⟨0, 300⟩ : S46), (⟨500, 400⟩ : S46), (⟨1000, 300⟩ : S46)].length co33 : Value).ownBlock ∧ k_ ≠ gb167)) (Kd.R_types (Kd.R_apart' (Kd.R_apart' (Kd.R_apart' (HO169.out) (Kd.N_typed HO155.out) (by decide)) (Kd.N_typed HO157.out) (by decide)) (Kd.N_typed HO164.out) (by decide)) BK167.out (by decide)) (fun k_ hk => ⟨hk.1.1.1.2, ⟨hk.1.1.2, ⟨hk.1.1.1.1.1.2, ⟨hk.1.2, ⟨hk.1.1.1.1.2, hk.2⟩⟩⟩⟩⟩))).2.1 (Kd.R_F (Kd.R_mono (ok' := (fun k_ => some k_ ≠ (.slice Ao19 y153.length co19 : Value).ownBlock ∧ some k_ ≠ (v156 : Value).ownBlock ∧ some k_ ≠ (.slice Ao23 [(⟨0, 300⟩ : S46), (⟨500, 400⟩ : S46), (⟨1000, 300⟩ : S46)].length co23 : Value).ownBlock ∧ some k_ ≠ (.slice Ao29 y162.length co29 : Value).ownBlock ∧ some k_ ≠ (.slice Ao33 [(⟨0, 300⟩ : S46), (⟨500, 400⟩ : S46), (⟨1000, 300⟩ : S46)].length co33 : Value).ownBlock ∧ k_ ≠ gb167)) (Kd.R_types (Kd.R_apart' (Kd.R_apart' (Kd.R_apart' (HO169.out) (Kd.N_typed HO155.out) (by decide)) (Kd.N_typed HO157.out) (by decide)) (Kd.N_typed HO164.out) (by decide)) BK167.out (by decide)) (fun k_ hk => ⟨hk.1.1.1.2, ⟨hk.1.1.2, ⟨hk.1.1.1.1.1.2, ⟨hk.1.2, ⟨hk.1.1.1.1.2, hk.2⟩⟩⟩⟩⟩))))) (Reps.none _ _)))
 intro v171 w38 ho39 hb hg_ hnew_; clear hg_ hnew_; (first | rw [← Ny170.out] at ho39 | (simp only [Int.reduceToNat] at ho39; rw [← Ny170.out] at ho39))
 have n0_ := Aside0.mk (Kd.N_elder' (by (with_reducible repeat (first | apply Kd.N_alloc | apply Kd.N_drewN | apply Kd.N_drew)); exact HO155.out) (Kd.N_base ho39) hb); have n1_ := Aside0.mk (Kd.N_elder' (by (with_reducible repeat (first | apply Kd.N_alloc | apply Kd.N_drewN | apply Kd.N_drew)); exact HO157.out) (Kd.N_base ho39) hb); have n2_ := Aside0.mk (Kd.R_below (by (with_reducible repeat (first | apply Kd.R_alloc | apply Kd.R_drewN | apply Kd.R_drew)); exact HO159.out) hb); have n3_ := Aside0.mk (Kd.N_elder' (by (with_reducible repeat (first | apply Kd.N_alloc | apply Kd.N_drewN | apply Kd.N_drew)); exact HO164.out) (Kd.N_base ho39) hb); have n4_ := Aside0.mk (Kd.R_below (by (with_reducible repeat (first | apply Kd.R_alloc | apply Kd.R_drewN | apply Kd.R_drew)); exact HO166.out) hb); have n5_ := Aside0.mk (Kd.N_lower ho39 (below_size (by repeat (first | (with_reducible first | exact HB.out | apply below_alloc | apply pw_below_drewN | apply below_drew1 | refine below_set ?_ GE167.out) | exact HB.out)))); have n6_ := Aside0.mk (blk_below (g := gb167) (o := .cells #[.string (⟨#[65, 45, 49]⟩ : ByteArray), .int .i64 1, .slice Ao33 [(⟨0, 300⟩ : S46), (⟨500, 400⟩ : S46), (⟨1000, 300⟩ : S46)].length co33, .int .i64 500] 27 (0, 0)) (by (with_reducible repeat (first | refine blk_drewN ?_ _ | refine blk_drew ?_ | refine blk_alloc ?_ _)); exact BK167.out) hb); have n7_ := Aside0.mk (below_step (by repeat (first | (with_reducible first | exact HB.out | apply below_alloc | apply pw_below_drewN | apply below_drew1 | refine below_set ?_ GE167.out) | exact HB.out)) hb); clear HO155; clear HO157; clear HO159; clear HO164; clear HO166; clear BK167; clear HB; clear HO169; have HO155 := n0_; have HO157 := n1_; have HO159 := n2_; have HO164 := n3_; have HO166 := n4_; have HO172 := n5_; have BK167 := n6_; have HB := n7_; clear n0_ n1_ n2_ n3_ n4_ n5_ n6_ n7_; clear hb ho39; obtain ⟨Ao40, co40, eo40⟩ := Kd.N_slice HO157.out; (first | subst eo40 | (injection eo40 with f1_ f2_ f3_; have f4_ := f1_.symm; have f5_ := f3_.symm; clear f1_ f2_ f3_; subst f4_; subst f5_))
 obtain ⟨Ao41, co41, eo41⟩ := Kd.N_slice HO172.out; (first | subst eo41 | (injection eo41 with f1_ f2_ f3_; have f4_ := f1_.symm; have f5_ := f3_.symm; clear f1_ f2_ f3_; subst f4_; subst f5_))
 refine hK.out _ _ ⟨(blk_cell BK167.out 0).trans rfl, (blk_cell BK167.out 1).trans rfl, (blk_cell BK167.out 2).trans rfl, (blk_cell BK167.out 3).trans rfl⟩ (fun hHeld => ?_); clear hK K; refine norm_ (a' := ?_) ?_ ?_; rotate_left
 ·
  show Act.put _ (some 62) _ = _
  simp only [Act.put, sIA, sC0, sCS, i64_w, i32_w]; rfl
 refine one_ (i := 30) (N := some 63) #[true, true, true, true, true, true, true, true, true, true, true, true, true, true, true, true, true, true, true, true, true, true, true, true, true, true, true, true, true, true, true, false, false, false, false, false, false, false, false, false, false, false, false, false, false, false, false, false] rfl rfl (one_of HT_.out (by kernel_rfl)) (by decide) (fun K hK => ?_); refine goes_ Tryd.func26 (by kernel_rfl) rfl #[.slice Ao40 [(⟨(⟨#[65, 45, 49]⟩ : ByteArray), 1, [(⟨0, 300⟩ : S46), (⟨500, 400⟩ : S46), (⟨1000, 300⟩ : S46)], 500⟩ : S27)].length co40, .slice Ao41 y170.length co41] (by rfl) rfl rfl (by (try simp only [List.map_toArray, List.map_cons, List.map_nil]); first | done | rfl | (simp only [List.length_drop, List.length_take]; rfl)) ?_; with_reducible refine (spileref09_Same.calls 400 _ _ [(⟨(⟨#[65, 45, 49]⟩ : ByteArray), 1, [(⟨0, 300⟩ : S46), (⟨500, 400⟩ : S46), (⟨1000, 300⟩ : S46)], 500⟩ : S27)] _ _ y170 true _ ?side1 ?side2 ?side3 ?side4 A9.out).mono ?_
 (case side1 => repeat (first | exact (Kd.N_reads' HO157.out).2.2 | (with_reducible refine Kd.C_alloc ?_ _) | (with_reducible refine Kd.C_drewN ?_ _) | (with_reducible refine Kd.C_drew ?_)))
 (case side2 => exact (Kd.N_reads' HO157.out).2.1)
 (case side3 => repeat (first | exact (Kd.N_reads' HO172.out).2.2 | (with_reducible refine Kd.C_alloc ?_ _) | (with_reducible refine Kd.C_drewN ?_ _) | (with_reducible refine Kd.C_drew ?_)))
 (case side4 => exact (Kd.N_reads' HO172.out).2.1)
 rintro e w42 ⟨rfl, hb⟩; refine ⟨_, rfl, ?_⟩; have n0_ := Aside0.mk (Kd.N_below (by (with_reducible repeat (first | apply Kd.N_alloc | apply Kd.N_drewN | apply Kd.N_drew)); exact HO155.out) hb); have n1_ := Aside0.mk (Kd.N_below (by (with_reducible repeat (first | apply Kd.N_alloc | apply Kd.N_drewN | apply Kd.N_drew)); exact HO157.out) hb); have n2_ := Aside0.mk (Kd.R_below (by (with_reducible repeat (first | apply Kd.R_alloc | apply Kd.R_drewN | apply Kd.R_drew)); exact HO159.out) hb); have n3_ := Aside0.mk (Kd.N_below (by (with_reducible repeat (first | apply Kd.N_alloc | apply Kd.N_drewN | apply Kd.N_drew)); exact HO164.out) hb); have n4_ := Aside0.mk (Kd.R_below (by (with_reducible repeat (first | apply Kd.R_alloc | apply Kd.R_drewN | apply Kd.R_drew)); exact HO166.out) hb); have n5_ := Aside0.mk (Kd.N_below (by (with_reducible repeat (first | apply Kd.N_alloc | apply Kd.N_drewN | apply Kd.N_drew)); exact HO172.out) hb); have n6_ := Aside0.mk (blk_below (g := gb167) (o := .cells #[.string (⟨#[65, 45, 49]⟩ : ByteArray), .int .i64 1, .slice Ao33 [(⟨0, 300⟩ : S46), (⟨500, 400⟩ : S46), (⟨1000, 300⟩ : S46)].length co33, .int .i64 500] 27 (0, 0)) (by (with_reducible repeat (first | refine blk_drewN ?_ _ | refine blk_drew ?_ | refine blk_alloc ?_ _)); exact BK167.out) hb); have n7_ := Aside0.mk (below_step (by repeat (first | (with_reducible first | exact HB.out | apply below_alloc | apply pw_below_drewN | apply below_drew1 | refine below_set ?_ GE167.out) | exact HB.out)) hb); clear HO155; clear HO157; clear HO159; clear HO164; clear HO166; clear HO172; clear BK167; clear HB; have HO155 := n0_; have HO157 := n1_; have HO159 := n2_; have HO164 := n3_; have HO166 := n4_; have HO172 := n5_; have BK167 := n6_; have HB := n7_; clear n0_ n1_ n2_ n3_ n4_ n5_ n6_ n7_; (try clear hb)
 (try clear hb2)
 (try clear hk)
 (try clear hi)
 refine hK.out _ _ ⟨(blk_cell BK167.out 0).trans rfl, (blk_cell BK167.out 1).trans rfl, (blk_cell BK167.out 2).trans rfl, (blk_cell BK167.out 3).trans rfl⟩ (fun hHeld => ?_); clear hK K; refine norm_ (a' := ?_) ?_ ?_; rotate_left
 ·
  show Act.put _ (some 63) _ = _
  simp only [Act.put, sIA, sC0, sCS, i64_w, i32_w]; rfl
 refine pure_ (i := 31) (N := some 64) (v := ?_) (a' := ?_) #[true, true, true, true, true, true, true, true, true, true, true, true, true, true, true, true, true, true, true, true, true, true, true, true, true, true, true, true, true, true, true, true, false, false, false, false, false, false, false, false, false, false, false, false, false, false, false, false] rfl rfl (any_of HT_.out (by kernel_rfl)) (fun _ _ _ h => h) (Or.inl ⟨by rfl, ?_⟩) ?_ ?_; rotate_left
 · intro w'; go_simp; with_reducible rfl
 rotate_left
 · simp only [Act.put, sIA, sC0, sCS, i64_w, i32_w]; rfl
 refine pure_ (i := 32) (N := some 65) (v := ?_) (a' := ?_) #[true, true, true, true, true, true, true, true, true, true, true, true, true, true, true, true, true, true, true, true, true, true, true, true, true, true, true, true, true, true, true, true, true, false, false, false, false, false, false, false, false, false, false, false, false, false, false, false] rfl rfl (any_of HT_.out (by kernel_rfl)) (fun _ _ _ h => h) (Or.inl ⟨by rfl, ?_⟩) ?_ ?_; rotate_left
 · intro w'; go_simp; with_reducible rfl
 rotate_left
 · simp only [Act.put, sIA, sC0, sCS, i64_w, i32_w]; rfl
 refine take_ (i := 33) (N := some 66) (v := ?_) (a' := ?_) #[true, true, true, true, true, true, true, true, true, true, true, true, true, true, true, true, true, true, true, true, true, true, true, true, true, true, true, true, true, true, true, true, true, true, false, false, false, false, false, false, false, false, false, false, false, false, false, false] rfl rfl (take_ofW HT_.out HW_.out (by kernel_rfl)) (fun _ _ _ h => h) (Or.inl ⟨by rfl, ?_⟩) hHeld ?_ ?_; rotate_left
 · rintro w' ⟨s0, s1, s2, s3⟩; go_simp; with_reducible rfl
 rotate_left
 · simp only [Act.put, sIA, sC0, sCS, i64_w, i32_w]; rfl
 refine one_ (i := 34) (N := some 67) #[true, true, true, true, true, true, true, true, true, true, true, true, true, true, true, true, true, true, true, true, true, true, true, true, true, true, true, true, true, true, true, true, true, true, true, false, false, false, false, false, false, false, false, false, false, false, false, false] rfl rfl (one_of HT_.out (by kernel_rfl)) (by decide) (fun K hK => ?_); refine goes_ Tryd.func31 (by kernel_rfl) rfl #[] (by rfl) rfl rfl (by (try simp only [List.map_toArray, List.map_cons, List.map_nil]); first | done | rfl | (simp only [List.length_drop, List.length_take]; rfl)) ?_; with_reducible refine (spilelaw09_Barrel.calls  (⟨#[65, 45, 49]⟩ : ByteArray) 1 [(⟨0, 300⟩ : S46), (⟨500, 400⟩ : S46), (⟨1000, 300⟩ : S46)] 500 _ A10.out).mono ?_
 rintro e w43 ⟨v173, rfl, ho0, hb⟩; refine ⟨_, rfl, ?_⟩; have n0_ := Aside0.mk (Kd.N_elder' (by (with_reducible repeat (first | apply Kd.N_alloc | apply Kd.N_drewN | apply Kd.N_drew)); exact HO155.out) (Kd.R_base ho0) hb); have n1_ := Aside0.mk (Kd.N_elder' (by (with_reducible repeat (first | apply Kd.N_alloc | apply Kd.N_drewN | apply Kd.N_drew)); exact HO157.out) (Kd.R_base ho0) hb); have n2_ := Aside0.mk (Kd.R_elder' (by (with_reducible repeat (first | apply Kd.R_alloc | apply Kd.R_drewN | apply Kd.R_drew)); exact HO159.out) (Kd.R_base ho0) hb); have n3_ := Aside0.mk (Kd.N_elder' (by (with_reducible repeat (first | apply Kd.N_alloc | apply Kd.N_drewN | apply Kd.N_drew)); exact HO164.out) (Kd.R_base ho0) hb); have n4_ := Aside0.mk (Kd.R_elder' (by (with_reducible repeat (first | apply Kd.R_alloc | apply Kd.R_drewN | apply Kd.R_drew)); exact HO166.out) (Kd.R_base ho0) hb); have n5_ := Aside0.mk (Kd.N_elder' (by (with_reducible repeat (first | apply Kd.N_alloc | apply Kd.N_drewN | apply Kd.N_drew)); exact HO172.out) (Kd.R_base ho0) hb); have n6_ := Aside0.mk (Kd.R_lower (Kd.R_new' (Kd.R_new' ho0 (Kd.R_lt (by (with_reducible repeat (first | apply Kd.R_alloc | apply Kd.R_drewN | apply Kd.R_drew)); exact HO159.out))) (Kd.R_lt (by (with_reducible repeat (first | apply Kd.R_alloc | apply Kd.R_drewN | apply Kd.R_drew)); exact HO166.out))) (below_size (by repeat (first | (with_reducible first | exact HB.out | apply below_alloc | apply pw_below_drewN | apply below_drew1 | refine below_set ?_ GE167.out) | exact HB.out)))); have n7_ := Aside0.mk (blk_below (g := gb167) (o := .cells #[.string (⟨#[65, 45, 49]⟩ : ByteArray), .int .i64 1, .slice Ao33 [(⟨0, 300⟩ : S46), (⟨500, 400⟩ : S46), (⟨1000, 300⟩ : S46)].length co33, .int .i64 500] 27 (0, 0)) (by (with_reducible repeat (first | refine blk_drewN ?_ _ | refine blk_drew ?_ | refine blk_alloc ?_ _)); exact BK167.out) hb); have n8_ := Aside0.mk (below_step (by repeat (first | (with_reducible first | exact HB.out | apply below_alloc | apply pw_below_drewN | apply below_drew1 | refine below_set ?_ GE167.out) | exact HB.out)) hb); clear HO155; clear HO157; clear HO159; clear HO164; clear HO166; clear HO172; clear BK167; clear HB; have HO155 := n0_; have HO157 := n1_; have HO159 := n2_; have HO164 := n3_; have HO166 := n4_; have HO172 := n5_; have HO174 := n6_; have BK167 := n7_; have HB := n8_; clear n0_ n1_ n2_ n3_ n4_ n5_ n6_ n7_ n8_; (try clear hb)
 (try clear hb2)
 (try clear hk)
 (try clear hi)
 (try clear ho0)
 obtain ⟨Ao44, co44, eo44⟩ := Kd.R_slice HO174.out; (first | subst eo44 | (injection eo44 with f1_ f2_ f3_; have f4_ := f1_.symm; have f5_ := f3_.symm; clear f1_ f2_ f3_; subst f4_; subst f5_))
 refine hK.out _ _ ⟨(blk_cell BK167.out 0).trans rfl, (blk_cell BK167.out 1).trans rfl, (blk_cell BK167.out 2).trans rfl, (blk_cell BK167.out 3).trans rfl⟩ (fun hHeld => ?_); clear hK K; refine norm_ (a' := ?_) ?_ ?_; rotate_left
 ·
  show Act.put _ (some 67) _ = _
  simp only [Act.put, sIA, sC0, sCS, i64_w, i32_w]; rfl
 refine one_ (i := 35) (N := some 68) #[true, true, true, true, true, true, true, true, true, true, true, true, true, true, true, true, true, true, true, true, true, true, true, true, true, true, true, true, true, true, true, true, true, true, true, true, false, false, false, false, false, false, false, false, false, false, false, false] rfl rfl (one_of HT_.out (by kernel_rfl)) (by decide) (fun K hK => ?_); refine goes_ Tryd.func15 (by kernel_rfl) rfl #[.agg #[.string (⟨#[65, 45, 49]⟩ : ByteArray), .int .i64 1, .slice Ao33 [(⟨0, 300⟩ : S46), (⟨500, 400⟩ : S46), (⟨1000, 300⟩ : S46)].length co33, .int .i64 500], .agg #[.string (⟨#[65, 45, 49]⟩ : ByteArray), .int .i64 1, .slice Ao44 [(⟨0, 300⟩ : S46), (⟨500, 400⟩ : S46), (⟨1000, 300⟩ : S46)].length co44, .int .i64 500]] (by rfl) rfl rfl (by (try simp only [List.map_toArray, List.map_cons, List.map_nil]); first | done | rfl | (simp only [List.length_drop, List.length_take]; rfl)) ?_; with_reducible refine (spileref09_SameCask.calls 400 (⟨#[65, 45, 49]⟩ : ByteArray) 1 _ _ [(⟨0, 300⟩ : S46), (⟨500, 400⟩ : S46), (⟨1000, 300⟩ : S46)] 500 (⟨#[65, 45, 49]⟩ : ByteArray) 1 _ _ [(⟨0, 300⟩ : S46), (⟨500, 400⟩ : S46), (⟨1000, 300⟩ : S46)] 500 true _ ?side1 ?side2 ?side3 ?side4 A11.out).mono ?_
 (case side1 => repeat (first | exact (Kd.R_reads' HO166.out).2.2 | (with_reducible refine Kd.C_alloc ?_ _) | (with_reducible refine Kd.C_drewN ?_ _) | (with_reducible refine Kd.C_drew ?_)))
 (case side2 => exact (Kd.R_reads' HO166.out).2.1)
 (case side3 => repeat (first | exact (Kd.R_reads' HO174.out).2.2 | (with_reducible refine Kd.C_alloc ?_ _) | (with_reducible refine Kd.C_drewN ?_ _) | (with_reducible refine Kd.C_drew ?_)))
 (case side4 => exact (Kd.R_reads' HO174.out).2.1)
 rintro e w45 ⟨rfl, hb⟩; refine ⟨_, rfl, ?_⟩; have n0_ := Aside0.mk (Kd.N_below (by (with_reducible repeat (first | apply Kd.N_alloc | apply Kd.N_drewN | apply Kd.N_drew)); exact HO155.out) hb); have n1_ := Aside0.mk (Kd.N_below (by (with_reducible repeat (first | apply Kd.N_alloc | apply Kd.N_drewN | apply Kd.N_drew)); exact HO157.out) hb); have n2_ := Aside0.mk (Kd.R_below (by (with_reducible repeat (first | apply Kd.R_alloc | apply Kd.R_drewN | apply Kd.R_drew)); exact HO159.out) hb); have n3_ := Aside0.mk (Kd.N_below (by (with_reducible repeat (first | apply Kd.N_alloc | apply Kd.N_drewN | apply Kd.N_drew)); exact HO164.out) hb); have n4_ := Aside0.mk (Kd.R_below (by (with_reducible repeat (first | apply Kd.R_alloc | apply Kd.R_drewN | apply Kd.R_drew)); exact HO166.out) hb); have n5_ := Aside0.mk (Kd.N_below (by (with_reducible repeat (first | apply Kd.N_alloc | apply Kd.N_drewN | apply Kd.N_drew)); exact HO172.out) hb); have n6_ := Aside0.mk (Kd.R_below (by (with_reducible repeat (first | apply Kd.R_alloc | apply Kd.R_drewN | apply Kd.R_drew)); exact HO174.out) hb); have n7_ := Aside0.mk (blk_below (g := gb167) (o := .cells #[.string (⟨#[65, 45, 49]⟩ : ByteArray), .int .i64 1, .slice Ao33 [(⟨0, 300⟩ : S46), (⟨500, 400⟩ : S46), (⟨1000, 300⟩ : S46)].length co33, .int .i64 500] 27 (0, 0)) (by (with_reducible repeat (first | refine blk_drewN ?_ _ | refine blk_drew ?_ | refine blk_alloc ?_ _)); exact BK167.out) hb); have n8_ := Aside0.mk (below_step (by repeat (first | (with_reducible first | exact HB.out | apply below_alloc | apply pw_below_drewN | apply below_drew1 | refine below_set ?_ GE167.out) | exact HB.out)) hb); clear HO155; clear HO157; clear HO159; clear HO164; clear HO166; clear HO172; clear HO174; clear BK167; clear HB; have HO155 := n0_; have HO157 := n1_; have HO159 := n2_; have HO164 := n3_; have HO166 := n4_; have HO172 := n5_; have HO174 := n6_; have BK167 := n7_; have HB := n8_; clear n0_ n1_ n2_ n3_ n4_ n5_ n6_ n7_ n8_; (try clear hb)
 (try clear hb2)
 (try clear hk)
 (try clear hi)
 refine hK.out _ _ ⟨(blk_cell BK167.out 0).trans rfl, (blk_cell BK167.out 1).trans rfl, (blk_cell BK167.out 2).trans rfl, (blk_cell BK167.out 3).trans rfl⟩ (fun hHeld => ?_); clear hK K; refine norm_ (a' := ?_) ?_ ?_; rotate_left
 ·
  show Act.put _ (some 68) _ = _
  simp only [Act.put, sIA, sC0, sCS, i64_w, i32_w]; rfl
 refine pure_ (i := 36) (N := some 69) (v := ?_) (a' := ?_) #[true, true, true, true, true, true, true, true, true, true, true, true, true, true, true, true, true, true, true, true, true, true, true, true, true, true, true, true, true, true, true, true, true, true, true, true, true, false, false, false, false, false, false, false, false, false, false, false] rfl rfl (any_of HT_.out (by kernel_rfl)) (fun _ _ _ h => h) (Or.inl ⟨by rfl, ?_⟩) ?_ ?_; rotate_left
 · intro w'; go_simp; with_reducible rfl
 rotate_left
 · simp only [Act.put, sIA, sC0, sCS, i64_w, i32_w]; rfl
 refine pure_ (i := 37) (N := some 70) (v := ?_) (a' := ?_) #[true, true, true, true, true, true, true, true, true, true, true, true, true, true, true, true, true, true, true, true, true, true, true, true, true, true, true, true, true, true, true, true, true, true, true, true, true, true, false, false, false, false, false, false, false, false, false, false] rfl rfl (any_of HT_.out (by kernel_rfl)) (fun _ _ _ h => h) (Or.inl ⟨by rfl, ?_⟩) ?_ ?_; rotate_left
 · intro w'; go_simp; with_reducible rfl
 rotate_left
 · simp only [Act.put, sIA, sC0, sCS, i64_w, i32_w]; rfl
 refine one_ (i := 38) (N := some 71) #[true, true, true, true, true, true, true, true, true, true, true, true, true, true, true, true, true, true, true, true, true, true, true, true, true, true, true, true, true, true, true, true, true, true, true, true, true, true, true, false, false, false, false, false, false, false, false, false] rfl rfl (one_of HT_.out (by kernel_rfl)) (by decide) (fun K hK => ?_); refine goes_ Tryd.func31 (by kernel_rfl) rfl #[] (by rfl) rfl rfl (by (try simp only [List.map_toArray, List.map_cons, List.map_nil]); first | done | rfl | (simp only [List.length_drop, List.length_take]; rfl)) ?_; with_reducible refine (spilelaw09_Barrel.calls  (⟨#[65, 45, 49]⟩ : ByteArray) 1 [(⟨0, 300⟩ : S46), (⟨500, 400⟩ : S46), (⟨1000, 300⟩ : S46)] 500 _ A12.out).mono ?_
 rintro e w46 ⟨v175, rfl, ho0, hb⟩; refine ⟨_, rfl, ?_⟩; have n0_ := Aside0.mk (Kd.N_elder' (by (with_reducible repeat (first | apply Kd.N_alloc | apply Kd.N_drewN | apply Kd.N_drew)); exact HO155.out) (Kd.R_base ho0) hb); have n1_ := Aside0.mk (Kd.N_elder' (by (with_reducible repeat (first | apply Kd.N_alloc | apply Kd.N_drewN | apply Kd.N_drew)); exact HO157.out) (Kd.R_base ho0) hb); have n2_ := Aside0.mk (Kd.R_elder' (by (with_reducible repeat (first | apply Kd.R_alloc | apply Kd.R_drewN | apply Kd.R_drew)); exact HO159.out) (Kd.R_base ho0) hb); have n3_ := Aside0.mk (Kd.N_elder' (by (with_reducible repeat (first | apply Kd.N_alloc | apply Kd.N_drewN | apply Kd.N_drew)); exact HO164.out) (Kd.R_base ho0) hb); have n4_ := Aside0.mk (Kd.R_elder' (by (with_reducible repeat (first | apply Kd.R_alloc | apply Kd.R_drewN | apply Kd.R_drew)); exact HO166.out) (Kd.R_base ho0) hb); have n5_ := Aside0.mk (Kd.N_elder' (by (with_reducible repeat (first | apply Kd.N_alloc | apply Kd.N_drewN | apply Kd.N_drew)); exact HO172.out) (Kd.R_base ho0) hb); have n6_ := Aside0.mk (Kd.R_elder' (by (with_reducible repeat (first | apply Kd.R_alloc | apply Kd.R_drewN | apply Kd.R_drew)); exact HO174.out) (Kd.R_base ho0) hb); have n7_ := Aside0.mk (Kd.R_lower (Kd.R_new' (Kd.R_new' (Kd.R_new' ho0 (Kd.R_lt (by (with_reducible repeat (first | apply Kd.R_alloc | apply Kd.R_drewN | apply Kd.R_drew)); exact HO159.out))) (Kd.R_lt (by (with_reducible repeat (first | apply Kd.R_alloc | apply Kd.R_drewN | apply Kd.R_drew)); exact HO166.out))) (Kd.R_lt (by (with_reducible repeat (first | apply Kd.R_alloc | apply Kd.R_drewN | apply Kd.R_drew)); exact HO174.out))) (below_size (by repeat (first | (with_reducible first | exact HB.out | apply below_alloc | apply pw_below_drewN | apply below_drew1 | refine below_set ?_ GE167.out) | exact HB.out)))); have n8_ := Aside0.mk (blk_below (g := gb167) (o := .cells #[.string (⟨#[65, 45, 49]⟩ : ByteArray), .int .i64 1, .slice Ao33 [(⟨0, 300⟩ : S46), (⟨500, 400⟩ : S46), (⟨1000, 300⟩ : S46)].length co33, .int .i64 500] 27 (0, 0)) (by (with_reducible repeat (first | refine blk_drewN ?_ _ | refine blk_drew ?_ | refine blk_alloc ?_ _)); exact BK167.out) hb); have n9_ := Aside0.mk (below_step (by repeat (first | (with_reducible first | exact HB.out | apply below_alloc | apply pw_below_drewN | apply below_drew1 | refine below_set ?_ GE167.out) | exact HB.out)) hb); clear HO155; clear HO157; clear HO159; clear HO164; clear HO166; clear HO172; clear HO174; clear BK167; clear HB; have HO155 := n0_; have HO157 := n1_; have HO159 := n2_; have HO164 := n3_; have HO166 := n4_; have HO172 := n5_; have HO174 := n6_; have HO176 := n7_; have BK167 := n8_; have HB := n9_; clear n0_ n1_ n2_ n3_ n4_ n5_ n6_ n7_ n8_ n9_; (try clear hb)
 (try clear hb2)
 (try clear hk)
 (try clear hi)
 (try clear ho0)
 obtain ⟨Ao47, co47, eo47⟩ := Kd.R_slice HO176.out; (first | subst eo47 | (injection eo47 with f1_ f2_ f3_; have f4_ := f1_.symm; have f5_ := f3_.symm; clear f1_ f2_ f3_; subst f4_; subst f5_))
 refine hK.out _ _ ⟨(blk_cell BK167.out 0).trans rfl, (blk_cell BK167.out 1).trans rfl, (blk_cell BK167.out 2).trans rfl, (blk_cell BK167.out 3).trans rfl⟩ (fun hHeld => ?_); clear hK K; refine norm_ (a' := ?_) ?_ ?_; rotate_left
 ·
  show Act.put _ (some 71) _ = _
  simp only [Act.put, sIA, sC0, sCS, i64_w, i32_w]; rfl
 refine one_ (i := 39) (N := some 72) #[true, true, true, true, true, true, true, true, true, true, true, true, true, true, true, true, true, true, true, true, true, true, true, true, true, true, true, true, true, true, true, true, true, true, true, true, true, true, true, true, false, false, false, false, false, false, false, false] rfl rfl (one_of HT_.out (by kernel_rfl)) (by decide) (fun K hK => ?_); refine goes_ Tryd.func20 (by kernel_rfl) rfl #[.agg #[.string (⟨#[65, 45, 49]⟩ : ByteArray), .int .i64 1, .slice Ao47 [(⟨0, 300⟩ : S46), (⟨500, 400⟩ : S46), (⟨1000, 300⟩ : S46)].length co47, .int .i64 500]] (by rfl) rfl rfl (by (try simp only [List.map_toArray, List.map_cons, List.map_nil]); first | done | rfl | (simp only [List.length_drop, List.length_take]; rfl)) ?_; with_reducible refine (cask_Check.calls 400 (⟨#[65, 45, 49]⟩ : ByteArray) 1 _ _ [(⟨0, 300⟩ : S46), (⟨500, 400⟩ : S46), (⟨1000, 300⟩ : S46)] 500 0 _ ?side1 ?side2 A13.out).mono ?_
 (case side1 => repeat (first | exact (Kd.R_reads' HO176.out).2.2 | (with_reducible refine Kd.C_alloc ?_ _) | (with_reducible refine Kd.C_drewN ?_ _) | (with_reducible refine Kd.C_drew ?_)))
 (case side2 => exact (Kd.R_reads' HO176.out).2.1)
 rintro e w48 ⟨rfl, hb⟩; refine ⟨_, rfl, ?_⟩; have n0_ := Aside0.mk (Kd.N_below (by (with_reducible repeat (first | apply Kd.N_alloc | apply Kd.N_drewN | apply Kd.N_drew)); exact HO155.out) hb); have n1_ := Aside0.mk (Kd.N_below (by (with_reducible repeat (first | apply Kd.N_alloc | apply Kd.N_drewN | apply Kd.N_drew)); exact HO157.out) hb); have n2_ := Aside0.mk (Kd.R_below (by (with_reducible repeat (first | apply Kd.R_alloc | apply Kd.R_drewN | apply Kd.R_drew)); exact HO159.out) hb); have n3_ := Aside0.mk (Kd.N_below (by (with_reducible repeat (first | apply Kd.N_alloc | apply Kd.N_drewN | apply Kd.N_drew)); exact HO164.out) hb); have n4_ := Aside0.mk (Kd.R_below (by (with_reducible repeat (first | apply Kd.R_alloc | apply Kd.R_drewN | apply Kd.R_drew)); exact HO166.out) hb); have n5_ := Aside0.mk (Kd.N_below (by (with_reducible repeat (first | apply Kd.N_alloc | apply Kd.N_drewN | apply Kd.N_drew)); exact HO172.out) hb); have n6_ := Aside0.mk (Kd.R_below (by (with_reducible repeat (first | apply Kd.R_alloc | apply Kd.R_drewN | apply Kd.R_drew)); exact HO174.out) hb); have n7_ := Aside0.mk (Kd.R_below (by (with_reducible repeat (first | apply Kd.R_alloc | apply Kd.R_drewN | apply Kd.R_drew)); exact HO176.out) hb); have n8_ := Aside0.mk (blk_below (g := gb167) (o := .cells #[.string (⟨#[65, 45, 49]⟩ : ByteArray), .int .i64 1, .slice Ao33 [(⟨0, 300⟩ : S46), (⟨500, 400⟩ : S46), (⟨1000, 300⟩ : S46)].length co33, .int .i64 500] 27 (0, 0)) (by (with_reducible repeat (first | refine blk_drewN ?_ _ | refine blk_drew ?_ | refine blk_alloc ?_ _)); exact BK167.out) hb); have n9_ := Aside0.mk (below_step (by repeat (first | (with_reducible first | exact HB.out | apply below_alloc | apply pw_below_drewN | apply below_drew1 | refine below_set ?_ GE167.out) | exact HB.out)) hb); clear HO155; clear HO157; clear HO159; clear HO164; clear HO166; clear HO172; clear HO174; clear HO176; clear BK167; clear HB; have HO155 := n0_; have HO157 := n1_; have HO159 := n2_; have HO164 := n3_; have HO166 := n4_; have HO172 := n5_; have HO174 := n6_; have HO176 := n7_; have BK167 := n8_; have HB := n9_; clear n0_ n1_ n2_ n3_ n4_ n5_ n6_ n7_ n8_ n9_; (try clear hb)
 (try clear hb2)
 (try clear hk)
 (try clear hi)
 refine hK.out _ _ ⟨(blk_cell BK167.out 0).trans rfl, (blk_cell BK167.out 1).trans rfl, (blk_cell BK167.out 2).trans rfl, (blk_cell BK167.out 3).trans rfl⟩ (fun hHeld => ?_); clear hK K; refine norm_ (a' := ?_) ?_ ?_; rotate_left
 ·
  show Act.put _ (some 72) _ = _
  simp only [Act.put, sIA, sC0, sCS, i64_w, i32_w]; rfl
 refine pure_ (i := 40) (N := some 73) (v := ?_) (a' := ?_) #[true, true, true, true, true, true, true, true, true, true, true, true, true, true, true, true, true, true, true, true, true, true, true, true, true, true, true, true, true, true, true, true, true, true, true, true, true, true, true, true, true, false, false, false, false, false, false, false] rfl rfl (any_of HT_.out (by kernel_rfl)) (fun _ _ _ h => h) (Or.inl ⟨by rfl, ?_⟩) ?_ ?_; rotate_left
 · intro w'; go_simp; with_reducible rfl
 rotate_left
 · simp only [Act.put, sIA, sC0, sCS, i64_w, i32_w]; rfl
 refine pure_ (i := 41) (N := some 74) (v := ?_) (a' := ?_) #[true, true, true, true, true, true, true, true, true, true, true, true, true, true, true, true, true, true, true, true, true, true, true, true, true, true, true, true, true, true, true, true, true, true, true, true, true, true, true, true, true, true, false, false, false, false, false, false] rfl rfl (any_of HT_.out (by kernel_rfl)) (fun _ _ _ h => h) (Or.inl ⟨by rfl, ?_⟩) ?_ ?_; rotate_left
 · intro w'; go_simp; with_reducible rfl
 rotate_left
 · simp only [Act.put, sIA, sC0, sCS, i64_w, i32_w]; rfl
 refine pure_ (i := 42) (N := some 75) (v := ?_) (a' := ?_) #[true, true, true, true, true, true, true, true, true, true, true, true, true, true, true, true, true, true, true, true, true, true, true, true, true, true, true, true, true, true, true, true, true, true, true, true, true, true, true, true, true, true, true, false, false, false, false, false] rfl rfl (any_of HT_.out (by kernel_rfl)) (fun _ _ _ h => h) (Or.inl ⟨by rfl, ?_⟩) ?_ ?_; rotate_left
 · intro w'; go_simp; with_reducible rfl
 rotate_left
 · simp only [Act.put, sIA, sC0, sCS, i64_w, i32_w]; rfl
 refine pure_ (i := 43) (N := some 76) (v := ?_) (a' := ?_) #[true, true, true, true, true, true, true, true, true, true, true, true, true, true, true, true, true, true, true, true, true, true, true, true, true, true, true, true, true, true, true, true, true, true, true, true, true, true, true, true, true, true, true, true, false, false, false, false] rfl rfl (any_of HT_.out (by kernel_rfl)) (fun _ _ _ h => h) (Or.inl ⟨by rfl, ?_⟩) ?_ ?_; rotate_left
 · intro w'; go_simp; with_reducible rfl
 rotate_left
 · simp only [Act.put, sIA, sC0, sCS, i64_w, i32_w]; rfl
 refine one_ (i := 44) (N := some 77) #[true, true, true, true, true, true, true, true, true, true, true, true, true, true, true, true, true, true, true, true, true, true, true, true, true, true, true, true, true, true, true, true, true, true, true, true, true, true, true, true, true, true, true, true, true, false, false, false] rfl rfl (one_of HT_.out (by kernel_rfl)) (by decide) (fun K hK => ?_); refine goes_ Tryd.func16 (by kernel_rfl) rfl #[.slice Ao40 [(⟨(⟨#[65, 45, 49]⟩ : ByteArray), 1, [(⟨0, 300⟩ : S46), (⟨500, 400⟩ : S46), (⟨1000, 300⟩ : S46)], 500⟩ : S27)].length co40] (by rfl) rfl rfl (by (try simp only [List.map_toArray, List.map_cons, List.map_nil]); first | done | rfl | (simp only [List.length_drop, List.length_take]; rfl)) ?_; with_reducible refine (cask_List.calls 400 _ _ [(⟨(⟨#[65, 45, 49]⟩ : ByteArray), 1, [(⟨0, 300⟩ : S46), (⟨500, 400⟩ : S46), (⟨1000, 300⟩ : S46)], 500⟩ : S27)] 0 _ ?side1 ?side2 A14.out).mono ?_
 (case side1 => repeat (first | exact (Kd.N_reads' HO157.out).2.2 | (with_reducible refine Kd.C_alloc ?_ _) | (with_reducible refine Kd.C_drewN ?_ _) | (with_reducible refine Kd.C_drew ?_)))
 (case side2 => exact (Kd.N_reads' HO157.out).2.1)
 rintro e w49 ⟨rfl, hb⟩; refine ⟨_, rfl, ?_⟩; have n0_ := Aside0.mk (Kd.N_below (by (with_reducible repeat (first | apply Kd.N_alloc | apply Kd.N_drewN | apply Kd.N_drew)); exact HO155.out) hb); have n1_ := Aside0.mk (Kd.N_below (by (with_reducible repeat (first | apply Kd.N_alloc | apply Kd.N_drewN | apply Kd.N_drew)); exact HO157.out) hb); have n2_ := Aside0.mk (Kd.R_below (by (with_reducible repeat (first | apply Kd.R_alloc | apply Kd.R_drewN | apply Kd.R_drew)); exact HO159.out) hb); have n3_ := Aside0.mk (Kd.N_below (by (with_reducible repeat (first | apply Kd.N_alloc | apply Kd.N_drewN | apply Kd.N_drew)); exact HO164.out) hb); have n4_ := Aside0.mk (Kd.R_below (by (with_reducible repeat (first | apply Kd.R_alloc | apply Kd.R_drewN | apply Kd.R_drew)); exact HO166.out) hb); have n5_ := Aside0.mk (Kd.N_below (by (with_reducible repeat (first | apply Kd.N_alloc | apply Kd.N_drewN | apply Kd.N_drew)); exact HO172.out) hb); have n6_ := Aside0.mk (Kd.R_below (by (with_reducible repeat (first | apply Kd.R_alloc | apply Kd.R_drewN | apply Kd.R_drew)); exact HO174.out) hb); have n7_ := Aside0.mk (Kd.R_below (by (with_reducible repeat (first | apply Kd.R_alloc | apply Kd.R_drewN | apply Kd.R_drew)); exact HO176.out) hb); have n8_ := Aside0.mk (blk_below (g := gb167) (o := .cells #[.string (⟨#[65, 45, 49]⟩ : ByteArray), .int .i64 1, .slice Ao33 [(⟨0, 300⟩ : S46), (⟨500, 400⟩ : S46), (⟨1000, 300⟩ : S46)].length co33, .int .i64 500] 27 (0, 0)) (by (with_reducible repeat (first | refine blk_drewN ?_ _ | refine blk_drew ?_ | refine blk_alloc ?_ _)); exact BK167.out) hb); have n9_ := Aside0.mk (below_step (by repeat (first | (with_reducible first | exact HB.out | apply below_alloc | apply pw_below_drewN | apply below_drew1 | refine below_set ?_ GE167.out) | exact HB.out)) hb); clear HO155; clear HO157; clear HO159; clear HO164; clear HO166; clear HO172; clear HO174; clear HO176; clear BK167; clear HB; have HO155 := n0_; have HO157 := n1_; have HO159 := n2_; have HO164 := n3_; have HO166 := n4_; have HO172 := n5_; have HO174 := n6_; have HO176 := n7_; have BK167 := n8_; have HB := n9_; clear n0_ n1_ n2_ n3_ n4_ n5_ n6_ n7_ n8_ n9_; (try clear hb)
 (try clear hb2)
 (try clear hk)
 (try clear hi)
 refine hK.out _ _ ⟨(blk_cell BK167.out 0).trans rfl, (blk_cell BK167.out 1).trans rfl, (blk_cell BK167.out 2).trans rfl, (blk_cell BK167.out 3).trans rfl⟩ (fun hHeld => ?_); clear hK K; refine norm_ (a' := ?_) ?_ ?_; rotate_left
 ·
  show Act.put _ (some 77) _ = _
  simp only [Act.put, sIA, sC0, sCS, i64_w, i32_w]; rfl
 refine pure_ (i := 45) (N := some 78) (v := ?_) (a' := ?_) #[true, true, true, true, true, true, true, true, true, true, true, true, true, true, true, true, true, true, true, true, true, true, true, true, true, true, true, true, true, true, true, true, true, true, true, true, true, true, true, true, true, true, true, true, true, true, false, false] rfl rfl (any_of HT_.out (by kernel_rfl)) (fun _ _ _ h => h) (Or.inl ⟨by rfl, ?_⟩) ?_ ?_; rotate_left
 · intro w'; go_simp; with_reducible rfl
 rotate_left
 · simp only [Act.put, sIA, sC0, sCS, i64_w, i32_w]; rfl
 refine pure_ (i := 46) (N := some 79) (v := ?_) (a' := ?_) #[true, true, true, true, true, true, true, true, true, true, true, true, true, true, true, true, true, true, true, true, true, true, true, true, true, true, true, true, true, true, true, true, true, true, true, true, true, true, true, true, true, true, true, true, true, true, true, false] rfl rfl (any_of HT_.out (by kernel_rfl)) (fun _ _ _ h => h) (Or.inl ⟨by rfl, ?_⟩) ?_ ?_; rotate_left
 · intro w'; go_simp; with_reducible rfl
 rotate_left
 · simp only [Act.put, sIA, sC0, sCS, i64_w, i32_w]; rfl
 refine pure_ (i := 47) (N := some 0) (v := ?_) (a' := ?_) #[true, true, true, true, true, true, true, true, true, true, true, true, true, true, true, true, true, true, true, true, true, true, true, true, true, true, true, true, true, true, true, true, true, true, true, true, true, true, true, true, true, true, true, true, true, true, true, true] rfl rfl (any_of HT_.out (by kernel_rfl)) (fun _ _ _ h => h) (Or.inl ⟨by rfl, ?_⟩) ?_ ?_; rotate_left
 · intro w'; go_simp; with_reducible rfl
 rotate_left
 · simp only [Act.put, sIA, sC0, sCS, i64_w, i32_w]; rfl
 refine done_ (done_of HT_.out (by kernel_rfl)) ?_; try go_wp2
 go_ret
 exact ⟨by first | rfl | (simp [errW_none, errW_some] <;> rfl) | (simp [*, errW_none, errW_some] <;> rfl), by repeat (first | (with_reducible first | exact HB.out | apply below_alloc | apply pw_below_drewN | apply below_drew1 | refine below_set ?_ GE167.out) | exact HB.out)⟩
end Go.Proofs.YtnhmlneebnkjcaaDoor.Pr
namespace Go.Proofs.YtnhmlneebnkjcaaDoor.Pr
open Go.RowKit Go.Proofs.YtnhmlneebnkjcaaDoorW.PrintWords Go.Proofs.YtnhmlneebnkjcaaDoorW.PrintLast Go.Proofs.YtnhmlneebnkjcaaDoorW.PrintMore Go.Proofs.YtnhmlneebnkjcaaDoor.X
attribute [local go_sem] max2_int min2_int max_two min_two max_three min_three max_four min_four   -- for this text's walks alone
set_option linter.unusedVariables false
set_option linter.unusedSimpArgs false
def spileref09_Copy.l0 : Nat → List (S27) → List (S27) → Int → Option ((List (S27)))
 | 0, _, _, _ => none
 | k + 1, x0, x3, x4 => if x4 < (x0.length : Int) then (if 0 ≤ x4 then ((some (([] : List (S46)) : List (S46))).bind fun y182 => (if y182.length + ((rd_T27 x0 x4).f2).length < 8796093022208 then (if x3.length < 2513169434916 then (spileref09_Copy.l0 k x0 (x3 ++ [(⟨(rd_T27 x0 x4).f0, (rd_T27 x0 x4).f1, (y182 ++ ((rd_T27 x0 x4).f2)), (rd_T27 x0 x4).f3⟩ : S27)]) (wrap64 (x4 + 1))) else (none)) else (none))) else (none)) else (some x3)
def spileref09_Copy.f (k : Nat) (l0 : List (S27)) : Option ((List (S27))) := spileref09_Copy.l0 k l0 ([] : List (S27)) 0
set_option maxHeartbeats 8000000 in
set_option maxRecDepth 100000 in
theorem spileref09_Copy.calls (k : Nat) (A0 : Option Addr) (c0 : Nat) (l0 : List (S27)) (r : List (S27)) (w : World) (hr0 : Kd.C k27 w A0 l0.length l0) (hc0 : l0.length ≤ c0) (h : spileref09_Copy.f k l0 = some r) :
  Calls Tryd.prog 13 #[.slice A0 l0.length c0] w fun e w' => ∃ v0_ : Value, e = .returned (v0_) ∧ Kd.S k27 27 w' w.heap.size (fun _ => True) v0_ r ∧ Below w.heap.size w w' := by
 have hu27 := Tryd.underlying27; have HR0 := Aside0.mk hr0; have HC0 := Aside0.mk hc0; clear hr0 hc0; have HB := Aside0.mk (Below.refl w.heap.size w); have H : (spileref09_Copy.l0 k l0 ([] : List (S27)) 0) = some r := h; clear h; have H' := Aside0.mk H; clear H; go_enter Tryd.func13, Tryd.ntmps13
 go_wp2; go_loopg [3, 4] k (fun kq v3 v4 w' => ∃ (x3_1 : List (S27)) (x4_1 : Int), v4 = .int .i64 x4_1 ∧ Aside0 (spileref09_Copy.l0 kq l0 x3_1 x4_1 = some r) ∧ Aside0 (kq ≤ k) ∧ Aside0 (Kd.S k27 27 w' w.heap.size (fun _ => True) v3 x3_1) ∧ Aside0 (Below w.heap.size w w'))
 case atStart => exact ⟨(([] : List (S27))), (0), (by first | rfl | (simp; done) | (simp [*]; done)), H', ⟨Nat.le_refl _⟩, ⟨by first | exact Kd.S_nil _ _ _ _ _ | exact Kd.N_nil _ _ _ _ _ | exact Kd.V_nil _ _ _ _ _ | exact Kd.Q_nil _ _ _ _ _ | exact Kd.R_nil _ _ _ _ _⟩, ⟨by repeat (first | (with_reducible first | exact HB.out | apply below_alloc | apply pw_below_drewN | apply below_drew1) | exact HB.out)⟩⟩
 case round =>
  clear H'; try clear c1
  obtain ⟨x3_1, x4_1, rfl, HA, HK1, HO_3, HB⟩ := hrel
  cases gk with
  | zero => exact absurd HA.out (by simp [spileref09_Copy.l0])
  | succ k1 =>
   have H := HA.out; clear HA; simp only [spileref09_Copy.l0] at H; by_cases c2 : x4_1 < (l0.length : Int)
   ·
    rw [if_pos c2] at H; have c2b0 : decide (x4_1 < (l0.length : Int)) = true := decide_eq_true c2; clear c2; by_cases c3 : 0 ≤ x4_1
    ·
     rw [if_pos c3] at H; have c3b0 : decide (0 ≤ x4_1) = true := decide_eq_true c3; clear c3; obtain ⟨y182, hy182⟩ : ∃ y_ : List (S46), y_ = (([] : List (S46))) := ⟨_, rfl⟩; replace H : (if y182.length + ((rd_T27 l0 x4_1).f2).length < 8796093022208 then (if x3_1.length < 2513169434916 then (spileref09_Copy.l0 k1 l0 (x3_1 ++ [(⟨(rd_T27 l0 x4_1).f0, (rd_T27 l0 x4_1).f1, (y182 ++ ((rd_T27 l0 x4_1).f2)), (rd_T27 l0 x4_1).f3⟩ : S27)]) (wrap64 (x4_1 + 1))) else (none)) else (none)) = some r := by first | (rw [hy182]; with_reducible exact H) | (have H2_ := (Option.bind_some _ _).symm.trans H; rw [hy182]; with_reducible exact H2_) | (have H2_ := (Option.bind_some _ _).symm.trans H; with_reducible exact H2_) | with_reducible exact H | (rw [hy182]; exact H) | exact H
     have Ny182 := Aside0.mk hy182; clear hy182; by_cases c4 : y182.length + ((rd_T27 l0 x4_1).f2).length < 8796093022208
     ·
      rw [if_pos c4] at H; have LMc4 := Aside0.mk c4; clear c4; obtain ⟨y185, hy185⟩ : ∃ y_ : List (S46), y_ = (y182 ++ ((rd_T27 l0 x4_1).f2)) := ⟨_, rfl⟩; replace H : (if x3_1.length < 2513169434916 then (spileref09_Copy.l0 k1 l0 (x3_1 ++ [(⟨(rd_T27 l0 x4_1).f0, (rd_T27 l0 x4_1).f1, y185, (rd_T27 l0 x4_1).f3⟩ : S27)]) (wrap64 (x4_1 + 1))) else (none)) = some r := by first | (rw [hy185]; with_reducible exact H) | (have H2_ := (Option.bind_some _ _).symm.trans H; rw [hy185]; with_reducible exact H2_) | (have H2_ := (Option.bind_some _ _).symm.trans H; with_reducible exact H2_) | with_reducible exact H | (rw [hy185]; exact H) | exact H
      have Ny185 := Aside0.mk hy185; clear hy185; by_cases c5 : x3_1.length < 2513169434916
      ·
       rw [if_pos c5] at H; have LMc5 := Aside0.mk c5; clear c5; obtain ⟨y188, hy188⟩ : ∃ y_ : List (S27), y_ = (x3_1 ++ [(⟨(rd_T27 l0 x4_1).f0, (rd_T27 l0 x4_1).f1, y185, (rd_T27 l0 x4_1).f3⟩ : S27)]) := ⟨_, rfl⟩; replace H : (spileref09_Copy.l0 k1 l0 y188 (wrap64 (x4_1 + 1))) = some r := by first | (rw [hy188]; with_reducible exact H) | (have H2_ := (Option.bind_some _ _).symm.trans H; rw [hy188]; with_reducible exact H2_) | (have H2_ := (Option.bind_some _ _).symm.trans H; with_reducible exact H2_) | with_reducible exact H | (rw [hy188]; exact H) | exact H
       have Ny188 := Aside0.mk hy188; clear hy188; have H' := Aside0.mk H; clear H; have p180 : 0 ≤ (x4_1 : Int) := of_decide_eq_true (by first | (with_reducible assumption) | assumption); have q180 : x4_1 < (l0.length : Int) := of_decide_eq_true (by first | (with_reducible assumption) | assumption); obtain ⟨ad180, A180_2, c180_2, e180, hx180_0, hx180_1, hx180_2, hx180_3, hl180_2, hi180_2⟩ := at_T27 HR0.out x4_1 p180 q180; cases e180; replace hx180_0 := (HB.out.cell (World.block_lt_of_cell? w _ hx180_0)).trans hx180_0; replace hx180_1 := (HB.out.cell (World.block_lt_of_cell? w _ hx180_1)).trans hx180_1; replace hx180_2 := (HB.out.cell (World.block_lt_of_cell? w _ hx180_2)).trans hx180_2; replace hx180_3 := (HB.out.cell (World.block_lt_of_cell? w _ hx180_3)).trans hx180_3; have HR180_2 := Aside0.mk hi180_2; have HC180_2 := Aside0.mk hl180_2; clear hi180_2 hl180_2; replace p180 := eq_true p180; replace q180 := eq_true q180; go_wp2_with (first | ((with_reducible refine gate_dst (N := 5) rfl ?_); refine box_event ?hg (N := 5) ?hd (cs := #[.string (⟨#[]⟩ : ByteArray), .int .i64 0, .slice none 0 0, .int .i64 0]) (t := 27) ?hr ?_; (case hd => rfl); (case hg => rfl); (case hr => first | (go_simp; done) | (go_simp; rfl)); intro gb181 hg w6 hbox hb; have n0_ := Aside0.mk (Kd.S_below (Kd.S_elderB (by (with_reducible repeat (first | apply Kd.S_alloc | apply Kd.S_drewN | apply Kd.S_drew)); exact HO_3.out) gb181 (Nat.le_of_eq hg.symm)) hb); have n1_ := Aside0.mk (below_step (by repeat (first | (with_reducible first | exact HB.out | apply below_alloc | apply pw_below_drewN | apply below_drew1) | exact HB.out)) hb); have n2_ := Aside0.mk (hbox); have n3_ := Aside0.mk ((by rw [hg]; exact (below_size (by repeat (first | (with_reducible first | exact HB.out | apply below_alloc | apply pw_below_drewN | apply below_drew1) | exact HB.out))) : w.heap.size ≤ gb181)); have n4_ := Aside0.mk ((by rw [hg]; exact (below_size (by repeat (first | (with_reducible first | exact HB.out | apply below_alloc | apply pw_below_drewN | apply below_drew1) | exact HB.out))) : w.heap.size ≤ gb181)); clear HO_3; clear HB; have HO_3 := n0_; have HB := n1_; have BK181 := n2_; have GW181 := n3_; have GE181 := n4_; clear n0_ n1_ n2_ n3_ n4_; clear hb hbox hg; have hcz7_0 : w6.cell? ⟨gb181, 0, none⟩ = some (.string (⟨#[]⟩ : ByteArray)) := (blk_cell BK181.out 0).trans rfl; have hcz7_1 : w6.cell? ⟨gb181, 1, none⟩ = some (.int .i64 0) := (blk_cell BK181.out 1).trans rfl; have hcz7_2 : w6.cell? ⟨gb181, 2, none⟩ = some (.slice none 0 0) := (blk_cell BK181.out 2).trans rfl; have hcz7_3 : w6.cell? ⟨gb181, 3, none⟩ = some (.int .i64 0) := (blk_cell BK181.out 3).trans rfl; have hfz7_0 := blk_frozen BK181.out 0; have hfz7_1 := blk_frozen BK181.out 1; have hfz7_2 := blk_frozen BK181.out 2; have hfz7_3 := blk_frozen BK181.out 3) | ((with_reducible refine gate_dst (N := 16) rfl ?_); refine Kd.R_lit k46 _ 46 ?hg (N := 16) ?hd (xs := ([] : List (S46))) (inner := []) (ok := fun _ => True) (okp := fun _ => True) ?hr ?hp (fun _ hk => hk) trivial (Below.refl _ _) (Nat.le_refl _) (by simp) ?_; (case hd => rfl); (case hg => rfl); (case hr => first | (go_simp; done) | (go_simp; rfl)); (case hp => exact (Reps.none _ _)); intro v183 w8 ho9 hb hg_ hnew_; clear hg_ hnew_; (first | rw [← Ny182.out] at ho9 | (simp only [Int.reduceToNat] at ho9; rw [← Ny182.out] at ho9)); have n0_ := Aside0.mk (Kd.S_elder' (by (with_reducible repeat (first | apply Kd.S_alloc | apply Kd.S_drewN | apply Kd.S_drew)); exact (Kd.S_mono (Kd.S_far (p := ⟨gb181, 3, none⟩) (Kd.S_far (p := ⟨gb181, 2, none⟩) (Kd.S_far (p := ⟨gb181, 1, none⟩) (Kd.S_far (p := ⟨gb181, 0, none⟩) (Kd.S_mono HO_3.out (fun k_ hk => (⟨hk, hk.2⟩ : _ ∧ k_ ≠ gb181))) (fun _ hk => hk.2) (.string ((rd_T27 l0 x4_1).f0))) (fun _ hk => hk.2) (.int .i64 ((rd_T27 l0 x4_1).f1))) (fun _ hk => hk.2) (.slice A180_2 ((rd_T27 l0 x4_1).f2).length c180_2)) (fun _ hk => hk.2) (.int .i64 ((rd_T27 l0 x4_1).f3))) (fun _ h_ => h_.1))) (Kd.R_base ho9) hb); have n1_ := Aside0.mk (Kd.R_lower ho9 (below_size (by repeat (first | (with_reducible first | exact HB.out | apply below_alloc | apply pw_below_drewN | apply below_drew1 | refine below_set ?_ GE181.out) | exact HB.out)))); have n2_ := Aside0.mk (blk_below (g := gb181) (o := .cells #[.string ((rd_T27 l0 x4_1).f0), .int .i64 ((rd_T27 l0 x4_1).f1), .slice A180_2 ((rd_T27 l0 x4_1).f2).length c180_2, .int .i64 ((rd_T27 l0 x4_1).f3)] 27 (0, 0)) (by (with_reducible repeat (first | refine blk_drewN ?_ _ | refine blk_drew ?_ | refine blk_alloc ?_ _)); refine blk_put (cs := #[.string ((rd_T27 l0 x4_1).f0), .int .i64 ((rd_T27 l0 x4_1).f1), .slice A180_2 ((rd_T27 l0 x4_1).f2).length c180_2, .int .i64 0]) ?_ 3 _ rfl; (with_reducible repeat (first | refine blk_drewN ?_ _ | refine blk_drew ?_ | refine blk_alloc ?_ _)); refine blk_put (cs := #[.string ((rd_T27 l0 x4_1).f0), .int .i64 ((rd_T27 l0 x4_1).f1), .slice none 0 0, .int .i64 0]) ?_ 2 _ rfl; (with_reducible repeat (first | refine blk_drewN ?_ _ | refine blk_drew ?_ | refine blk_alloc ?_ _)); refine blk_put (cs := #[.string ((rd_T27 l0 x4_1).f0), .int .i64 0, .slice none 0 0, .int .i64 0]) ?_ 1 _ rfl; (with_reducible repeat (first | refine blk_drewN ?_ _ | refine blk_drew ?_ | refine blk_alloc ?_ _)); refine blk_put (cs := #[.string (⟨#[]⟩ : ByteArray), .int .i64 0, .slice none 0 0, .int .i64 0]) ?_ 0 _ rfl; (with_reducible repeat (first | refine blk_drewN ?_ _ | refine blk_drew ?_ | refine blk_alloc ?_ _)); exact BK181.out) hb); have n3_ := Aside0.mk (below_step (by repeat (first | (with_reducible first | exact HB.out | apply below_alloc | apply pw_below_drewN | apply below_drew1 | refine below_set ?_ GE181.out) | exact HB.out)) hb); clear HO_3; clear BK181; clear HB; have HO_3 := n0_; have HO184 := n1_; have BK181 := n2_; have HB := n3_; clear n0_ n1_ n2_ n3_; clear hb ho9; have hcz10_0 : w8.cell? ⟨gb181, 0, none⟩ = some (.string ((rd_T27 l0 x4_1).f0)) := (blk_cell BK181.out 0).trans rfl; have hcz10_1 : w8.cell? ⟨gb181, 1, none⟩ = some (.int .i64 ((rd_T27 l0 x4_1).f1)) := (blk_cell BK181.out 1).trans rfl; have hcz10_2 : w8.cell? ⟨gb181, 2, none⟩ = some (.slice A180_2 ((rd_T27 l0 x4_1).f2).length c180_2) := (blk_cell BK181.out 2).trans rfl; have hcz10_3 : w8.cell? ⟨gb181, 3, none⟩ = some (.int .i64 ((rd_T27 l0 x4_1).f3)) := (blk_cell BK181.out 3).trans rfl; have hfz10_0 := blk_frozen BK181.out 0; have hfz10_1 := blk_frozen BK181.out 1; have hfz10_2 := blk_frozen BK181.out 2; have hfz10_3 := blk_frozen BK181.out 3) | ((with_reducible refine gate_builtin (b := .append) (xs := #[.tmp 16, .tmp 18]) rfl ?_); at_builtin; refine Kd.R_append_rows k46 (w0 := w) w.heap.size rfl (.tmp 16) (.tmp 18) 25 46 (.agg #[(.int .i64 0), (.int .i64 0)]) 16 rfl Tryd.underlying25 info46 rfl (by decide) (by omega) v183 y182 ((rd_T27 l0 x4_1).f2) _ _ _ (fun _ => True) (fun _ => False) rfl rfl ?aO ?aR (fun _ _ h => h) (fun _ h => h.elim) ?aF ?aB ?aS ?aL ?_; (case aR => repeat (first | exact (Kd.C_below HR180_2.out HB.out) | (with_reducible refine Kd.C_alloc ?_ _) | (with_reducible refine Kd.C_drewN ?_ _) | (with_reducible refine Kd.C_drew ?_))); (case aB => exact (by repeat (first | (with_reducible first | exact HB.out | apply below_alloc | apply pw_below_drewN | apply below_drew1 | refine below_set ?_ GE181.out) | exact HB.out))); (case aF => exact (fun _ _ => trivial)); (case aO => exact (by (with_reducible repeat (first | apply Kd.R_alloc | apply Kd.R_drewN | apply Kd.R_drew)); exact HO184.out)); (case aS => exact (below_size (by repeat (first | (with_reducible first | exact HB.out | apply below_alloc | apply pw_below_drewN | apply below_drew1 | refine below_set ?_ GE181.out) | exact HB.out)))); (case aL => have := LMc4.out; omega); intro v186 w11 ho hb hg hat; rw [← Ny185.out] at ho; have n0_ := Aside0.mk (Kd.S_after (ok := (fun k_ => k_ ≠ gb181)) (by (with_reducible repeat (first | apply Kd.S_alloc | apply Kd.S_drewN | apply Kd.S_drew)); exact Kd.S_mono HO_3.out (fun _ hk => ⟨hk.1.2, hk.2⟩)) hg hat); have n1_ := Aside0.mk (blk_grown (g := gb181) (o := .cells #[.string ((rd_T27 l0 x4_1).f0), .int .i64 ((rd_T27 l0 x4_1).f1), .slice A180_2 ((rd_T27 l0 x4_1).f2).length c180_2, .int .i64 ((rd_T27 l0 x4_1).f3)] 27 (0, 0)) (by (with_reducible repeat (first | refine blk_drewN ?_ _ | refine blk_drew ?_ | refine blk_alloc ?_ _)); exact BK181.out) hg (Kd.R_ne HO184.out BK181.out (by decide))); have n2_ := Aside0.mk (hb); have n3_ := Aside0.mk (ho); clear HO_3; clear BK181; clear HB; clear HO184; have HO_3 := n0_; have BK181 := n1_; have HB := n2_; have HO187 := n3_; clear n0_ n1_ n2_ n3_; clear ho hb hg hat; obtain ⟨Ao12, co12, eo12⟩ := Kd.R_slice HO187.out; subst eo12; have hcz13_0 : w11.cell? ⟨gb181, 0, none⟩ = some (.string ((rd_T27 l0 x4_1).f0)) := (blk_cell BK181.out 0).trans rfl; have hcz13_1 : w11.cell? ⟨gb181, 1, none⟩ = some (.int .i64 ((rd_T27 l0 x4_1).f1)) := (blk_cell BK181.out 1).trans rfl; have hcz13_2 : w11.cell? ⟨gb181, 2, none⟩ = some (.slice A180_2 ((rd_T27 l0 x4_1).f2).length c180_2) := (blk_cell BK181.out 2).trans rfl; have hcz13_3 : w11.cell? ⟨gb181, 3, none⟩ = some (.int .i64 ((rd_T27 l0 x4_1).f3)) := (blk_cell BK181.out 3).trans rfl; have hfz13_0 := blk_frozen BK181.out 0; have hfz13_1 := blk_frozen BK181.out 1; have hfz13_2 := blk_frozen BK181.out 2; have hfz13_3 := blk_frozen BK181.out 3) | ((with_reducible refine gate_store (t := 25) (p := 20) rfl ?_); refine store_event (t := 25) (p := 20) (v := ?vo_w14) (w1 := (w11.setCell ⟨gb181, 2, none⟩ (.slice Ao12 y185.length co12))) ?hg ?ho ?hn ?hr ?_; (case ho => rfl); (case hg => rfl); (case hn => rfl); (case hr => first | (go_simp; done) | (go_simp; rfl)); intro w14 hw; have n0_ : Aside0 (Kd.S k27 27 w14 w.heap.size (fun k_ => some k_ ≠ (.slice Ao12 y185.length co12 : Value).ownBlock ∧ k_ ≠ gb181) u3 x3_1) := ⟨(by rw [hw]; exact (by (with_reducible repeat (first | apply Kd.S_alloc | apply Kd.S_drewN | apply Kd.S_drew)); exact Kd.S_mono (Kd.S_far (p := ⟨gb181, 2, none⟩) (Kd.S_mono HO_3.out (fun k_ hk => (⟨hk, hk.1⟩ : _ ∧ k_ ≠ gb181))) (fun _ hk => hk.2) (.slice Ao12 y185.length co12)) (fun _ hk => ⟨hk.1.2, hk.1.1⟩)))⟩; have n1_ : Aside0 (Kd.R k46 46 w14 w.heap.size (fun _ => True) (.slice Ao12 y185.length co12) y185) := ⟨(by rw [hw]; exact (by (with_reducible repeat (first | apply Kd.R_alloc | apply Kd.R_drewN | apply Kd.R_drew)); exact Kd.R_mono (Kd.R_far (p := ⟨gb181, 2, none⟩) (Kd.R_types HO187.out BK181.out (by decide)) (fun _ hk => hk.2) (.slice Ao12 y185.length co12)) (fun _ hk => trivial)))⟩; have n2_ : Aside0 (w14.heap[gb181]? = some (.cells #[.string ((rd_T27 l0 x4_1).f0), .int .i64 ((rd_T27 l0 x4_1).f1), .slice Ao12 y185.length co12, .int .i64 ((rd_T27 l0 x4_1).f3)] 27 (0, 0))) := ⟨(by rw [hw]; exact (by (with_reducible repeat (first | refine blk_drewN ?_ _ | refine blk_drew ?_ | refine blk_alloc ?_ _)); refine blk_put (cs := #[.string ((rd_T27 l0 x4_1).f0), .int .i64 ((rd_T27 l0 x4_1).f1), .slice A180_2 ((rd_T27 l0 x4_1).f2).length c180_2, .int .i64 ((rd_T27 l0 x4_1).f3)]) ?_ 2 _ rfl; (with_reducible repeat (first | refine blk_drewN ?_ _ | refine blk_drew ?_ | refine blk_alloc ?_ _)); exact BK181.out))⟩; have n3_ : Aside0 (Below w.heap.size w w14) := ⟨(by rw [hw]; exact (by repeat (first | (with_reducible first | exact HB.out | apply below_alloc | apply pw_below_drewN | apply below_drew1 | refine below_set ?_ GE181.out) | exact HB.out)))⟩; clear hw; clear HO_3; clear HO187; clear BK181; clear HB; have HO_3 := n0_; have HO187 := n1_; have BK181 := n2_; have HB := n3_; clear n0_ n1_ n2_ n3_; have hcz15_0 : w14.cell? ⟨gb181, 0, none⟩ = some (.string ((rd_T27 l0 x4_1).f0)) := (blk_cell BK181.out 0).trans rfl; have hcz15_1 : w14.cell? ⟨gb181, 1, none⟩ = some (.int .i64 ((rd_T27 l0 x4_1).f1)) := (blk_cell BK181.out 1).trans rfl; have hcz15_2 : w14.cell? ⟨gb181, 2, none⟩ = some (.slice Ao12 y185.length co12) := (blk_cell BK181.out 2).trans rfl; have hcz15_3 : w14.cell? ⟨gb181, 3, none⟩ = some (.int .i64 ((rd_T27 l0 x4_1).f3)) := (blk_cell BK181.out 3).trans rfl; have hfz15_0 := blk_frozen BK181.out 0; have hfz15_1 := blk_frozen BK181.out 1; have hfz15_2 := blk_frozen BK181.out 2; have hfz15_3 := blk_frozen BK181.out 3) | ((with_reducible refine gate_builtin (b := .append) (xs := #[.tmp 21, .tmp 23]) rfl ?_); at_builtin; refine Kd.S_append k27 (w0 := w) w.heap.size rfl (.tmp 21) (.tmp 23) 22 27 (.agg #[(.string ⟨#[]⟩), (.int .i64 0), (.slice none 0 0), (.int .i64 0)]) 56 rfl Tryd.underlying22 info27 rfl (by decide) (by omega) u3 x3_1 (⟨(rd_T27 l0 x4_1).f0, (rd_T27 l0 x4_1).f1, y185, (rd_T27 l0 x4_1).f3⟩ : S27) [.string ((rd_T27 l0 x4_1).f0), .int .i64 ((rd_T27 l0 x4_1).f1), .slice Ao12 y185.length co12, .int .i64 ((rd_T27 l0 x4_1).f3)] (fun k_ => k_ ≠ gb181) (fun k_ => some k_ = (.slice Ao12 y185.length co12 : Value).ownBlock) rfl rfl ?aP (fun k_ hk_ => ((Kd.R_mono (ok' := fun k_ => ((fun k_ => k_ ≠ gb181)) k_ ∧ some k_ ≠ (u3 : Value).ownBlock) (Kd.R_types (Kd.R_apart' (HO187.out) (Kd.S_typed HO_3.out) (by decide)) BK181.out (by decide)) (fun k_ hk => ⟨hk.2, hk.1.2⟩))).1 k_ hk_.symm) ?aF ?aO ?aB ?aS ?aL ?_; (case aP => exact k27_mkM _ _ _ (⟨(rd_T27 l0 x4_1).f0, (rd_T27 l0 x4_1).f1, y185, (rd_T27 l0 x4_1).f3⟩ : S27) (Kd.R_mono (Kd.R_tight rfl (Kd.R_mono (ok' := fun k_ => ((fun k_ => k_ ≠ gb181)) k_ ∧ some k_ ≠ (u3 : Value).ownBlock) (Kd.R_types (Kd.R_apart' (HO187.out) (Kd.S_typed HO_3.out) (by decide)) BK181.out (by decide)) (fun k_ hk => ⟨hk.2, hk.1.2⟩))) (fun _ h_ => h_))); (case aB => exact (by repeat (first | (with_reducible first | exact HB.out | apply below_alloc | apply pw_below_drewN | apply below_drew1 | refine below_set ?_ GE181.out) | exact HB.out))); (case aF => exact (fun k_ hk => Kd.freshB (g := gb181) (o := .cells #[.string ((rd_T27 l0 x4_1).f0), .int .i64 ((rd_T27 l0 x4_1).f1), .slice Ao12 y185.length co12, .int .i64 ((rd_T27 l0 x4_1).f3)] 27 (0, 0)) (by (with_reducible repeat (first | refine blk_drewN ?_ _ | refine blk_drew ?_ | refine blk_alloc ?_ _)); exact BK181.out) k_ hk)); (case aO => exact (by (with_reducible repeat (first | apply Kd.S_alloc | apply Kd.S_drewN | apply Kd.S_drew)); exact Kd.S_mono HO_3.out (fun k_ hk => ⟨hk.2, fun e_ => hk.1 e_⟩))); (case aS => exact (below_size (by repeat (first | (with_reducible first | exact HB.out | apply below_alloc | apply pw_below_drewN | apply below_drew1 | refine below_set ?_ GE181.out) | exact HB.out)))); (case aL => have := LMc5.out; omega); intro v189 w16 ho hb hg hat; rw [← Ny188.out] at ho; have n0_ := Aside0.mk (blk_grown (g := gb181) (o := .cells #[.string ((rd_T27 l0 x4_1).f0), .int .i64 ((rd_T27 l0 x4_1).f1), .slice Ao12 y185.length co12, .int .i64 ((rd_T27 l0 x4_1).f3)] 27 (0, 0)) (by (with_reducible repeat (first | refine blk_drewN ?_ _ | refine blk_drew ?_ | refine blk_alloc ?_ _)); exact BK181.out) hg (Kd.S_away HO_3.out (fun _ hk => hk.2))); have n1_ := Aside0.mk (hb); have n2_ := Aside0.mk (ho); clear BK181; clear HB; clear HO_3; clear HO187; have BK181 := n0_; have HB := n1_; have HO190 := n2_; clear n0_ n1_ n2_; clear ho hb hg hat))
       go_roundg k1
       case measure => have := HK1.out; omega
       case rel => exact ⟨(y188), (wrap64 (x4_1 + 1)), (by first | rfl | (simp; done) | (simp [*]; done)), H', ⟨by have := HK1.out; omega⟩, ⟨by (with_reducible repeat (first | apply Kd.S_alloc | apply Kd.S_drewN | apply Kd.S_drew)); exact Kd.S_mono HO190.out (fun _ hk => trivial)⟩, ⟨by repeat (first | (with_reducible first | exact HB.out | apply below_alloc | apply pw_below_drewN | apply below_drew1 | refine below_set ?_ GE181.out) | exact HB.out)⟩⟩
      · rw [if_neg c5] at H; exact absurd H (by simp)
     · rw [if_neg c4] at H; exact absurd H (by simp)
    · rw [if_neg c3] at H; exact absurd H (by simp)
   ·
    rw [if_neg c2] at H; have c2b0 : decide (x4_1 < (l0.length : Int)) = false := decide_eq_false c2; clear c2; obtain rfl := Option.some.inj H; go_wp2; go_ret
    exact ⟨_, by first | rfl | (simp [errW_none, errW_some] <;> rfl) | (simp [*, errW_none, errW_some] <;> rfl), by (with_reducible repeat (first | apply Kd.S_alloc | apply Kd.S_drewN | apply Kd.S_drew)); exact HO_3.out, by repeat (first | (with_reducible first | exact HB.out | apply below_alloc | apply pw_below_drewN | apply below_drew1) | exact HB.out)⟩
end Go.Proofs.YtnhmlneebnkjcaaDoor.Pr
namespace Go.Proofs.YtnhmlneebnkjcaaDoor.Pr
open Go.RowKit Go.Proofs.YtnhmlneebnkjcaaDoorW.PrintWords Go.Proofs.YtnhmlneebnkjcaaDoorW.PrintLast Go.Proofs.YtnhmlneebnkjcaaDoorW.PrintMore Go.Proofs.YtnhmlneebnkjcaaDoor.X
attribute [local go_sem] max2_int min2_int max_two min_two max_three min_three max_four min_four   -- for this text's walks alone
set_option linter.unusedVariables false
set_option linter.unusedSimpArgs false
def spileref09_IsName.l0 : Nat → ByteArray → Int → Option (Bool)
 | 0, _, _ => none
 | k + 1, x0, x3 => if x3 < (x0.size : Int) then (if 0 ≤ x3 then (if (bt x0 x3) ≥ 97 then (if (bt x0 x3) ≤ 122 then (spileref09_IsName.l0 k x0 (wrap64 (x3 + 1))) else (if (bt x0 x3) ≥ 65 then (if (bt x0 x3) ≤ 90 then (spileref09_IsName.l0 k x0 (wrap64 (x3 + 1))) else (if (bt x0 x3) ≥ 48 then (if (bt x0 x3) ≤ 57 then (spileref09_IsName.l0 k x0 (wrap64 (x3 + 1))) else (if (bt x0 x3) = 45 then (spileref09_IsName.l0 k x0 (wrap64 (x3 + 1))) else (if ((bt x0 x3) = 46) then (spileref09_IsName.l0 k x0 (wrap64 (x3 + 1))) else (some false)))) else (if (bt x0 x3) = 45 then (spileref09_IsName.l0 k x0 (wrap64 (x3 + 1))) else (if ((bt x0 x3) = 46) then (spileref09_IsName.l0 k x0 (wrap64 (x3 + 1))) else (some false))))) else (if (bt x0 x3) ≥ 48 then (if (bt x0 x3) ≤ 57 then (spileref09_IsName.l0 k x0 (wrap64 (x3 + 1))) else (if (bt x0 x3) = 45 then (spileref09_IsName.l0 k x0 (wrap64 (x3 + 1))) else (if ((bt x0 x3) = 46) then (spileref09_IsName.l0 k x0 (wrap64 (x3 + 1))) else (some false)))) else (if (bt x0 x3) = 45 then (spileref09_IsName.l0 k x0 (wrap64 (x3 + 1))) else (if ((bt x0 x3) = 46) then (spileref09_IsName.l0 k x0 (wrap64 (x3 + 1))) else (some false)))))) else (if (bt x0 x3) ≥ 65 then (if (bt x0 x3) ≤ 90 then (spileref09_IsName.l0 k x0 (wrap64 (x3 + 1))) else (if (bt x0 x3) ≥ 48 then (if (bt x0 x3) ≤ 57 then (spileref09_IsName.l0 k x0 (wrap64 (x3 + 1))) else (if (bt x0 x3) = 45 then (spileref09_IsName.l0 k x0 (wrap64 (x3 + 1))) else (if ((bt x0 x3) = 46) then (spileref09_IsName.l0 k x0 (wrap64 (x3 + 1))) else (some false)))) else (if (bt x0 x3) = 45 then (spileref09_IsName.l0 k x0 (wrap64 (x3 + 1))) else (if ((bt x0 x3) = 46) then (spileref09_IsName.l0 k x0 (wrap64 (x3 + 1))) else (some false))))) else (if (bt x0 x3) ≥ 48 then (if (bt x0 x3) ≤ 57 then (spileref09_IsName.l0 k x0 (wrap64 (x3 + 1))) else (if (bt x0 x3) = 45 then (spileref09_IsName.l0 k x0 (wrap64 (x3 + 1))) else (if ((bt x0 x3) = 46) then (spileref09_IsName.l0 k x0 (wrap64 (x3 + 1))) else (some false)))) else (if (bt x0 x3) = 45 then (spileref09_IsName.l0 k x0 (wrap64 (x3 + 1))) else (if ((bt x0 x3) = 46) then (spileref09_IsName.l0 k x0 (wrap64 (x3 + 1))) else (some false)))))) else (none)) else (if (x0.size : Int) ≥ 1 then (some (decide ((x0.size : Int) ≤ 64))) else (some false))
def spileref09_IsName.f (k : Nat) (a0 : ByteArray) : Option (Bool) := spileref09_IsName.l0 k a0 0
def spileref08_isLength.f (a0 : Int) : Option (Bool) := if a0 ≥ 0 then (some (decide (a0 ≤ 100000))) else (some false)
end Go.Proofs.YtnhmlneebnkjcaaDoor.Pr
namespace Go.Proofs.YtnhmlneebnkjcaaDoor.Pr
open Go.RowKit Go.Proofs.YtnhmlneebnkjcaaDoorW.PrintWords Go.Proofs.YtnhmlneebnkjcaaDoorW.PrintLast Go.Proofs.YtnhmlneebnkjcaaDoorW.PrintMore Go.Proofs.YtnhmlneebnkjcaaDoor.X
attribute [local go_sem] max2_int min2_int max_two min_two max_three min_three max_four min_four   -- for this text's walks alone
set_option linter.unusedVariables false
set_option linter.unusedSimpArgs false
mutual
def spileref08_Check.l0 : Nat → List (S46) → Int → Option (Int)
 | 0, _, _ => none
 | k + 1, x0, x3 => if x3 < (x0.length : Int) then (if 0 ≤ x3 then ((spileref08_isLength.f ((rd_T46 x0 x3).f0)).bind fun t192 => (if t192 = true then ((spileref08_isLength.f ((rd_T46 x0 x3).f1)).bind fun t194 => (if t194 = true then (spileref08_Check.l0 k x0 (wrap64 (x3 + 1))) else (some 2))) else (some 2))) else (none)) else (spileref08_Check.l1 k x0 0)
def spileref08_Check.l1 : Nat → List (S46) → Int → Option (Int)
 | 0, _, _ => none
 | k + 1, x0, x4 => if x4 < (x0.length : Int) then (if x4 = 0 then (if 0 ≤ x4 then (if ((rd_T46 x0 x4).f0) = 0 then (if x4 > 0 then (if 0 ≤ (wrap64 (x4 - 1)) then (if (wrap64 (x4 - 1)) < (x0.length : Int) then (if ((rd_T46 x0 (wrap64 (x4 - 1))).f0) ≥ ((rd_T46 x0 x4).f0) then (some 5) else (spileref08_Check.l1 k x0 (wrap64 (x4 + 1)))) else (none)) else (none)) else (spileref08_Check.l1 k x0 (wrap64 (x4 + 1)))) else (some 5)) else (none)) else (if x4 > 0 then (if 0 ≤ (wrap64 (x4 - 1)) then (if (wrap64 (x4 - 1)) < (x0.length : Int) then (if 0 ≤ x4 then (if ((rd_T46 x0 (wrap64 (x4 - 1))).f0) ≥ ((rd_T46 x0 x4).f0) then (some 5) else (spileref08_Check.l1 k x0 (wrap64 (x4 + 1)))) else (none)) else (none)) else (none)) else (spileref08_Check.l1 k x0 (wrap64 (x4 + 1))))) else (spileref08_Check.l2 k x0 0)
def spileref08_Check.l2 : Nat → List (S46) → Int → Option (Int)
 | 0, _, _ => none
 | k + 1, x0, x5 => if x5 < (x0.length : Int) then (if 0 ≤ x5 then (if ((rd_T46 x0 x5).f1) = 0 then (some 16) else (spileref08_Check.l2 k x0 (wrap64 (x5 + 1)))) else (none)) else (spileref08_Check.l3 k x0 false 1)
def spileref08_Check.l3 : Nat → List (S46) → Bool → Int → Option (Int)
 | 0, _, _, _ => none
 | k + 1, x0, x6, x7 => if x7 < (x0.length : Int) then (if x6 = true then (if 0 ≤ x7 then (if 0 ≤ (wrap64 (x7 - 1)) then (if (wrap64 (x7 - 1)) < (x0.length : Int) then (if ((rd_T46 x0 x7).f1) > ((rd_T46 x0 (wrap64 (x7 - 1))).f1) then (some 10) else (spileref08_Check.l3 k x0 true (wrap64 (x7 + 1)))) else (none)) else (none)) else (none)) else (if 0 ≤ x7 then (if 0 ≤ (wrap64 (x7 - 1)) then (if (wrap64 (x7 - 1)) < (x0.length : Int) then (spileref08_Check.l3 k x0 (decide (((rd_T46 x0 x7).f1) < ((rd_T46 x0 (wrap64 (x7 - 1))).f1))) (wrap64 (x7 + 1))) else (none)) else (none)) else (none))) else (some 0)
end
def spileref08_Check.f (k : Nat) (l0 : List (S46)) : Option (Int) := if (l0.length : Int) < 2 then (some 9) else (if (l0.length : Int) > 32 then (some 8) else (spileref08_Check.l0 k l0 0))
end Go.Proofs.YtnhmlneebnkjcaaDoor.Pr
namespace Go.Proofs.YtnhmlneebnkjcaaDoor.Pr
open Go.RowKit Go.Proofs.YtnhmlneebnkjcaaDoorW.PrintWords Go.Proofs.YtnhmlneebnkjcaaDoorW.PrintLast Go.Proofs.YtnhmlneebnkjcaaDoorW.PrintMore Go.Proofs.YtnhmlneebnkjcaaDoor.X
attribute [local go_sem] max2_int min2_int max_two min_two max_three min_three max_four min_four   -- for this text's walks alone
set_option linter.unusedVariables false
set_option linter.unusedSimpArgs false
def spileref09_Check.f (k : Nat) (a0_0 : ByteArray) (a0_1 : Int) (l0_2 : List (S46)) (a0_3 : Int) : Option (Int) := (spileref09_IsName.f k a0_0).bind fun t206 => (if t206 = true then (if a0_1 = 1 then (if a0_3 < 0 then (some 2) else (if a0_3 > 1073741824 then (some 2) else ((spileref08_Check.f k l0_2).bind fun t207 => (some t207)))) else (if a0_1 = 2 then (if a0_3 < 0 then (some 2) else (if a0_3 > 1073741824 then (some 2) else ((spileref08_Check.f k l0_2).bind fun t208 => (some t208)))) else (some 2))) else (some 4))
mutual
def spileref09_List.l0 : Nat → List (S27) → Int → Option (Int)
 | 0, _, _ => none
 | k + 1, x0, x3 => if x3 < (x0.length : Int) then (if 0 ≤ x3 then ((spileref09_Check.f k ((rd_T27 x0 x3).f0) ((rd_T27 x0 x3).f1) ((rd_T27 x0 x3).f2) ((rd_T27 x0 x3).f3)).bind fun t210 => (if t210 = 0 then (spileref09_List.l0 k x0 (wrap64 (x3 + 1))) else (some t210))) else (none)) else (spileref09_List.l1 k x0 0)
def spileref09_List.l1 : Nat → List (S27) → Int → Option (Int)
 | 0, _, _ => none
 | k + 1, x0, x5 => if x5 < (x0.length : Int) then (spileref09_List.l2 k x0 x5 0) else (some 0)
def spileref09_List.l2 : Nat → List (S27) → Int → Int → Option (Int)
 | 0, _, _, _ => none
 | k + 1, x0, x5, x6 => if x6 < x5 then (if 0 ≤ x5 then (if x5 < (x0.length : Int) then (if 0 ≤ x6 then (if x6 < (x0.length : Int) then (if ((rd_T27 x0 x5).f0).toList = ((rd_T27 x0 x6).f0).toList then (some 6) else (spileref09_List.l2 k x0 x5 (wrap64 (x6 + 1)))) else (none)) else (none)) else (none)) else (none)) else (spileref09_List.l1 k x0 (wrap64 (x5 + 1)))
end
def spileref09_List.f (k : Nat) (l0 : List (S27)) : Option (Int) := if (l0.length : Int) > 32 then (some 8) else (spileref09_List.l0 k l0 0)
end Go.Proofs.YtnhmlneebnkjcaaDoor.Pr
namespace Go.Proofs.YtnhmlneebnkjcaaDoor.Pr
open Go.RowKit Go.Proofs.YtnhmlneebnkjcaaDoorW.PrintWords Go.Proofs.YtnhmlneebnkjcaaDoorW.PrintLast Go.Proofs.YtnhmlneebnkjcaaDoorW.PrintMore Go.Proofs.YtnhmlneebnkjcaaDoor.X
attribute [local go_sem] max2_int min2_int max_two min_two max_three min_three max_four min_four   -- for this text's walks alone
set_option linter.unusedVariables false
set_option linter.unusedSimpArgs false
def spileref09_word.f (a0 : Int) : Option (ByteArray) := if a0 = 1 then (some (⟨#[108, 121, 105, 110, 103]⟩ : ByteArray)) else (some (⟨#[115, 116, 97, 110, 100, 105, 110, 103]⟩ : ByteArray))
mutual
def spileref09_Print.l0 : Nat → List (S27) → ByteArray → Int → Option (ByteArray × Int)
 | 0, _, _, _ => none
 | k + 1, x0, x5, x6 => if x6 < (x0.length : Int) then (if 0 ≤ x6 then (if 5 + ((rd_T27 x0 x6).f0).size ≤ 9223372036854775807 then (if ((⟨#[99, 97, 115, 107, 32]⟩ : ByteArray) ++ ((rd_T27 x0 x6).f0)).size + 1 ≤ 9223372036854775807 then ((spileref09_word.f ((rd_T27 x0 x6).f1)).bind fun t276 => (if (((⟨#[99, 97, 115, 107, 32]⟩ : ByteArray) ++ ((rd_T27 x0 x6).f0)) ++ (⟨#[32]⟩ : ByteArray)).size + t276.size ≤ 9223372036854775807 then (if ((((⟨#[99, 97, 115, 107, 32]⟩ : ByteArray) ++ ((rd_T27 x0 x6).f0)) ++ (⟨#[32]⟩ : ByteArray)) ++ t276).size + 10 ≤ 9223372036854775807 then ((strconv_Itoa.f ((rd_T27 x0 x6).f3)).bind fun t277 => (if (((((⟨#[99, 97, 115, 107, 32]⟩ : ByteArray) ++ ((rd_T27 x0 x6).f0)) ++ (⟨#[32]⟩ : ByteArray)) ++ t276) ++ (⟨#[32, 100, 101, 99, 108, 97, 114, 101, 100, 32]⟩ : ByteArray)).size + t277.size ≤ 9223372036854775807 then (if ((((((⟨#[99, 97, 115, 107, 32]⟩ : ByteArray) ++ ((rd_T27 x0 x6).f0)) ++ (⟨#[32]⟩ : ByteArray)) ++ t276) ++ (⟨#[32, 100, 101, 99, 108, 97, 114, 101, 100, 32]⟩ : ByteArray)) ++ t277).size + 1 ≤ 9223372036854775807 then (if x5.size + (((((((⟨#[99, 97, 115, 107, 32]⟩ : ByteArray) ++ ((rd_T27 x0 x6).f0)) ++ (⟨#[32]⟩ : ByteArray)) ++ t276) ++ (⟨#[32, 100, 101, 99, 108, 97, 114, 101, 100, 32]⟩ : ByteArray)) ++ t277) ++ (⟨#[10]⟩ : ByteArray)).size ≤ 9223372036854775807 then (spileref09_Print.l1 k x0 (x5 ++ (((((((⟨#[99, 97, 115, 107, 32]⟩ : ByteArray) ++ ((rd_T27 x0 x6).f0)) ++ (⟨#[32]⟩ : ByteArray)) ++ t276) ++ (⟨#[32, 100, 101, 99, 108, 97, 114, 101, 100, 32]⟩ : ByteArray)) ++ t277) ++ (⟨#[10]⟩ : ByteArray))) x6 0 ((rd_T27 x0 x6).f0) ((rd_T27 x0 x6).f1) ((rd_T27 x0 x6).f2) ((rd_T27 x0 x6).f3)) else (none)) else (none)) else (none))) else (none)) else (none))) else (none)) else (none)) else (none)) else (some (x5, 0))
def spileref09_Print.l1 : Nat → List (S27) → ByteArray → Int → Int → ByteArray → Int → List (S46) → Int → Option (ByteArray × Int)
 | 0, _, _, _, _, _, _, _, _ => none
 | k + 1, x0, x5, x6, x8, x276000, x276001, x276002, x276003 => if x8 < (x276002.length : Int) then (if 0 ≤ x8 then ((strconv_Itoa.f ((rd_T46 x276002 x8).f0)).bind fun t279 => (if 3 + t279.size ≤ 9223372036854775807 then (if ((⟨#[97, 116, 32]⟩ : ByteArray) ++ t279).size + 8 ≤ 9223372036854775807 then ((strconv_Itoa.f ((rd_T46 x276002 x8).f1)).bind fun t281 => (if (((⟨#[97, 116, 32]⟩ : ByteArray) ++ t279) ++ (⟨#[32, 114, 97, 100, 105, 117, 115, 32]⟩ : ByteArray)).size + t281.size ≤ 9223372036854775807 then (if ((((⟨#[97, 116, 32]⟩ : ByteArray) ++ t279) ++ (⟨#[32, 114, 97, 100, 105, 117, 115, 32]⟩ : ByteArray)) ++ t281).size + 1 ≤ 9223372036854775807 then (if x5.size + (((((⟨#[97, 116, 32]⟩ : ByteArray) ++ t279) ++ (⟨#[32, 114, 97, 100, 105, 117, 115, 32]⟩ : ByteArray)) ++ t281) ++ (⟨#[10]⟩ : ByteArray)).size ≤ 9223372036854775807 then (spileref09_Print.l1 k x0 (x5 ++ (((((⟨#[97, 116, 32]⟩ : ByteArray) ++ t279) ++ (⟨#[32, 114, 97, 100, 105, 117, 115, 32]⟩ : ByteArray)) ++ t281) ++ (⟨#[10]⟩ : ByteArray))) x6 (wrap64 (x8 + 1)) x276000 x276001 x276002 x276003) else (none)) else (none)) else (none))) else (none)) else (none))) else (none)) else (if x5.size + 4 ≤ 9223372036854775807 then (spileref09_Print.l0 k x0 (x5 ++ (⟨#[101, 110, 100, 10]⟩ : ByteArray)) (wrap64 (x6 + 1))) else (none))
end
def spileref09_Print.f (k : Nat) (l0 : List (S27)) : Option (ByteArray × Int) := (spileref09_List.f k l0).bind fun t273 => (if t273 = 0 then (spileref09_Print.l0 k l0 (⟨#[]⟩ : ByteArray) 0) else (some ((⟨#[]⟩ : ByteArray), t273)))
end Go.Proofs.YtnhmlneebnkjcaaDoor.Pr
namespace Go.Proofs.YtnhmlneebnkjcaaDoor.Pr
open Go.RowKit Go.Proofs.YtnhmlneebnkjcaaDoorW.PrintWords Go.Proofs.YtnhmlneebnkjcaaDoorW.PrintLast Go.Proofs.YtnhmlneebnkjcaaDoorW.PrintMore Go.Proofs.YtnhmlneebnkjcaaDoor.X
attribute [local go_sem] max2_int min2_int max_two min_two max_three min_three max_four min_four   -- for this text's walks alone
set_option linter.unusedVariables false
set_option linter.unusedSimpArgs false
mutual
def spileref09_Words.l0 : Nat → ByteArray → List ByteArray → Int → Int → Option (List ByteArray × Bool)
 | 0, _, _, _, _ => none
 | k + 1, x0, x4, x5, x6 => if x6 ≤ (x0.size : Int) then (if x6 = (x0.size : Int) then (spileref09_Words.j1 k x0 x4 x5 x6 true) else (if 0 ≤ x6 then (if x6 < (x0.size : Int) then (spileref09_Words.j1 k x0 x4 x5 x6 ((bt x0 x6) == 32)) else (none)) else (none))) else (some (x4, true))
def spileref09_Words.j1 : Nat → ByteArray → List ByteArray → Int → Int → Bool → Option (List ByteArray × Bool)
 | 0, _, _, _, _, _ => none
 | k + 1, x0, x4, x5, x6, x22 => if x22 = true then (if x6 = x5 then (some (([] : List ByteArray), false)) else (if 0 ≤ x5 then (if x5 ≤ x6 then (if x6 ≤ (x0.size : Int) then (if x4.length < 8796093022208 then (spileref09_Words.l0 k x0 (x4 ++ [x0.extract (x5 : Int).toNat (x6 : Int).toNat]) (wrap64 (x6 + 1)) (wrap64 (x6 + 1))) else (none)) else (none)) else (none)) else (none))) else (spileref09_Words.l0 k x0 x4 x5 (wrap64 (x6 + 1)))
end
def spileref09_Words.f (k : Nat) (a0 : ByteArray) : Option (List ByteArray × Bool) := spileref09_Words.l0 k a0 ([] : List ByteArray) 0 0
mutual
def spileref09_Number.l0 : Nat → ByteArray → Int → Int → Option (Int × Bool)
 | 0, _, _, _ => none
 | k + 1, x0, x4, x5 => if x5 < (x0.size : Int) then (if 0 ≤ x5 then (if (bt x0 x5) < 48 then (spileref09_Number.j1 k x0 x4 x5 true) else (spileref09_Number.j1 k x0 x4 x5 (decide ((bt x0 x5) > 57)))) else (none)) else (if (x0.size : Int) ≥ 1 then (if (x0.size : Int) ≤ 10 then (if (x0.size : Int) = 1 then (some (x4, true)) else (if 0 < (x0.size : Int) then (some (x4, ((bt x0 0) != 48))) else (none))) else (some (x4, false))) else (some (x4, false)))
def spileref09_Number.j1 : Nat → ByteArray → Int → Int → Bool → Option (Int × Bool)
 | 0, _, _, _, _ => none
 | k + 1, x0, x4, x5, x21 => if x21 = true then (some (0, false)) else (if x5 < 10 then (if 0 ≤ x5 then (if x5 < (x0.size : Int) then (spileref09_Number.l0 k x0 (wrap64 ((wrap64 (10 * x4)) + (((bt x0 x5) - 48) % 256))) (wrap64 (x5 + 1))) else (none)) else (none)) else (spileref09_Number.l0 k x0 x4 (wrap64 (x5 + 1))))
end
def spileref09_Number.f (k : Nat) (a0 : ByteArray) : Option (Int × Bool) := spileref09_Number.l0 k a0 0 0
end Go.Proofs.YtnhmlneebnkjcaaDoor.Pr
namespace Go.Proofs.YtnhmlneebnkjcaaDoor.Pr
open Go.RowKit Go.Proofs.YtnhmlneebnkjcaaDoorW.PrintWords Go.Proofs.YtnhmlneebnkjcaaDoorW.PrintLast Go.Proofs.YtnhmlneebnkjcaaDoorW.PrintMore Go.Proofs.YtnhmlneebnkjcaaDoor.X
attribute [local go_sem] max2_int min2_int max_two min_two max_three min_three max_four min_four   -- for this text's walks alone
set_option linter.unusedVariables false
set_option linter.unusedSimpArgs false
def spileref09_head.j0 : Nat → List ByteArray → Bool → Option (ByteArray × Int × (List (S46)) × Int × Bool)
 | 0, _, _ => none
 | k + 1, x0, x33 => if x33 = true then (some ((⟨#[]⟩ : ByteArray), 0, ([] : List (S46)), 0, false)) else (if 4 < (x0.length : Int) then ((spileref09_Number.f k (rdOf ByteArray.empty x0 4)).bind fun bt301 => (if 1 < (x0.length : Int) then (if 2 < (x0.length : Int) then (if (rdOf ByteArray.empty x0 2).toList = ([108, 121, 105, 110, 103] : List UInt8) then (some (rdOf ByteArray.empty x0 1, 1, ([] : List (S46)), bt301.1, bt301.2)) else (some (rdOf ByteArray.empty x0 1, 2, ([] : List (S46)), bt301.1, bt301.2))) else (none)) else (none))) else (none))
def spileref09_head.f (k : Nat) (l0 : List ByteArray) : Option (ByteArray × Int × (List (S46)) × Int × Bool) := if (l0.length : Int) = 5 then (if 0 < (l0.length : Int) then (if (rdOf ByteArray.empty l0 0).toList = ([99, 97, 115, 107] : List UInt8) then (if 2 < (l0.length : Int) then (if (rdOf ByteArray.empty l0 2).toList = ([108, 121, 105, 110, 103] : List UInt8) then (if 3 < (l0.length : Int) then (spileref09_head.j0 k l0 ((rdOf ByteArray.empty l0 3).toList != ([100, 101, 99, 108, 97, 114, 101, 100] : List UInt8))) else (none)) else (if (rdOf ByteArray.empty l0 2).toList = ([115, 116, 97, 110, 100, 105, 110, 103] : List UInt8) then (if 3 < (l0.length : Int) then (spileref09_head.j0 k l0 ((rdOf ByteArray.empty l0 3).toList != ([100, 101, 99, 108, 97, 114, 101, 100] : List UInt8))) else (none)) else (spileref09_head.j0 k l0 true))) else (none)) else (spileref09_head.j0 k l0 true)) else (none)) else (spileref09_head.j0 k l0 true)
def spileref09_point.j0 : Nat → List ByteArray → Bool → Option (Int × Int × Bool)
 | 0, _, _ => none
 | k + 1, x0, x22 => if x22 = true then (some (0, 0, false)) else (if 1 < (x0.length : Int) then ((spileref09_Number.f k (rdOf ByteArray.empty x0 1)).bind fun bt310 => (if 3 < (x0.length : Int) then ((spileref09_Number.f k (rdOf ByteArray.empty x0 3)).bind fun bt313 => (if bt310.2 = true then (some (bt310.1, bt313.1, bt313.2)) else (some (bt310.1, bt313.1, false)))) else (none))) else (none))
def spileref09_point.f (k : Nat) (l0 : List ByteArray) : Option (Int × Int × Bool) := if (l0.length : Int) = 4 then (if 0 < (l0.length : Int) then (if (rdOf ByteArray.empty l0 0).toList = ([97, 116] : List UInt8) then (if 2 < (l0.length : Int) then (spileref09_point.j0 k l0 ((rdOf ByteArray.empty l0 2).toList != ([114, 97, 100, 105, 117, 115] : List UInt8))) else (none)) else (spileref09_point.j0 k l0 true)) else (none)) else (spileref09_point.j0 k l0 true)
end Go.Proofs.YtnhmlneebnkjcaaDoor.Pr
namespace Go.Proofs.YtnhmlneebnkjcaaDoor.Pr
open Go.RowKit Go.Proofs.YtnhmlneebnkjcaaDoorW.PrintWords Go.Proofs.YtnhmlneebnkjcaaDoorW.PrintLast Go.Proofs.YtnhmlneebnkjcaaDoorW.PrintMore Go.Proofs.YtnhmlneebnkjcaaDoor.X
attribute [local go_sem] max2_int min2_int max_two min_two max_three min_three max_four min_four   -- for this text's walks alone
set_option linter.unusedVariables false
set_option linter.unusedSimpArgs false
mutual
def spileref09_Parse.l0 : Nat → ByteArray → List (S27) → Bool → Int → Int → Int → Option ((List (S27)) × Int × Int)
 | 0, _, _, _, _, _, _ => none
 | k + 1, x0, x5, x6, x7, x8, x9 => if x9 < (x0.size : Int) then (if 0 ≤ x9 then (if (bt x0 x9) = 10 then (if 0 ≤ x8 then (if x8 ≤ x9 then (if x9 ≤ (x0.size : Int) then ((spileref09_Words.f k (x0.extract (x8 : Int).toNat (x9 : Int).toNat)).bind fun bt315 => (if bt315.2 = true then (if x6 = true then (if (bt315.1.length : Int) = 1 then (if 0 < (bt315.1.length : Int) then (spileref09_Parse.j1 k x0 x5 x6 (wrap64 (x7 + 1)) (wrap64 (x9 + 1)) x9 bt315.1 ((rdOf ByteArray.empty bt315.1 0).toList == ([101, 110, 100] : List UInt8))) else (none)) else (spileref09_Parse.j1 k x0 x5 x6 (wrap64 (x7 + 1)) (wrap64 (x9 + 1)) x9 bt315.1 false)) else ((spileref09_head.f k bt315.1).bind fun bt319 => (if bt319.2.2.2.2 = true then (if x5.length < 2513169434916 then (spileref09_Parse.l0 k x0 (x5 ++ [(⟨bt319.1, bt319.2.1, bt319.2.2.1, bt319.2.2.2.1⟩ : S27)]) true (wrap64 (x7 + 1)) (wrap64 (x9 + 1)) (wrap64 (x9 + 1))) else (none)) else (some (([] : List (S27)), wrap64 (x7 + 1), 3))))) else (some (([] : List (S27)), wrap64 (x7 + 1), 3)))) else (none)) else (none)) else (none)) else (spileref09_Parse.l0 k x0 x5 x6 x7 x8 (wrap64 (x9 + 1)))) else (none)) else (if x8 < (x0.size : Int) then (spileref09_Parse.j2 k x5 x7 true) else (spileref09_Parse.j2 k x5 x7 x6))
def spileref09_Parse.j1 : Nat → ByteArray → List (S27) → Bool → Int → Int → Int → List ByteArray → Bool → Option ((List (S27)) × Int × Int)
 | 0, _, _, _, _, _, _, _, _ => none
 | k + 1, x0, x5, x6, x7, x8, x9, x10, x67 => if x67 = true then (spileref09_Parse.l0 k x0 x5 false x7 x8 (wrap64 (x9 + 1))) else ((spileref09_point.f k x10).bind fun bt331 => (if bt331.2.2 = true then (if 0 ≤ (wrap64 ((x5.length : Int) - 1)) then (if (wrap64 ((x5.length : Int) - 1)) < (x5.length : Int) then (if ((rd_T27 x5 (wrap64 ((x5.length : Int) - 1))).f2).length < 8796093022208 then (spileref09_Parse.l0 k x0 (x5.set ((wrap64 ((x5.length : Int) - 1)) : Int).toNat (⟨(rd_T27 x5 (wrap64 ((x5.length : Int) - 1))).f0, (rd_T27 x5 (wrap64 ((x5.length : Int) - 1))).f1, (((rd_T27 x5 (wrap64 ((x5.length : Int) - 1))).f2) ++ [(⟨bt331.1, bt331.2.1⟩ : S46)]), (rd_T27 x5 (wrap64 ((x5.length : Int) - 1))).f3⟩ : S27)) x6 x7 x8 (wrap64 (x9 + 1))) else (none)) else (none)) else (none)) else (some (([] : List (S27)), x7, 3))))
def spileref09_Parse.j2 : Nat → List (S27) → Int → Bool → Option ((List (S27)) × Int × Int)
 | 0, _, _, _ => none
 | k + 1, x5, x7, x98 => if x98 = true then (some (([] : List (S27)), wrap64 (x7 + 1), 3)) else ((spileref09_List.f k x5).bind fun t340 => (if t340 = 0 then (some (x5, 0, 0)) else (some (([] : List (S27)), 0, t340))))
end
def spileref09_Parse.f (k : Nat) (a0 : ByteArray) : Option ((List (S27)) × Int × Int) := if (a0.size : Int) > 65536 then (some (([] : List (S27)), 0, 8)) else (spileref09_Parse.l0 k a0 ([] : List (S27)) false 0 0 0)
end Go.Proofs.YtnhmlneebnkjcaaDoor.Pr
namespace Go.Proofs.YtnhmlneebnkjcaaDoor.Pr
open Go.RowKit Go.Proofs.YtnhmlneebnkjcaaDoorW.PrintWords Go.Proofs.YtnhmlneebnkjcaaDoorW.PrintLast Go.Proofs.YtnhmlneebnkjcaaDoorW.PrintMore Go.Proofs.YtnhmlneebnkjcaaDoor.X
attribute [local go_sem] max2_int min2_int max_two min_two max_three min_three max_four min_four   -- for this text's walks alone
set_option linter.unusedVariables false
set_option linter.unusedSimpArgs false
def spilelaw09_CaskAgain.f (k : Nat) (a0 : ByteArray) : Option (Bool) := (spilelaw09_awake.f).bind fun t370 => (if t370 = true then (if (a0.size : Int) > 2000 then (some true) else ((cask_Parse.f k a0).bind fun bt371 => (if bt371.2.2 = 0 then ((spileref09_Copy.f k bt371.1).bind fun t376 => ((cask_Print.f k t376).bind fun bt379 => (if bt379.2 = 0 then (if bt371.2.1 = 0 then (if bt379.1.toList = a0.toList then ((cask_List.f k bt371.1).bind fun t381 => (some (t381 == 0))) else (none)) else (none)) else (none)))) else (if (bt371.1.length : Int) = 0 then (some ((decide (bt371.2.1 > 0)) == (bt371.2.2 == 3))) else (none))))) else (none))
set_option maxHeartbeats 8000000 in
set_option maxRecDepth 100000 in
theorem spilelaw09_CaskAgain.calls (k : Nat) (a0 : ByteArray) (r : Bool) (w : World) (hG : GI w) (hr_ : r = true) (h : spilelaw09_CaskAgain.f k a0 = some r) :
  Calls Tryd.prog 7 #[.string a0] w fun e w' => e = .returned (.bool r) ∧ Below w.heap.size w w' := by
 have HG := Aside0.mk hG; clear hG; have HB := Aside0.mk (Below.refl w.heap.size w); have H : ((spilelaw09_awake.f).bind fun t370 => (if t370 = true then (if (a0.size : Int) > 2000 then (some true) else ((cask_Parse.f k a0).bind fun bt371 => (if bt371.2.2 = 0 then ((spileref09_Copy.f k bt371.1).bind fun t376 => ((cask_Print.f k t376).bind fun bt379 => (if bt379.2 = 0 then (if bt371.2.1 = 0 then (if bt379.1.toList = a0.toList then ((cask_List.f k bt371.1).bind fun t381 => (some (t381 == 0))) else (none)) else (none)) else (none)))) else (if (bt371.1.length : Int) = 0 then (some ((decide (bt371.2.1 > 0)) == (bt371.2.2 == 3))) else (none))))) else (none))) = some r := h; clear h; replace H := Option.bind_eq_some_iff.mp H; obtain ⟨t370, A20, H⟩ := H; replace H : (if t370 = true then (if (a0.size : Int) > 2000 then (some true) else ((cask_Parse.f k a0).bind fun bt371 => (if bt371.2.2 = 0 then ((spileref09_Copy.f k bt371.1).bind fun t376 => ((cask_Print.f k t376).bind fun bt379 => (if bt379.2 = 0 then (if bt371.2.1 = 0 then (if bt379.1.toList = a0.toList then ((cask_List.f k bt371.1).bind fun t381 => (some (t381 == 0))) else (none)) else (none)) else (none)))) else (if (bt371.1.length : Int) = 0 then (some ((decide (bt371.2.1 > 0)) == (bt371.2.2 == 3))) else (none))))) else (none)) = some r := H; have A2 := Aside0.mk A20; clear A20; by_cases c3 : t370 = true
 ·
  subst c3; have H1 : (if (a0.size : Int) > 2000 then (some true) else ((cask_Parse.f k a0).bind fun bt371 => (if bt371.2.2 = 0 then ((spileref09_Copy.f k bt371.1).bind fun t376 => ((cask_Print.f k t376).bind fun bt379 => (if bt379.2 = 0 then (if bt371.2.1 = 0 then (if bt379.1.toList = a0.toList then ((cask_List.f k bt371.1).bind fun t381 => (some (t381 == 0))) else (none)) else (none)) else (none)))) else (if (bt371.1.length : Int) = 0 then (some ((decide (bt371.2.1 > 0)) == (bt371.2.2 == 3))) else (none))))) = some r := by rw [if_pos rfl] at H; exact H
  clear H; have H := H1; clear H1; by_cases c4 : (a0.size : Int) > 2000
  ·
   rw [if_pos c4] at H; have c4b0 : decide (2000 < (a0.size : Int)) = true := decide_eq_true c4; have c4b1 : decide (2000 < a0.size) = true := decide_eq_true (by omega); clear c4; obtain rfl := Option.some.inj H; go_enter Tryd.func7, Tryd.ntmps7
   go_wp2_with (first | ((with_reducible refine gate_callee (f := 10) rfl ?_); refine goesL_ (some 8) rfl rfl Tryd.func10 (by kernel_rfl) rfl #[] rfl (by (try simp only [List.map_toArray, List.map_cons, List.map_nil]); first | done | rfl | (simp only [List.length_drop, List.length_take]; rfl)) ?_; (with_reducible refine (spilelaw09_awake.calls  true _ ?side1 A2.out).mono ?_); (case side1 => exact GI.below HG.out (by repeat (first | (with_reducible first | exact HB.out | apply below_alloc | apply pw_below_drewN | apply below_drew1) | exact HB.out))); rintro e w5 ⟨rfl, hb⟩; refine ⟨_, rfl, ?_⟩; have n0_ := Aside0.mk (below_step (by repeat (first | (with_reducible first | exact HB.out | apply below_alloc | apply pw_below_drewN | apply below_drew1) | exact HB.out)) hb); clear HB; have HB := n0_; clear n0_; (try clear hb); (try clear hb2); (try clear hk); (try clear hi)))
   go_ret
   exact ⟨by first | rfl | (simp [errW_none, errW_some] <;> rfl) | (simp [*, errW_none, errW_some] <;> rfl), by repeat (first | (with_reducible first | exact HB.out | apply below_alloc | apply pw_below_drewN | apply below_drew1) | exact HB.out)⟩
  ·
   rw [if_neg c4] at H; have c4b0 : decide (2000 < (a0.size : Int)) = false := decide_eq_false c4; have c4b1 : decide (2000 < a0.size) = false := decide_eq_false (by omega); clear c4; replace H := Option.bind_eq_some_iff.mp H; obtain ⟨⟨t371, t372, t373⟩, A60, H⟩ := H; replace H : (if t373 = 0 then ((spileref09_Copy.f k t371).bind fun t376 => ((cask_Print.f k t376).bind fun bt379 => (if bt379.2 = 0 then (if t372 = 0 then (if bt379.1.toList = a0.toList then ((cask_List.f k t371).bind fun t381 => (some (t381 == 0))) else (none)) else (none)) else (none)))) else (if (t371.length : Int) = 0 then (some ((decide (t372 > 0)) == (t373 == 3))) else (none))) = some r := H; have A6 := Aside0.mk A60; clear A60; by_cases c7 : t373 = 0
   ·
    rw [if_pos c7] at H; have c7b0 : (t373 == 0) = true := beq_iff_eq.mpr c7; have c7b1 : (t373 != 0) = false := bne_eq_false_iff_eq.mpr c7; clear c7; replace H := Option.bind_eq_some_iff.mp H; obtain ⟨t376, A80, H⟩ := H; replace H : ((cask_Print.f k t376).bind fun bt379 => (if bt379.2 = 0 then (if t372 = 0 then (if bt379.1.toList = a0.toList then ((cask_List.f k t371).bind fun t381 => (some (t381 == 0))) else (none)) else (none)) else (none))) = some r := H; have A8 := Aside0.mk A80; clear A80; replace H := Option.bind_eq_some_iff.mp H; obtain ⟨⟨t379, t380⟩, A90, H⟩ := H; replace H : (if t380 = 0 then (if t372 = 0 then (if t379.toList = a0.toList then ((cask_List.f k t371).bind fun t381 => (some (t381 == 0))) else (none)) else (none)) else (none)) = some r := H; have A9 := Aside0.mk A90; clear A90; by_cases c10 : t380 = 0
    ·
     rw [if_pos c10] at H; have c10b0 : (t380 == 0) = true := beq_iff_eq.mpr c10; have c10b1 : (t380 != 0) = false := bne_eq_false_iff_eq.mpr c10; clear c10; by_cases c11 : t372 = 0
     ·
      rw [if_pos c11] at H; have c11b0 : (t372 == 0) = true := beq_iff_eq.mpr c11; have c11b1 : (t372 != 0) = false := bne_eq_false_iff_eq.mpr c11; clear c11; by_cases c12 : t379.toList = a0.toList
      ·
       rw [if_pos c12] at H; have c12b0 : (t379.toList == a0.toList) = true := beq_iff_eq.mpr c12; have c12b1 : (t379.toList != a0.toList) = false := bne_eq_false_iff_eq.mpr c12; clear c12; replace H := Option.bind_eq_some_iff.mp H; obtain ⟨t381, A130, H⟩ := H; replace H : (some (t381 == 0)) = some r := H; have A13 := Aside0.mk A130; clear A130; obtain rfl := Option.some.inj H; go_enter Tryd.func7, Tryd.ntmps7
       go_wp2_with (first | ((with_reducible refine gate_callee (f := 10) rfl ?_); refine goesL_ (some 8) rfl rfl Tryd.func10 (by kernel_rfl) rfl #[] rfl (by (try simp only [List.map_toArray, List.map_cons, List.map_nil]); first | done | rfl | (simp only [List.length_drop, List.length_take]; rfl)) ?_; (with_reducible refine (spilelaw09_awake.calls  true _ ?side1 A2.out).mono ?_); (case side1 => exact GI.below HG.out (by repeat (first | (with_reducible first | exact HB.out | apply below_alloc | apply pw_below_drewN | apply below_drew1) | exact HB.out))); rintro e w14 ⟨rfl, hb⟩; refine ⟨_, rfl, ?_⟩; have n0_ := Aside0.mk (below_step (by repeat (first | (with_reducible first | exact HB.out | apply below_alloc | apply pw_below_drewN | apply below_drew1) | exact HB.out)) hb); clear HB; have HB := n0_; clear n0_; (try clear hb); (try clear hb2); (try clear hk); (try clear hi)) | ((with_reducible refine gate_callee (f := 24) rfl ?_); refine goesL_ (some 15) rfl rfl Tryd.func24 (by kernel_rfl) rfl #[.string a0] rfl (by (try simp only [List.map_toArray, List.map_cons, List.map_nil]); first | done | rfl | (simp only [List.length_drop, List.length_take]; rfl)) ?_; (with_reducible refine (cask_Parse.calls k a0 t371 t372 t373 _ ?side1 A6.out).mono ?_); (case side1 => exact GI.below HG.out (by repeat (first | (with_reducible first | exact HB.out | apply below_alloc | apply pw_below_drewN | apply below_drew1) | exact HB.out))); rintro e w15 ⟨v374, rfl, ho0, hb⟩; refine ⟨_, rfl, ?_⟩; have n0_ := Aside0.mk (Kd.S_lower ho0 (below_size (by repeat (first | (with_reducible first | exact HB.out | apply below_alloc | apply pw_below_drewN | apply below_drew1) | exact HB.out)))); have n1_ := Aside0.mk (below_step (by repeat (first | (with_reducible first | exact HB.out | apply below_alloc | apply pw_below_drewN | apply below_drew1) | exact HB.out)) hb); clear HB; have HO375 := n0_; have HB := n1_; clear n0_ n1_; (try clear hb); (try clear hb2); (try clear hk); (try clear hi); (try clear ho0); obtain ⟨Ao16, co16, eo16⟩ := Kd.S_slice HO375.out; subst eo16) | ((with_reducible refine gate_callee (f := 13) rfl ?_); refine goesL_ (some 33) rfl rfl Tryd.func13 (by kernel_rfl) rfl #[.slice Ao16 t371.length co16] rfl (by (try simp only [List.map_toArray, List.map_cons, List.map_nil]); first | done | rfl | (simp only [List.length_drop, List.length_take]; rfl)) ?_; (with_reducible refine (spileref09_Copy.calls k _ _ t371 t376 _ ?side1 ?side2 A8.out).mono ?_); (case side1 => repeat (first | exact (Kd.S_reads' HO375.out).2.2 | (with_reducible refine Kd.C_alloc ?_ _) | (with_reducible refine Kd.C_drewN ?_ _) | (with_reducible refine Kd.C_drew ?_))); (case side2 => exact (Kd.S_reads' HO375.out).2.1); rintro e w17 ⟨v377, rfl, ho0, hb⟩; refine ⟨_, rfl, ?_⟩; have n0_ := Aside0.mk (Kd.S_elder' (by (with_reducible repeat (first | apply Kd.S_alloc | apply Kd.S_drewN | apply Kd.S_drew)); exact HO375.out) (Kd.S_base ho0) hb); have n1_ := Aside0.mk (Kd.S_lower (Kd.S_new' ho0 (Kd.S_lt (by (with_reducible repeat (first | apply Kd.S_alloc | apply Kd.S_drewN | apply Kd.S_drew)); exact HO375.out))) (below_size (by repeat (first | (with_reducible first | exact HB.out | apply below_alloc | apply pw_below_drewN | apply below_drew1) | exact HB.out)))); have n2_ := Aside0.mk (below_step (by repeat (first | (with_reducible first | exact HB.out | apply below_alloc | apply pw_below_drewN | apply below_drew1) | exact HB.out)) hb); clear HO375; clear HB; have HO375 := n0_; have HO378 := n1_; have HB := n2_; clear n0_ n1_ n2_; (try clear hb); (try clear hb2); (try clear hk); (try clear hi); (try clear ho0); obtain ⟨Ao18, co18, eo18⟩ := Kd.S_slice HO378.out; subst eo18) | ((with_reducible refine gate_callee (f := 22) rfl ?_); refine goesL_ (some 34) rfl rfl Tryd.func22 (by kernel_rfl) rfl #[.slice Ao18 t376.length co18] rfl (by (try simp only [List.map_toArray, List.map_cons, List.map_nil]); first | done | rfl | (simp only [List.length_drop, List.length_take]; rfl)) ?_; (with_reducible refine (cask_Print.calls k _ _ t376 t379 t380 _ ?side1 ?side2 ?side3 A9.out).mono ?_); (case side1 => repeat (first | exact (Kd.S_reads' HO378.out).2.2 | (with_reducible refine Kd.C_alloc ?_ _) | (with_reducible refine Kd.C_drewN ?_ _) | (with_reducible refine Kd.C_drew ?_))); (case side2 => exact (Kd.S_reads' HO378.out).2.1); (case side3 => exact GI.below HG.out (by repeat (first | (with_reducible first | exact HB.out | apply below_alloc | apply pw_below_drewN | apply below_drew1) | exact HB.out))); rintro e w19 ⟨rfl, hb⟩; refine ⟨_, rfl, ?_⟩; have n0_ := Aside0.mk (Kd.S_below (by (with_reducible repeat (first | apply Kd.S_alloc | apply Kd.S_drewN | apply Kd.S_drew)); exact HO375.out) hb); have n1_ := Aside0.mk (Kd.S_below (by (with_reducible repeat (first | apply Kd.S_alloc | apply Kd.S_drewN | apply Kd.S_drew)); exact HO378.out) hb); have n2_ := Aside0.mk (below_step (by repeat (first | (with_reducible first | exact HB.out | apply below_alloc | apply pw_below_drewN | apply below_drew1) | exact HB.out)) hb); clear HO375; clear HO378; clear HB; have HO375 := n0_; have HO378 := n1_; have HB := n2_; clear n0_ n1_ n2_; (try clear hb); (try clear hb2); (try clear hk); (try clear hi)) | (go_at_call 16; (with_reducible refine (cask_List.calls k _ _ t371 t381 _ ?side1 ?side2 A13.out).mono ?_); (case side1 => repeat (first | exact (Kd.S_reads' HO375.out).2.2 | (with_reducible refine Kd.C_alloc ?_ _) | (with_reducible refine Kd.C_drewN ?_ _) | (with_reducible refine Kd.C_drew ?_))); (case side2 => exact (Kd.S_reads' HO375.out).2.1); rintro e w20 ⟨rfl, hb⟩; have n0_ := Aside0.mk (Kd.S_below (by (with_reducible repeat (first | apply Kd.S_alloc | apply Kd.S_drewN | apply Kd.S_drew)); exact HO375.out) hb); have n1_ := Aside0.mk (Kd.S_below (by (with_reducible repeat (first | apply Kd.S_alloc | apply Kd.S_drewN | apply Kd.S_drew)); exact HO378.out) hb); have n2_ := Aside0.mk (below_step (by repeat (first | (with_reducible first | exact HB.out | apply below_alloc | apply pw_below_drewN | apply below_drew1) | exact HB.out)) hb); clear HO375; clear HO378; clear HB; have HO375 := n0_; have HO378 := n1_; have HB := n2_; clear n0_ n1_ n2_; (try clear hb); (try clear hb2); (try clear hk); (try clear hi)))
       go_ret
       exact ⟨by first | rfl | (simp [errW_none, errW_some] <;> rfl) | (simp [*, errW_none, errW_some] <;> rfl), by repeat (first | (with_reducible first | exact HB.out | apply below_alloc | apply pw_below_drewN | apply below_drew1) | exact HB.out)⟩
      · rw [if_neg c12] at H; have c12b0 : (t379.toList == a0.toList) = false := beq_eq_false_iff_ne.mpr c12; have c12b1 : (t379.toList != a0.toList) = true := bne_iff_ne.mpr c12; subst hr_; exact absurd H (by simp)
     · rw [if_neg c11] at H; have c11b0 : (t372 == 0) = false := beq_eq_false_iff_ne.mpr c11; have c11b1 : (t372 != 0) = true := bne_iff_ne.mpr c11; subst hr_; exact absurd H (by simp)
    · rw [if_neg c10] at H; have c10b0 : (t380 == 0) = false := beq_eq_false_iff_ne.mpr c10; have c10b1 : (t380 != 0) = true := bne_iff_ne.mpr c10; subst hr_; exact absurd H (by simp)
   ·
    rw [if_neg c7] at H; have c7b0 : (t373 == 0) = false := beq_eq_false_iff_ne.mpr c7; have c7b1 : (t373 != 0) = true := bne_iff_ne.mpr c7; by_cases c21 : (t371.length : Int) = 0
    ·
     rw [if_pos c21] at H; have c21b0 : ((t371.length : Int) == 0) = true := beq_iff_eq.mpr c21; have c21b1 : ((t371.length : Int) != 0) = false := bne_eq_false_iff_eq.mpr c21; clear c21; obtain rfl := Option.some.inj H; go_enter Tryd.func7, Tryd.ntmps7
     go_wp2_with (first | ((with_reducible refine gate_callee (f := 10) rfl ?_); refine goesL_ (some 8) rfl rfl Tryd.func10 (by kernel_rfl) rfl #[] rfl (by (try simp only [List.map_toArray, List.map_cons, List.map_nil]); first | done | rfl | (simp only [List.length_drop, List.length_take]; rfl)) ?_; (with_reducible refine (spilelaw09_awake.calls  true _ ?side1 A2.out).mono ?_); (case side1 => exact GI.below HG.out (by repeat (first | (with_reducible first | exact HB.out | apply below_alloc | apply pw_below_drewN | apply below_drew1) | exact HB.out))); rintro e w22 ⟨rfl, hb⟩; refine ⟨_, rfl, ?_⟩; have n0_ := Aside0.mk (below_step (by repeat (first | (with_reducible first | exact HB.out | apply below_alloc | apply pw_below_drewN | apply below_drew1) | exact HB.out)) hb); clear HB; have HB := n0_; clear n0_; (try clear hb); (try clear hb2); (try clear hk); (try clear hi)) | ((with_reducible refine gate_callee (f := 24) rfl ?_); refine goesL_ (some 15) rfl rfl Tryd.func24 (by kernel_rfl) rfl #[.string a0] rfl (by (try simp only [List.map_toArray, List.map_cons, List.map_nil]); first | done | rfl | (simp only [List.length_drop, List.length_take]; rfl)) ?_; (with_reducible refine (cask_Parse.calls k a0 t371 t372 t373 _ ?side1 A6.out).mono ?_); (case side1 => exact GI.below HG.out (by repeat (first | (with_reducible first | exact HB.out | apply below_alloc | apply pw_below_drewN | apply below_drew1) | exact HB.out))); rintro e w23 ⟨v374, rfl, ho0, hb⟩; refine ⟨_, rfl, ?_⟩; have n0_ := Aside0.mk (Kd.S_lower ho0 (below_size (by repeat (first | (with_reducible first | exact HB.out | apply below_alloc | apply pw_below_drewN | apply below_drew1) | exact HB.out)))); have n1_ := Aside0.mk (below_step (by repeat (first | (with_reducible first | exact HB.out | apply below_alloc | apply pw_below_drewN | apply below_drew1) | exact HB.out)) hb); clear HB; have HO375 := n0_; have HB := n1_; clear n0_ n1_; (try clear hb); (try clear hb2); (try clear hk); (try clear hi); (try clear ho0); obtain ⟨Ao24, co24, eo24⟩ := Kd.S_slice HO375.out; subst eo24))
     go_ret
     exact ⟨by first | rfl | (simp [errW_none, errW_some] <;> rfl) | (simp [*, errW_none, errW_some] <;> rfl), by repeat (first | (with_reducible first | exact HB.out | apply below_alloc | apply pw_below_drewN | apply below_drew1) | exact HB.out)⟩
    ·
     rw [if_neg c21] at H; have c21b0 : ((t371.length : Int) == 0) = false := beq_eq_false_iff_ne.mpr c21; have c21b1 : ((t371.length : Int) != 0) = true := bne_iff_ne.mpr c21; have c21b2 : ¬ (t371 = []) := fun h_ => c21 (by rw [h_]; rfl)
     subst hr_; exact absurd H (by simp)
 ·
  replace c3 := Bool.eq_false_iff.mpr c3; subst c3; have H1 : (none) = some r := by rw [if_neg (show ¬ (false = true) by decide)] at H; exact H
  clear H; have H := H1; clear H1; subst hr_; exact absurd H (by simp)
end Go.Proofs.YtnhmlneebnkjcaaDoor.Pr
namespace Go.Proofs.YtnhmlneebnkjcaaDoor.Pure
open Go Go.RowKit Go.Proofs.YtnhmlneebnkjcaaDoor.Pr
def caskAgainPure : Prop := ∀ (a0 : ByteArray), a0.size ≤ maxLen → ∃ k, spilelaw09_CaskAgain.f k a0 = some true
end Go.Proofs.YtnhmlneebnkjcaaDoor.Pure
namespace Go.Proofs.YtnhmlneebnkjcaaDoor.PL
open Go Go.RowKit Go.Proofs.YtnhmlneebnkjcaaDoorW.PrintWords Go.Proofs.YtnhmlneebnkjcaaDoorW.PrintLast Go.Proofs.YtnhmlneebnkjcaaDoorW.PrintMore
theorem evp {α : Type} {c : Prop} [Decidable c] {g h : Nat → Option α} {r : α} (hc : c) (k : Ev g r) : Ev (fun n => if c then g n else h n) r :=
  Ev.congr (fun n => if_pos hc) k
theorem evn {α : Type} {c : Prop} [Decidable c] {g h : Nat → Option α} {r : α} (hc : ¬ c) (k : Ev h r) : Ev (fun n => if c then g n else h n) r :=
  Ev.congr (fun n => if_neg hc) k
theorem evb {α β : Type} {g : Nat → Option α} {f : Nat → α → Option β} {a : α} {r : β} (h : Ev g a) (k : Ev (fun n => f n a) r) : Ev (fun n => (g n).bind (f n)) r := Ev.bind h k
theorem evr {α : Type} {a r : α} (h : a = r) : Ev (fun _ => some a) r := by subst h; exact Ev.now _
theorem evc {α : Type} {g : Nat → Option α} {r : α} {o : Option α} (hg : ∀ n, g n = o) (h : o = some r) : Ev g r := by
  subst h
  exact Ev.congr hg (Ev.now _)
theorem ev_unique {α : Type} {g : Nat → Option α} {a b : α} (h : Ev g a) (h2 : Ev g b) : a = b := by
  obtain ⟨K, h⟩ := h
  obtain ⟨K2, h2⟩ := h2
  have e1 := h (K + K2) (by omega)
  have e2 := h2 (K + K2) (by omega)
  rw [e1] at e2
  exact Option.some.inj e2
/-- A loop that counts upwards to n. -/
theorem count_up (a n : Int) (P : Int → Prop) (hend : P n) (hround : ∀ i, a ≤ i → i < n → P (i + 1) → P i) : ∀ i, a ≤ i → i ≤ n → P i := by
  intro i h0 h1
  obtain ⟨d, hd⟩ : ∃ d : Nat, n - i = d := ⟨(n - i).toNat, by omega⟩
  induction d generalizing i with
  | zero =>
    obtain rfl : i = n := by omega
    exact hend
  | succ d ih => exact hround i h0 (by omega) (ih (i + 1) (by omega) (by omega) (by omega))
theorem w64 {x : Int} (h0 : -9223372036854775808 ≤ x) (h1 : x ≤ 9223372036854775807) : wrap64 x = x := by
  unfold wrap64
  omega
theorem w64_succ {i n : Int} (h0 : 0 ≤ i) (h : i < n) (hn : n ≤ 9223372036854775807) : wrap64 (i + 1) = i + 1 := w64 (by omega) (by omega)
/-- A test that comes to true where P holds, and else to false. -/
def EvB (g : Nat → Option Bool) (P : Prop) : Prop := (P → Ev g true) ∧ (¬ P → Ev g false)
theorem EvB.get {g : Nat → Option Bool} {P : Prop} (h : EvB g P) : ∃ b, Ev g b ∧ (b = true ↔ P) := by
  by_cases hp : P
  · exact ⟨true, h.1 hp, by simp [hp]⟩
  · exact ⟨false, h.2 hp, by simp [hp]⟩
theorem EvB.map {g : Nat → Option Bool} {f : Nat → Bool → Option Bool} {P Q : Prop} (h : EvB g P) (ht : P → EvB (fun n => f n true) Q) (hf : ¬ P → EvB (fun n => f n false) Q) : EvB (fun n => (g n).bind (f n)) Q := by
  by_cases hp : P
  · exact ⟨fun q => Ev.bind (h.1 hp) ((ht hp).1 q), fun q => Ev.bind (h.1 hp) ((ht hp).2 q)⟩
  · exact ⟨fun q => Ev.bind (h.2 hp) ((hf hp).1 q), fun q => Ev.bind (h.2 hp) ((hf hp).2 q)⟩
theorem evB_all (a n : Int) (Q : Int → Prop) (L : Int → Nat → Option Bool) (hend : Ev (L n) true) (hno : ∀ i, a ≤ i → i < n → ¬ Q i → Ev (L i) false)
    (hyes : ∀ i, a ≤ i → i < n → Q i → ∀ b, Ev (L (i + 1)) b → Ev (L i) b) : ∀ i, a ≤ i → i ≤ n → EvB (L i) (∀ j, i ≤ j → j < n → Q j) := by
  refine count_up a n _ ⟨fun _ => hend, fun h => absurd (fun j h1 h2 => absurd h2 (by omega)) h⟩ ?_
  intro i h0 h1 ih
  by_cases hq : Q i
  · refine ⟨fun h => hyes i h0 h1 hq _ (ih.1 fun j hj hn => h j (by omega) hn), fun h => hyes i h0 h1 hq _ (ih.2 fun h2 => h fun j hj hn => ?_)⟩
    by_cases e : j = i
    · subst e; exact hq
    · exact h2 j (by omega) hn
  · exact ⟨fun h => absurd (h i (by omega) h1) hq, fun _ => hno i h0 h1 hq⟩
theorem index_ev (n : Int) (Q : Int → Prop) (L : Int → Nat → Option Int) (hend : Ev (L n) (-1)) (hyes : ∀ i, 0 ≤ i → i < n → Q i → Ev (L i) i)
    (hno : ∀ i, 0 ≤ i → i < n → ¬ Q i → ∀ r, Ev (L (i + 1)) r → Ev (L i) r) : ∀ i, 0 ≤ i → i ≤ n →
    ∃ r, Ev (L i) r ∧ ((0 ≤ r ∧ i ≤ r ∧ r < n ∧ Q r ∧ ∀ j, i ≤ j → j < r → ¬ Q j) ∨ (r = -1 ∧ ∀ j, i ≤ j → j < n → ¬ Q j)) := by
  refine count_up 0 n _ ⟨-1, hend, .inr ⟨rfl, fun j h1 h2 => absurd h2 (by omega)⟩⟩ ?_
  intro i h0 h1 ih
  by_cases hq : Q i
  · exact ⟨i, hyes i h0 h1 hq, .inl ⟨h0, by omega, h1, hq, fun j h2 h3 => absurd h3 (by omega)⟩⟩
  · obtain ⟨r, hr, h⟩ := ih
    refine ⟨r, hno i h0 h1 hq _ hr, ?_⟩
    have ext : ∀ b, (∀ j, i + 1 ≤ j → j < b → ¬ Q j) → ∀ j, i ≤ j → j < b → ¬ Q j := fun b h2 j hj hb => by
      by_cases e : j = i
      · subst e; exact hq
      · exact h2 j (by omega) hb
    rcases h with ⟨a, b, c, d, e⟩ | ⟨a, b⟩
    · exact .inl ⟨a, by omega, c, d, ext r e⟩
    · exact .inr ⟨a, ext n b⟩
end Go.Proofs.YtnhmlneebnkjcaaDoor.PL
namespace Go.Proofs.YtnhmlneebnkjcaaDoor.PL
open Go Go.RowKit Go.Proofs.YtnhmlneebnkjcaaDoorW.PrintWords Go.Proofs.YtnhmlneebnkjcaaDoorW.PrintLast Go.Proofs.YtnhmlneebnkjcaaDoorW.PrintMore Go.Proofs.YtnhmlneebnkjcaaDoor.Pr Go.Proofs.YtnhmlneebnkjcaaDoor.TX Go.Proofs.YtnhmlneebnkjcaaDoor.X
def ba (l : List UInt8) : ByteArray := ⟨l.toArray⟩
theorem ba_data (s : ByteArray) : ba s.data.toList = s := by obtain ⟨⟨l⟩⟩ := s; rfl
theorem ba_list (l : List UInt8) : (ba l).data.toList = l := rfl
theorem ba_toList (l : List UInt8) : (ba l).toList = l := by rw [Lib.toList_data]; rfl
theorem ba_size (l : List UInt8) : (ba l).size = l.length := rfl
theorem size_data (s : ByteArray) : s.data.toList.length = s.size := Array.length_toList
theorem ba_ex (s : ByteArray) (a b : Nat) : s.extract a b = ba ((s.data.toList.take b).drop a) := by
  rw [← ba_data (s.extract a b), Lib.extract_data, List.drop_take]
theorem ba_app (a b : List UInt8) : ba a ++ ba b = ba (a ++ b) := by
  rw [← ba_data (ba a ++ ba b)]
  congr 1
theorem byte_at (s : ByteArray) {i : Int} (h0 : 0 ≤ i) (h1 : i < (s.size : Int)) : ∃ b : UInt8, s.data.toList.drop i.toNat = b :: s.data.toList.drop (i + 1).toNat ∧
    s.data.toList.take (i + 1).toNat = s.data.toList.take i.toNat ++ [b] ∧ bt s i = (b.toNat : Int) := by
  have hl : i.toNat < s.data.toList.length := by rw [size_data]; omega
  refine ⟨s.data.toList[i.toNat], ?_, ?_, ?_⟩
  · rw [show (i + 1).toNat = i.toNat + 1 from by omega, ← List.drop_eq_getElem_cons hl]
  · rw [show (i + 1).toNat = i.toNat + 1 from by omega, List.take_add_one, List.getElem?_eq_getElem hl]; rfl
  · rw [← bt_at s i (by omega)]
    obtain ⟨⟨l⟩⟩ := s
    rfl
theorem take_end (s : ByteArray) : s.data.toList.take ((s.size : Int)).toNat = s.data.toList := by
  rw [show ((s.size : Int)).toNat = s.size from by omega, ← size_data, List.take_length]
theorem drop_end (s : ByteArray) : s.data.toList.drop ((s.size : Int)).toNat = [] := by
  rw [show ((s.size : Int)).toNat = s.size from by omega, ← size_data, List.drop_length]
def wrd (c : UInt8) : List UInt8 → List UInt8 → List (List UInt8)
  | p, [] => [p]
  | p, b :: r => if b = c then p :: wrd c [] r else wrd c (p ++ [b]) r
theorem wrd_cons (c b : UInt8) (p r : List UInt8) : wrd c p (b :: r) = if b = c then p :: wrd c [] r else wrd c (p ++ [b]) r := rfl
theorem wrd_eq (c : UInt8) : ∀ s p : List UInt8, wrd c p s = match parts c s with
    | [] => [p]
    | q :: t => (p ++ q) :: t
  | [], p => by simp [wrd, parts]
  | b :: r, p => by
    rw [wrd_cons, parts_cons]
    by_cases h : b = c
    · rw [if_pos h, if_pos h, wrd_eq c r []]
      cases hp : parts c r with
      | nil => exact absurd hp (parts_ne c r)
      | cons q t => simp
    · rw [if_neg h, if_neg h, wrd_eq c r (p ++ [b])]
      cases hp : parts c r with
      | nil => exact absurd hp (parts_ne c r)
      | cons q t => simp
theorem wrd_parts (c : UInt8) (s : List UInt8) : wrd c [] s = parts c s := by
  rw [wrd_eq]
  cases hp : parts c s with
  | nil => exact absurd hp (parts_ne c s)
  | cons q t => simp
theorem toNat_eq (b : UInt8) (n : Nat) (hn : n < 256) : ((b.toNat : Int) = (n : Int)) ↔ b = UInt8.ofNat n := by
  constructor
  · intro h
    refine UInt8.toNat_inj.1 ?_
    rw [UInt8.toNat_ofNat']; omega
  · rintro rfl
    rw [UInt8.toNat_ofNat']; omega
theorem split_ev (s : ByteArray) (hs : s.size < 4294967281) : strings_Split.f s ⟨#[32]⟩ = some ((parts 32 s.data.toList).map ba) := by
  unfold strings_Split.f
  rw [if_pos ⟨hs, rfl⟩]
  refine congrArg some ?_
  have e := Lib.splitB_data ⟨#[32]⟩ 0 (Lib.countB s ⟨#[32]⟩) s
  have e2 : Lib.splitK [32] 0 (Lib.countB s ⟨#[32]⟩) s.data.toList = parts 32 s.data.toList := split_eq 32 s.data.toList
  have e3 : (Lib.splitB ⟨#[32]⟩ 0 (Lib.countB s ⟨#[32]⟩) s).map (·.data.toList) = parts 32 s.data.toList := e.trans e2
  rw [← e3, List.map_map]
  refine (List.map_congr_left (fun x _ => ba_data x) |>.trans (List.map_id _)).symm
def lin : List UInt8 → List UInt8 → List (List UInt8) × Bool
  | p, [] => if p = [] then ([], true) else ([p], false)
  | p, b :: r => if b = 10 then (p :: (lin [] r).1, (lin [] r).2) else lin (p ++ [b]) r
theorem lin_cons (p : List UInt8) (b : UInt8) (r : List UInt8) : lin p (b :: r) = if b = 10 then (p :: (lin [] r).1, (lin [] r).2) else lin (p ++ [b]) r := rfl
theorem lin_cut : ∀ (s p : List UInt8), lin p s = if (cut1 10 s).2.2 = true then ((p ++ (cut1 10 s).1) :: (lin [] (cut1 10 s).2.1).1, (lin [] (cut1 10 s).2.1).2) else if p ++ s = [] then ([], true) else ([p ++ s], false)
  | [], p => by simp [lin, cut1]
  | b :: r, p => by
    rw [lin_cons, cut1_cons]
    by_cases h : b = 10
    · rw [if_pos h, if_pos h]; simp
    · rw [if_neg h, if_neg h, lin_cut r (p ++ [b])]
      simp
theorem cut_ev (s : ByteArray) (hs : s.size < 4294967281) : strings_Cut.f s ⟨#[10]⟩ = some (ba (cut1 10 s.data.toList).1, ba (cut1 10 s.data.toList).2.1, (cut1 10 s.data.toList).2.2) := by
  unfold strings_Cut.f
  rw [if_pos hs]
  have e : Lib.cut s.data.toList (⟨#[10]⟩ : ByteArray).data.toList = cut1 10 s.data.toList := cut_eq 10 s.data.toList
  rw [e]
  rfl
def numR (most : Nat) (l : List UInt8) : Int × Bool := match numP most l with
  | some v => ((v : Int), true)
  | none => (0, false)
theorem itoa_f {n : Int} (h0 : -9223372036854775808 ≤ n) (h1 : n ≤ 9223372036854775807) : strconv_Itoa.f n = some (ba (Lib.itoa n)) := by
  unfold strconv_Itoa.f
  rw [if_pos h0, if_pos h1]
  rfl
end Go.Proofs.YtnhmlneebnkjcaaDoor.PL
namespace Go.Proofs.YtnhmlneebnkjcaaDoor.PL
open Go Go.RowKit Go.Proofs.YtnhmlneebnkjcaaDoorW.PrintWords Go.Proofs.YtnhmlneebnkjcaaDoorW.PrintLast Go.Proofs.YtnhmlneebnkjcaaDoorW.PrintMore Go.Proofs.YtnhmlneebnkjcaaDoor.Pr Go.Proofs.YtnhmlneebnkjcaaDoor.X
def okB (b : Int) : Prop := (97 ≤ b ∧ b ≤ 122) ∨ (65 ≤ b ∧ b ≤ 90) ∨ (48 ≤ b ∧ b ≤ 57) ∨ b = 45 ∨ b = 46
instance (b : Int) : Decidable (okB b) := by unfold okB; infer_instance
def NameP (s : ByteArray) : Prop := 1 ≤ s.size ∧ s.size ≤ 64 ∧ ∀ i, 0 ≤ i → i < (s.size : Int) → okB (bt s i)
theorem named_step (k : Nat) (s : ByteArray) {i : Int} (h0 : 0 ≤ i) (h1 : i < (s.size : Int)) : cask_named.l0 (k + 1) s (s.size : Int) i = if okB (bt s i) then cask_named.l0 k s (s.size : Int) (wrap64 (i + 1)) else some false := by
  rw [cask_named.l0.eq_2, if_pos h1, if_pos h0, if_pos h1]
  by_cases c : okB (bt s i)
  · rw [if_pos c]
    unfold okB at c
    (repeat' split) <;> first | rfl | (exfalso; omega)
  · rw [if_neg c]
    unfold okB at c
    (repeat' split) <;> first | rfl | (exfalso; omega)
theorem isname_step (k : Nat) (s : ByteArray) {i : Int} (h0 : 0 ≤ i) (h1 : i < (s.size : Int)) : spileref09_IsName.l0 (k + 1) s i = if okB (bt s i) then spileref09_IsName.l0 k s (wrap64 (i + 1)) else some false := by
  rw [spileref09_IsName.l0.eq_2, if_pos h1, if_pos h0]
  by_cases c : okB (bt s i)
  · rw [if_pos c]
    unfold okB at c
    (repeat' split) <;> first | rfl | (exfalso; omega)
  · rw [if_neg c]
    unfold okB at c
    (repeat' split) <;> first | rfl | (exfalso; omega)
theorem name_both (s : ByteArray) (hs : (s.size : Int) ≤ 9223372036854775807) : ∃ b, Ev (fun k => cask_named.f k s) b ∧ Ev (fun k => spileref09_IsName.f k s) b ∧ (b = true ↔ NameP s) := by
  have L1 : ∀ i, 0 ≤ i → i ≤ (s.size : Int) → EvB (fun k => cask_named.l0 k s (s.size : Int) i) (∀ j, i ≤ j → j < (s.size : Int) → okB (bt s j)) := by
    refine evB_all 0 (s.size : Int) (fun j => okB (bt s j)) (fun i k => cask_named.l0 k s (s.size : Int) i) ?_ ?_ ?_
    · exact Ev.step (fun k => cask_named.l0.eq_2 ..) (evn (by omega) (Ev.now _))
    · intro i h0 h1 hq
      exact Ev.step (fun k => named_step k s h0 h1) (evn hq (Ev.now _))
    · intro i h0 h1 hq b hb
      rw [← w64_succ h0 h1 hs] at hb
      exact Ev.step (fun k => named_step k s h0 h1) (evp hq hb)
  have L2 : ∀ i, 0 ≤ i → i ≤ (s.size : Int) → ∃ b, Ev (fun k => spileref09_IsName.l0 k s i) b ∧ (b = true ↔ (1 ≤ s.size ∧ s.size ≤ 64 ∧ ∀ j, i ≤ j → j < (s.size : Int) → okB (bt s j))) := by
    refine count_up 0 (s.size : Int) _ ?_ ?_
    · by_cases c : (s.size : Int) ≥ 1
      · exact ⟨_, Ev.step (fun k => spileref09_IsName.l0.eq_2 ..) (evn (by omega) (evp c (Ev.now _))), by rw [decide_eq_true_eq]; exact ⟨fun h => ⟨by omega, by omega, fun j _ _ => by omega⟩, fun h => by omega⟩⟩
      · exact ⟨_, Ev.step (fun k => spileref09_IsName.l0.eq_2 ..) (evn (by omega) (evn c (Ev.now _))), by simp; omega⟩
    · intro i h0 h1 ih
      by_cases hq : okB (bt s i)
      · obtain ⟨b, hb, hi⟩ := ih
        rw [← w64_succ h0 h1 hs] at hb
        refine ⟨b, Ev.step (fun k => isname_step k s h0 h1) (evp hq hb), hi.trans ⟨fun h => ⟨h.1, h.2.1, fun j h2 h3 => ?_⟩, fun h => ⟨h.1, h.2.1, fun j h2 h3 => h.2.2 j (by omega) h3⟩⟩⟩
        by_cases e : j = i
        · rw [e]; exact hq
        · exact h.2.2 j (by omega) h3
      · exact ⟨false, Ev.step (fun k => isname_step k s h0 h1) (evn hq (Ev.now _)), by simp only [Bool.false_eq_true, false_iff]; exact fun h => hq (h.2.2 i (Int.le_refl _) h1)⟩
  obtain ⟨b2, hb2, hi2⟩ := L2 0 (by omega) (by omega)
  have N2 : b2 = true ↔ NameP s := hi2
  by_cases c1 : (s.size : Int) < 1
  · have hb : b2 = false := by
      rw [Bool.eq_false_iff]
      intro q
      have := (N2.1 q).1
      omega
    subst hb
    exact ⟨false, evp c1 (Ev.step (fun k => cask_named.j0.eq_2 ..) (evp rfl (Ev.now _))), hb2, N2⟩
  by_cases c2 : (s.size : Int) > 64
  · have hb : b2 = false := by
      rw [Bool.eq_false_iff]
      intro q
      have := (N2.1 q).2.1
      omega
    subst hb
    exact ⟨false, evn c1 (Ev.step (fun k => cask_named.j0.eq_2 ..) (evp (decide_eq_true c2) (Ev.now _))), hb2, N2⟩
  obtain ⟨b, hb, hi⟩ := (L1 0 (by omega) (by omega)).get
  have e : b = b2 := by
    have : b = true ↔ b2 = true := hi.trans ⟨fun h => N2.2 ⟨by omega, by omega, h⟩, fun h => (N2.1 h).2.2⟩
    cases b <;> cases b2 <;> simp_all
  subst e
  exact ⟨b, evn c1 (Ev.step (fun k => cask_named.j0.eq_2 ..) (evn (by simp; omega) hb)), hb2, N2⟩
def LenP (x : Int) : Prop := 0 ≤ x ∧ x ≤ 100000
instance (x : Int) : Decidable (LenP x) := by unfold LenP; infer_instance
theorem measure_f (x : Int) : profile_measure.f x = some (decide (LenP x)) := by
  unfold profile_measure.f LenP
  by_cases c : x ≥ 0
  · rw [if_pos c]
    exact congrArg some (decide_eq_decide.2 ⟨fun h => ⟨c, h⟩, fun h => h.2⟩)
  · rw [if_neg c]
    exact congrArg some (decide_eq_false (fun h => c h.1)).symm
theorem isLength_f (x : Int) : spileref08_isLength.f x = some (decide (LenP x)) := by
  unfold spileref08_isLength.f LenP
  by_cases c : x ≥ 0
  · rw [if_pos c]
    exact congrArg some (decide_eq_decide.2 ⟨fun h => ⟨c, h⟩, fun h => h.2⟩)
  · rw [if_neg c]
    exact congrArg some (decide_eq_false (fun h => c h.1)).symm
def PtP (p : S46) : Prop := LenP p.f0 ∧ LenP p.f1
theorem check1_f (p : S46) : ∃ b, profile_Check_1.f p.f0 p.f1 = some b ∧ (b = true ↔ ¬ PtP p) := by
  unfold profile_Check_1.f PtP
  rw [measure_f, measure_f]
  by_cases c : LenP p.f0
  · refine ⟨_, by rw [Option.bind_some, if_pos (decide_eq_true c)]; rfl, ?_⟩
    by_cases d : LenP p.f1 <;> simp [c, d]
  · exact ⟨true, by rw [Option.bind_some, if_neg (by simp [c])], by simp [c]⟩
def AllP (l : List S46) : Prop := ∀ j, 0 ≤ j → j < (l.length : Int) → PtP (rd_T46 l j)
def NonZ (l : List S46) : Prop := ∀ j, 0 ≤ j → j < (l.length : Int) → (rd_T46 l j).f1 ≠ 0
theorem contains56 (l : List S46) (hl : (l.length : Int) ≤ 9223372036854775807) : ∃ b, Ev (fun k => api_Point_55_at_56.f k l) b ∧ (b = true ↔ ¬ AllP l) := by
  obtain ⟨r, hr, h⟩ := index_ev (l.length : Int) (fun i => ¬ PtP (rd_T46 l i)) (fun i k => api_Point_70_at_56.l0 k l (l.length : Int) i)
    (Ev.step (fun k => api_Point_70_at_56.l0.eq_2 ..) (evn (by omega) (Ev.now _)))
    (fun i h0 h1 hq => by
      obtain ⟨b, e, hb⟩ := check1_f (rd_T46 l i)
      exact Ev.step (fun k => api_Point_70_at_56.l0.eq_2 ..) (evp h1 (evp h0 (evp h1 (evb (evc (fun _ => rfl) e) (evp (hb.2 hq) (Ev.now _)))))))
    (fun i h0 h1 hq r hr => by
      obtain ⟨b, e, hb⟩ := check1_f (rd_T46 l i)
      rw [← w64_succ h0 h1 hl] at hr
      exact Ev.step (fun k => api_Point_70_at_56.l0.eq_2 ..) (evp h1 (evp h0 (evp h1 (evb (evc (fun _ => rfl) e) (evn (fun q => hq (hb.1 q)) hr)))))) 0 (by omega) (by omega)
  refine ⟨decide (r ≥ 0), evb hr (Ev.now _), ?_⟩
  rw [decide_eq_true_eq]
  rcases h with ⟨a, _, c, d, _⟩ | ⟨a, b⟩
  · exact ⟨fun _ q => d (q r a c), fun _ => a⟩
  · exact ⟨fun q => by omega, fun q => absurd (fun j h0 h1 => Classical.byContradiction (fun z => b j h0 h1 z)) q⟩
theorem contains59 (l : List S46) (hl : (l.length : Int) ≤ 9223372036854775807) : ∃ b, Ev (fun k => api_Point_55_at_59.f k l) b ∧ (b = true ↔ ¬ NonZ l) := by
  obtain ⟨r, hr, h⟩ := index_ev (l.length : Int) (fun i => (rd_T46 l i).f1 = 0) (fun i k => api_Point_70_at_59.l0 k l (l.length : Int) i)
    (Ev.step (fun k => api_Point_70_at_59.l0.eq_2 ..) (evn (by omega) (Ev.now _)))
    (fun i h0 h1 hq => Ev.step (fun k => api_Point_70_at_59.l0.eq_2 ..) (evp h1 (evp h0 (evp h1 (evb (evc (fun _ => rfl) (show profile_Check_2.f (rd_T46 l i).f0 (rd_T46 l i).f1 = some ((rd_T46 l i).f1 == 0) from rfl)) (evp (beq_iff_eq.2 hq) (Ev.now _)))))))
    (fun i h0 h1 hq r hr => by
      rw [← w64_succ h0 h1 hl] at hr
      exact Ev.step (fun k => api_Point_70_at_59.l0.eq_2 ..) (evp h1 (evp h0 (evp h1 (evb (evc (fun _ => rfl) (show profile_Check_2.f (rd_T46 l i).f0 (rd_T46 l i).f1 = some ((rd_T46 l i).f1 == 0) from rfl)) (evn (by simpa using hq) hr)))))) 0 (by omega) (by omega)
  refine ⟨decide (r ≥ 0), evb hr (Ev.now _), ?_⟩
  rw [decide_eq_true_eq]
  rcases h with ⟨a, _, c, d, _⟩ | ⟨a, b⟩
  · exact ⟨fun _ q => q r a c d, fun _ => a⟩
  · exact ⟨fun q => by omega, fun q => absurd (fun j h0 h1 => b j h0 h1) q⟩
theorem nbs_drop {l : List S46} {i : Int} (h0 : 1 ≤ i) (h1 : i < (l.length : Int)) : (nbs l).drop (i - 1).toNat = (rd_T46 l (i - 1), rd_T46 l i) :: (nbs l).drop i.toNat := by
  have h : (i - 1).toNat < (nbs l).length := by rw [nbs_len]; omega
  rw [List.drop_eq_getElem_cons h, show (i - 1).toNat + 1 = i.toNat from by omega]
  congr 1
  have g : (nbs l)[(i - 1).toNat]? = some (rd_T46 l (i - 1), rd_T46 l i) := by
    unfold nbs
    rw [List.getElem?_zip_eq_some]
    constructor
    · unfold rd_T46
      rw [List.getD_eq_getElem?_getD, List.getElem?_eq_getElem (show (i - 1).toNat < l.length by omega)]
      rfl
    · unfold rd_T46
      show l.tail[(i - 1).toNat]? = some (l.getD i.toNat z46)
      rw [List.getElem?_tail, List.getD_eq_getElem?_getD, show (i - 1).toNat + 1 = i.toNat from by omega, List.getElem?_eq_getElem (show i.toNat < l.length by omega)]
      rfl
  exact Option.some.inj ((List.getElem?_eq_getElem h).symm.trans g)
theorem nbs_end (l : List S46) {i : Int} (h : (l.length : Int) ≤ i) : (nbs l).drop (i - 1).toNat = [] := List.drop_eq_nil_of_le (by rw [nbs_len]; omega)
theorem falls_or : ∀ t l, profile_Check.falls t l = 0 ∨ profile_Check.falls t l = 10
  | _, [] => .inl rfl
  | t, x :: r => by
    unfold profile_Check.falls
    split
    · exact .inr rfl
    · exact falls_or _ r
theorem ref_falls (l : List S46) (hl : (l.length : Int) ≤ 9223372036854775807) : ∀ i, 1 ≤ i → ∀ t, (i ≤ (l.length : Int) ∨ l.length = 0) → Ev (fun k => spileref08_Check.l3 k l t i) (profile_Check.falls t ((nbs l).drop (i - 1).toNat)) := by
  intro i h0 t hi
  by_cases c : i ≤ (l.length : Int)
  case neg =>
    rw [nbs_end l (by omega)]
    exact Ev.step (fun k => spileref08_Check.l3.eq_2 ..) (evn (by omega) (Ev.now _))
  refine count_up 1 (l.length : Int) (fun i => ∀ t, Ev (fun k => spileref08_Check.l3 k l t i) (profile_Check.falls t ((nbs l).drop (i - 1).toNat))) ?_ ?_ i h0 c t
  · intro t
    rw [nbs_end l (Int.le_refl _)]
    exact Ev.step (fun k => spileref08_Check.l3.eq_2 ..) (evn (by omega) (Ev.now _))
  · intro i h0 h1 ih t
    have w0 : wrap64 (i - 1) = i - 1 := w64 (by omega) (by omega)
    have w1 : wrap64 (i + 1) = i + 1 := w64 (by omega) (by omega)
    rw [nbs_drop h0 h1]
    unfold profile_Check.falls
    rw [show i + 1 - 1 = i from by omega] at ih
    refine Ev.step (fun k => spileref08_Check.l3.eq_2 ..) (evp h1 ?_)
    rw [w0, w1]
    cases t with
    | true =>
      refine evp rfl (evp (by omega) (evp (by omega) (evp (by omega) ?_)))
      by_cases q : (rd_T46 l i).f1 > (rd_T46 l (i - 1)).f1
      · rw [if_pos ⟨rfl, q⟩]
        exact evp q (Ev.now _)
      · rw [if_neg (fun z => q z.2)]
        exact evn q (by simpa using ih true)
    | false =>
      rw [if_neg (fun z => by cases z.1)]
      exact evn (by decide) (evp (by omega) (evp (by omega) (evp (by omega) (by simpa using ih (decide ((rd_T46 l i).f1 < (rd_T46 l (i - 1)).f1))))))
theorem ref_zero (l : List S46) (hl : (l.length : Int) ≤ 9223372036854775807) (r3 : Int) (h3 : Ev (fun k => spileref08_Check.l3 k l false 1) r3) : ∀ i, 0 ≤ i → i ≤ (l.length : Int) → ∃ e, Ev (fun k => spileref08_Check.l2 k l i) e ∧ ((∀ j, i ≤ j → j < (l.length : Int) → (rd_T46 l j).f1 ≠ 0) → e = r3) ∧ (¬ (∀ j, i ≤ j → j < (l.length : Int) → (rd_T46 l j).f1 ≠ 0) → e = 16) := by
  refine count_up 0 (l.length : Int) _ ?_ ?_
  · exact ⟨r3, Ev.step (fun k => spileref08_Check.l2.eq_2 ..) (evn (by omega) h3), fun _ => rfl, fun h => absurd (fun j a b => by omega) h⟩
  · intro i h0 h1 ih
    by_cases c : (rd_T46 l i).f1 = 0
    · exact ⟨16, Ev.step (fun k => spileref08_Check.l2.eq_2 ..) (evp h1 (evp h0 (evp c (Ev.now _)))), fun h => absurd c (h i (Int.le_refl _) h1), fun _ => rfl⟩
    · obtain ⟨e, he, a, b⟩ := ih
      rw [← w64_succ h0 h1 hl] at he
      refine ⟨e, Ev.step (fun k => spileref08_Check.l2.eq_2 ..) (evp h1 (evp h0 (evn c he))), fun h => a (fun j x y => h j (by omega) y), fun h => b (fun z => h (fun j x y => ?_))⟩
      by_cases q : j = i
      · rw [q]; exact c
      · exact z j (by omega) y
theorem ref_steps (l : List S46) (hl : (l.length : Int) ≤ 9223372036854775807) (r2 : Int) (h2 : Ev (fun k => spileref08_Check.l2 k l 0) r2) : ∀ i, 1 ≤ i → i ≤ (l.length : Int) → Ev (fun k => spileref08_Check.l1 k l i) (if profile_Check.steps ((nbs l).drop (i - 1).toNat) = 0 then r2 else 5) := by
  refine count_up 1 (l.length : Int) _ ?_ ?_
  · rw [nbs_end l (Int.le_refl _)]
    exact Ev.step (fun k => spileref08_Check.l1.eq_2 ..) (evn (by omega) h2)
  · intro i h0 h1 ih
    have w0 : wrap64 (i - 1) = i - 1 := w64 (by omega) (by omega)
    have w1 : wrap64 (i + 1) = i + 1 := w64 (by omega) (by omega)
    rw [show i + 1 - 1 = i from by omega] at ih
    rw [nbs_drop h0 h1]
    unfold profile_Check.steps
    refine Ev.step (fun k => spileref08_Check.l1.eq_2 ..) (evp h1 ?_)
    rw [w0, w1]
    refine evn (by omega) (evp (by omega) (evp (by omega) (evp (by omega) (evp (by omega) ?_))))
    by_cases q : (rd_T46 l (i - 1)).f0 ≥ (rd_T46 l i).f0
    · rw [if_pos q, if_neg (by decide)]
      exact evp q (Ev.now _)
    · rw [if_neg q]
      exact evn q ih
theorem ref_all (l : List S46) (hl : (l.length : Int) ≤ 9223372036854775807) (r1 : Int) (h1 : Ev (fun k => spileref08_Check.l1 k l 0) r1) : ∀ i, 0 ≤ i → i ≤ (l.length : Int) → ∃ e, Ev (fun k => spileref08_Check.l0 k l i) e ∧ ((∀ j, i ≤ j → j < (l.length : Int) → PtP (rd_T46 l j)) → e = r1) ∧ (¬ (∀ j, i ≤ j → j < (l.length : Int) → PtP (rd_T46 l j)) → e = 2) := by
  refine count_up 0 (l.length : Int) _ ?_ ?_
  · exact ⟨r1, Ev.step (fun k => spileref08_Check.l0.eq_2 ..) (evn (by omega) h1), fun _ => rfl, fun h => absurd (fun j a b => by omega) h⟩
  · intro i h0 h1 ih
    by_cases c : LenP (rd_T46 l i).f0
    · by_cases d : LenP (rd_T46 l i).f1
      · obtain ⟨e, he, a, b⟩ := ih
        rw [← w64_succ h0 h1 hl] at he
        refine ⟨e, Ev.step (fun k => spileref08_Check.l0.eq_2 ..) (evp h1 (evp h0 (evb (evc (fun _ => rfl) (isLength_f _)) (evp (decide_eq_true c) (evb (evc (fun _ => rfl) (isLength_f _)) (evp (decide_eq_true d) he)))))), fun h => a (fun j x y => h j (by omega) y), fun h => b (fun z => h (fun j x y => ?_))⟩
        by_cases q : j = i
        · rw [q]; exact ⟨c, d⟩
        · exact z j (by omega) y
      · exact ⟨2, Ev.step (fun k => spileref08_Check.l0.eq_2 ..) (evp h1 (evp h0 (evb (evc (fun _ => rfl) (isLength_f _)) (evp (decide_eq_true c) (evb (evc (fun _ => rfl) (isLength_f _)) (evn (by simp [d]) (Ev.now _))))))), fun h => absurd (h i (Int.le_refl _) h1).2 d, fun _ => rfl⟩
    · exact ⟨2, Ev.step (fun k => spileref08_Check.l0.eq_2 ..) (evp h1 (evp h0 (evb (evc (fun _ => rfl) (isLength_f _)) (evn (by simp [c]) (Ev.now _))))), fun h => absurd (h i (Int.le_refl _) h1).1 c, fun _ => rfl⟩
def OKP (l : List S46) : Prop := 2 ≤ (l.length : Int) ∧ (l.length : Int) ≤ 32 ∧ AllP l ∧ (rd_T46 l 0).f0 = 0 ∧ profile_Check.steps (nbs l) = 0 ∧ NonZ l ∧ profile_Check.falls false (nbs l) = 0
theorem prof_both (l : List S46) (hl : (l.length : Int) ≤ 9223372036854775807) : ∃ e, Ev (fun k => profile_Check.f k l) e ∧ Ev (fun k => spileref08_Check.f k l) e ∧ (e = 0 ↔ OKP l) ∧ e ≠ 3 := by
  by_cases c1 : (l.length : Int) < 2
  · exact ⟨9, evp c1 (Ev.now _), evp c1 (Ev.now _), ⟨fun h => absurd h (by decide), fun h => by have := h.1; omega⟩, by decide⟩
  by_cases c2 : (l.length : Int) > 32
  · exact ⟨8, evn c1 (evp c2 (Ev.now _)), evn c1 (evp c2 (Ev.now _)), ⟨fun h => absurd h (by decide), fun h => by have := h.2.1; omega⟩, by decide⟩
  obtain ⟨b1, hb1, hi1⟩ := contains56 l hl
  obtain ⟨b2, hb2, hi2⟩ := contains59 l hl
  have h3 := ref_falls l hl 1 (by omega) false (.inl (by omega))
  rw [show ((1 : Int) - 1).toNat = 0 from rfl, List.drop_zero] at h3
  obtain ⟨r2, h2, a2, z2⟩ := ref_zero l hl _ h3 0 (by omega) (by omega)
  have h1 := ref_steps l hl r2 h2 1 (by omega) (by omega)
  rw [show ((1 : Int) - 1).toNat = 0 from rfl, List.drop_zero] at h1
  have h10 : Ev (fun k => spileref08_Check.l1 k l 0) (if (rd_T46 l 0).f0 = 0 then (if profile_Check.steps (nbs l) = 0 then r2 else 5) else 5) := by
    refine Ev.step (fun k => spileref08_Check.l1.eq_2 ..) (evp (by omega) (evp rfl (evp (by omega) ?_)))
    by_cases q : (rd_T46 l 0).f0 = 0
    · rw [if_pos q]
      exact evp q (evn (by omega) (by rw [show wrap64 ((0 : Int) + 1) = 1 from w64 (by omega) (by omega)]; exact h1))
    · rw [if_neg q]
      exact evn q (Ev.now _)
  obtain ⟨e, he, ea, ez⟩ := ref_all l hl _ h10 0 (by omega) (by omega)
  have hE2 : Ev (fun k => spileref08_Check.f k l) e := evn c1 (evn c2 he)
  by_cases ha : AllP l
  case neg =>
    obtain rfl := ez ha
    exact ⟨2, evn c1 (evn c2 (evb hb1 (evp (hi1.2 ha) (Ev.now _)))), hE2, ⟨fun h => absurd h (by decide), fun h => absurd h.2.2.1 ha⟩, by decide⟩
  have hb1f : ¬ b1 = true := fun q => hi1.1 q ha
  have he1 := ea ha
  by_cases h0 : (rd_T46 l 0).f0 = 0
  case neg =>
    rw [if_neg h0] at he1
    subst he1
    exact ⟨5, evn c1 (evn c2 (evb hb1 (evn hb1f (evn h0 (Ev.now _))))), hE2, ⟨fun h => absurd h (by decide), fun h => absurd h.2.2.2.1 h0⟩, by decide⟩
  rw [if_pos h0] at he1
  by_cases hs : profile_Check.steps (nbs l) = 0
  case neg =>
    rw [if_neg hs] at he1
    subst he1
    exact ⟨5, evn c1 (evn c2 (evb hb1 (evn hb1f (evp h0 (evn hs (Ev.now _)))))), hE2, ⟨fun h => absurd h (by decide), fun h => absurd h.2.2.2.2.1 hs⟩, by decide⟩
  rw [if_pos hs] at he1
  by_cases hz : NonZ l
  case neg =>
    have := z2 hz
    subst he1
    subst this
    exact ⟨16, evn c1 (evn c2 (evb hb1 (evn hb1f (evp h0 (evp hs (evb hb2 (evp (hi2.2 hz) (Ev.now _)))))))), hE2, ⟨fun h => absurd h (by decide), fun h => absurd h.2.2.2.2.2.1 hz⟩, by decide⟩
  have := a2 hz
  subst he1
  subst this
  refine ⟨_, evn c1 (evn c2 (evb hb1 (evn hb1f (evp h0 (evp hs (evb hb2 (evn (fun q => hi2.1 q hz) (Ev.now _)))))))), hE2, ⟨fun h => ⟨by omega, by omega, ha, h0, hs, hz, h⟩, fun h => h.2.2.2.2.2.2⟩, ?_⟩
  rcases falls_or false (nbs l) with q | q <;> rw [q] <;> decide
def OKC (x : S27) : Prop := NameP x.f0 ∧ (x.f1 = 1 ∨ x.f1 = 2) ∧ 0 ≤ x.f3 ∧ x.f3 ≤ 1073741824 ∧ OKP x.f2
/-- Of sizes that a machine can have. -/
def Sm (x : S27) : Prop := x.f0.size < 4294967296 ∧ x.f2.length < 4294967296
theorem check_both (x : S27) (hx : Sm x) : ∃ e, Ev (fun k => cask_Check.f k x.f0 x.f1 x.f2 x.f3) e ∧ Ev (fun k => spileref09_Check.f k x.f0 x.f1 x.f2 x.f3) e ∧ (e = 0 ↔ OKC x) ∧ e ≠ 3 := by
  obtain ⟨b, n1, n2, n3⟩ := name_both x.f0 (by have := hx.1; omega)
  obtain ⟨e, p1, p2, p3, p4⟩ := prof_both x.f2 (by have := hx.2; omega)
  cases b with
  | false =>
    exact ⟨4, evb n1 (evn (by decide) (Ev.now _)), evb n2 (evn (by decide) (Ev.now _)), ⟨fun h => absurd h (by decide), fun h => absurd (n3.2 h.1) (by decide)⟩, by decide⟩
  | true =>
    have hn := n3.1 rfl
    have fin : (x.f1 = 1 ∨ x.f1 = 2) → ∃ e, Ev (fun k => cask_Check.j0 k false x.f0 x.f1 x.f2 x.f3) e ∧ Ev (fun k => if x.f3 < 0 then some 2 else if x.f3 > 1073741824 then some 2 else (spileref08_Check.f k x.f2).bind fun t => some t) e ∧ (e = 0 ↔ OKC x) ∧ e ≠ 3 := by
      intro hpos
      by_cases d1 : x.f3 < 0
      · exact ⟨2, Ev.step (fun k => cask_Check.j0.eq_2 ..) (evn (by decide) (evp d1 (Ev.now _))), evp d1 (Ev.now _), ⟨fun h => absurd h (by decide), fun h => by have := h.2.2.1; omega⟩, by decide⟩
      by_cases d2 : x.f3 > 1073741824
      · exact ⟨2, Ev.step (fun k => cask_Check.j0.eq_2 ..) (evn (by decide) (evn d1 (evp d2 (Ev.now _)))), evn d1 (evp d2 (Ev.now _)), ⟨fun h => absurd h (by decide), fun h => by have := h.2.2.2.1; omega⟩, by decide⟩
      exact ⟨e, Ev.step (fun k => cask_Check.j0.eq_2 ..) (evn (by decide) (evn d1 (evn d2 (evb p1 (Ev.now _))))), evn d1 (evn d2 (evb p2 (Ev.now _))), p3.trans ⟨fun h => ⟨hn, hpos, by omega, by omega, h⟩, fun h => h.2.2.2.2⟩, p4⟩
    by_cases c1 : x.f1 = 1
    · obtain ⟨e, a, b, c, d⟩ := fin (.inl c1)
      exact ⟨e, evb n1 (evp rfl (evp c1 a)), evb n2 (evp rfl (evp c1 b)), c, d⟩
    · by_cases c2 : x.f1 = 2
      · obtain ⟨e, a, b, c, d⟩ := fin (.inr c2)
        exact ⟨e, evb n1 (evp rfl (evn c1 (by rw [show (x.f1 != 2) = false from by simp [c2]]; exact a))), evb n2 (evp rfl (evn c1 (evp c2 b))), c, d⟩
      · refine ⟨2, evb n1 (evp rfl (evn c1 (Ev.step (fun k => cask_Check.j0.eq_2 ..) (evp (by simp [c2]) (Ev.now _))))), evb n2 (evp rfl (evn c1 (evn c2 (Ev.now _)))), ⟨fun h => absurd h (by decide), fun h => ?_⟩, by decide⟩
        rcases h.2.1 with q | q
        · exact absurd q c1
        · exact absurd q c2
def SmL (l : List S27) : Prop := l.length < 4294967296 ∧ ∀ x, x ∈ l → Sm x
theorem rd27_mem {l : List S27} {i : Int} (h0 : 0 ≤ i) (h : i < (l.length : Int)) : rd_T27 l i ∈ l := by
  unfold rd_T27
  rw [List.getD_eq_getElem?_getD, List.getElem?_eq_getElem (by omega)]
  exact List.getElem_mem _
theorem drop27 {l : List S27} {i : Int} (h0 : 0 ≤ i) (h1 : i < (l.length : Int)) : l.drop i.toNat = rd_T27 l i :: l.drop (i + 1).toNat := by
  have hl : i.toNat < l.length := by omega
  have g : rd_T27 l i = l[i.toNat] := by
    unfold rd_T27
    simp [List.getD_eq_getElem?_getD, List.getElem?_eq_getElem hl]
  rw [g, show (i + 1).toNat = i.toNat + 1 from by omega, ← List.drop_eq_getElem_cons hl]
theorem drop46 {l : List S46} {i : Int} (h0 : 0 ≤ i) (h1 : i < (l.length : Int)) : l.drop i.toNat = rd_T46 l i :: l.drop (i + 1).toNat := by
  have hl : i.toNat < l.length := by omega
  have g : rd_T46 l i = l[i.toNat] := by
    unfold rd_T46
    simp [List.getD_eq_getElem?_getD, List.getElem?_eq_getElem hl]
  rw [g, show (i + 1).toNat = i.toNat + 1 from by omega, ← List.drop_eq_getElem_cons hl]
def nm (x : S27) : List UInt8 := x.f0.data.toList
/-- No name from i on stands ahead of itself. -/
def NoDup (l : List S27) (i : Int) : Prop := ∀ j, i ≤ j → j < (l.length : Int) → ∀ m, 0 ≤ m → m < j → nm (rd_T27 l j) ≠ nm (rd_T27 l m)
theorem tw_ev (l : List S27) (hl : SmL l) : ∀ i, 0 ≤ i → i ≤ (l.length : Int) → ∀ s, (∀ x, x ∈ s ↔ ∃ m, 0 ≤ m ∧ m < i ∧ nm (rd_T27 l m) = x) →
    ∃ e, cask_List.tw s (l.drop i.toNat) = some e ∧ (NoDup l i → e = 0) ∧ (¬ NoDup l i → e = 6) := by
  refine count_up 0 (l.length : Int) _ ?_ ?_
  · intro s hs
    rw [List.drop_eq_nil_of_le (by omega)]
    exact ⟨0, rfl, fun _ => rfl, fun h => absurd (fun j a b => by omega) h⟩
  · intro i h0 h1 ih s hs
    rw [drop27 h0 h1]
    unfold cask_List.tw
    rw [if_pos (hl.2 _ (rd27_mem h0 h1)).1]
    by_cases c : (rd_T27 l i).f0.data.toList ∈ s
    · refine ⟨6, by rw [if_pos c], fun h => ?_, fun _ => rfl⟩
      obtain ⟨m, m0, m1, m2⟩ := (hs _).1 c
      exact absurd m2.symm (h i (Int.le_refl _) h1 m m0 m1)
    · obtain ⟨e, e1, e2, e3⟩ := ih ((rd_T27 l i).f0.data.toList :: s) (fun x => by
        rw [List.mem_cons, hs]
        constructor
        · rintro (q | ⟨m, m0, m1, m2⟩)
          · exact ⟨i, h0, by omega, q.symm⟩
          · exact ⟨m, m0, by omega, m2⟩
        · rintro ⟨m, m0, m1, m2⟩
          by_cases q : m = i
          · subst q; exact .inl m2.symm
          · exact .inr ⟨m, m0, by omega, m2⟩)
      refine ⟨e, by rw [if_neg c]; exact e1, fun h => e2 (fun j a b => h j (by omega) b), fun h => e3 (fun z => h (fun j a b m m0 m1 => ?_))⟩
      by_cases q : j = i
      · subst q
        exact fun z2 => c ((hs _).2 ⟨m, m0, m1, z2.symm⟩)
      · exact z j (by omega) b m m0 m1
theorem toL (s : ByteArray) : s.toList = s.data.toList := Lib.toList_data s
theorem ref_dup (l : List S27) (hl : SmL l) : ∀ i, 0 ≤ i → i ≤ (l.length : Int) → ∃ e, Ev (fun k => spileref09_List.l1 k l i) e ∧ (NoDup l i → e = 0) ∧ (¬ NoDup l i → e = 6) := by
  have hz := hl.1
  refine count_up 0 (l.length : Int) _ ?_ ?_
  · exact ⟨0, Ev.step (fun k => spileref09_List.l1.eq_2 ..) (evn (by omega) (Ev.now _)), fun _ => rfl, fun h => absurd (fun j a b => by omega) h⟩
  · intro i h0 h1 ⟨e, e1, e2, e3⟩
    rw [← w64_succ h0 h1 (by omega)] at e1
    have key : ∀ m, 0 ≤ m → m ≤ i → ∃ e', Ev (fun k => spileref09_List.l2 k l i m) e' ∧ ((∀ q, m ≤ q → q < i → nm (rd_T27 l i) ≠ nm (rd_T27 l q)) → e' = e) ∧ (¬ (∀ q, m ≤ q → q < i → nm (rd_T27 l i) ≠ nm (rd_T27 l q)) → e' = 6) := by
      refine count_up 0 i _ ?_ ?_
      · exact ⟨e, Ev.step (fun k => spileref09_List.l2.eq_2 ..) (evn (by omega) e1), fun _ => rfl, fun h => absurd (fun q a b => by omega) h⟩
      · intro m m0 m1 ⟨f, f1, f2, f3⟩
        by_cases c : ((rd_T27 l i).f0).toList = ((rd_T27 l m).f0).toList
        · exact ⟨6, Ev.step (fun k => spileref09_List.l2.eq_2 ..) (evp m1 (evp h0 (evp h1 (evp m0 (evp (by omega) (evp c (Ev.now _))))))), fun h => absurd (by rw [toL, toL] at c; exact c) (h m (Int.le_refl _) m1), fun _ => rfl⟩
        · rw [← w64_succ m0 m1 (by omega)] at f1
          refine ⟨f, Ev.step (fun k => spileref09_List.l2.eq_2 ..) (evp m1 (evp h0 (evp h1 (evp m0 (evp (by omega) (evn c f1)))))), fun h => f2 (fun q a b => h q (by omega) b), fun h => f3 (fun z => h (fun q a b => ?_))⟩
          by_cases qe : q = m
          · subst qe
            exact fun z2 => c (by rw [toL, toL]; exact z2)
          · exact z q (by omega) b
    obtain ⟨f, f1, f2, f3⟩ := key 0 (by omega) h0
    refine ⟨f, Ev.step (fun k => spileref09_List.l1.eq_2 ..) (evp h1 f1), fun h => ?_, fun h => ?_⟩
    · rw [f2 (fun q a b => h i (Int.le_refl _) h1 q a b)]
      exact e2 (fun j a b => h j (by omega) b)
    · by_cases z : ∀ q, 0 ≤ q → q < i → nm (rd_T27 l i) ≠ nm (rd_T27 l q)
      · rw [f2 z]
        refine e3 (fun y => h (fun j a b m m0 m1 => ?_))
        by_cases q : j = i
        · subst q; exact z m m0 m1
        · exact y j (by omega) b m m0 m1
      · exact f3 z
def OKL (l : List S27) : Prop := (l.length : Int) ≤ 32 ∧ (∀ x, x ∈ l → OKC x) ∧ NoDup l 0
theorem ck_both (l : List S27) (hl : SmL l) (r1 : Int) (h1 : Ev (fun k => spileref09_List.l1 k l 0) r1) : ∀ i, 0 ≤ i → i ≤ (l.length : Int) → ∃ e f, Ev (fun k => cask_List.ck k (l.drop i.toNat)) e ∧ Ev (fun k => spileref09_List.l0 k l i) f ∧ e ≠ 3 ∧
    ((∀ x, x ∈ l.drop i.toNat → OKC x) → e = 0 ∧ f = r1) ∧ (¬ (∀ x, x ∈ l.drop i.toNat → OKC x) → e ≠ 0 ∧ f = e) := by
  have hz := hl.1
  refine count_up 0 (l.length : Int) _ ?_ ?_
  · rw [List.drop_eq_nil_of_le (by omega)]
    exact ⟨0, r1, evr rfl, Ev.step (fun k => spileref09_List.l0.eq_2 ..) (evn (by omega) h1), by decide, fun _ => ⟨rfl, rfl⟩, fun h => absurd (fun x hx => by cases hx) h⟩
  · intro i h0 h1 ⟨e, f, e1, f1, e3, a, b⟩
    obtain ⟨c, c1, c2, c3, c4⟩ := check_both (rd_T27 l i) (hl.2 _ (rd27_mem h0 h1))
    rw [← w64_succ h0 h1 (by omega)] at f1
    rw [drop27 h0 h1]
    by_cases z : c = 0
    · have hok := c3.1 z
      refine ⟨e, f, evb c1 (evp z e1), Ev.step (fun k => spileref09_List.l0.eq_2 ..) (evp h1 (evp h0 (evb c2 (evp z f1)))), e3, fun h => a (fun x hx => h x (List.mem_cons_of_mem _ hx)), fun h => b (fun y => h (fun x hx => ?_))⟩
      rcases List.mem_cons.1 hx with q | q
      · rw [q]; exact hok
      · exact y x q
    · exact ⟨c, c, evb c1 (evn z (Ev.now _)), Ev.step (fun k => spileref09_List.l0.eq_2 ..) (evp h1 (evp h0 (evb c2 (evn z (Ev.now _))))), c4, fun h => absurd (c3.2 (h _ (List.mem_cons_self ..))) z, fun _ => ⟨z, rfl⟩⟩
theorem list_both (l : List S27) (hl : SmL l) : ∃ e, Ev (fun k => cask_List.f k l) e ∧ Ev (fun k => spileref09_List.f k l) e ∧ (e = 0 ↔ OKL l) ∧ e ≠ 3 := by
  by_cases c : (l.length : Int) > 32
  · exact ⟨8, evp c (Ev.now _), evp c (Ev.now _), ⟨fun h => absurd h (by decide), fun h => by have := h.1; omega⟩, by decide⟩
  obtain ⟨t, t1, t2, t3⟩ := tw_ev l hl 0 (by omega) (by omega) [] (fun x => ⟨fun h => (by cases h), fun ⟨m, a, b, _⟩ => (by omega)⟩)
  obtain ⟨d, d1, d2, d3⟩ := ref_dup l hl 0 (by omega) (by omega)
  obtain ⟨e, f, e1, f1, e3, a, b⟩ := ck_both l hl d d1 0 (by omega) (by omega)
  rw [show (0 : Int).toNat = 0 from rfl, List.drop_zero] at t1 e1 a b
  have htd : t = d ∧ (t = 0 ↔ NoDup l 0) ∧ t ≠ 3 := by
    by_cases q : NoDup l 0
    · rw [t2 q, d2 q]; exact ⟨rfl, ⟨fun _ => q, fun _ => rfl⟩, by decide⟩
    · rw [t3 q, d3 q]; exact ⟨rfl, ⟨fun h => absurd h (by decide), fun h => absurd h q⟩, by decide⟩
  by_cases ok : ∀ x, x ∈ l → OKC x
  · obtain ⟨rfl, rfl⟩ := a ok
    refine ⟨t, evn c (evb e1 (evp rfl (evc (fun _ => rfl) t1))), evn c (by rw [htd.1]; exact f1), htd.2.1.trans ⟨fun h => ⟨by omega, ok, h⟩, fun h => h.2.2⟩, htd.2.2⟩
  · obtain ⟨z, rfl⟩ := b ok
    exact ⟨f, evn c (evb e1 (evn z (Ev.now _))), evn c f1, ⟨fun h => absurd h z, fun h => absurd h.2.1 ok⟩, e3⟩
end Go.Proofs.YtnhmlneebnkjcaaDoor.PL
namespace Go.Proofs.YtnhmlneebnkjcaaDoor.PL
open Go Go.RowKit Go.Proofs.YtnhmlneebnkjcaaDoorW.PrintWords Go.Proofs.YtnhmlneebnkjcaaDoorW.PrintLast Go.Proofs.YtnhmlneebnkjcaaDoorW.PrintMore Go.Proofs.YtnhmlneebnkjcaaDoor.Pr Go.Proofs.YtnhmlneebnkjcaaDoor.X
def FewP (l : List S27) : Prop := (l.length : Int) ≤ 33 ∧ ∀ x, x ∈ l → x.f2.length ≤ 33 ∧ x.f0.size ≤ 70
theorem FewP.sm {l : List S27} (h : FewP l) : SmL l := ⟨by have := h.1; omega, fun x hx => ⟨by have := (h.2 x hx).2; omega, by have := (h.2 x hx).1; omega⟩⟩
theorem copy_ev (l : List S27) (hl : SmL l) : Ev (fun k => spileref09_Copy.f k l) l := by
  have hz := hl.1
  have key : ∀ i, 0 ≤ i → i ≤ (l.length : Int) → Ev (fun k => spileref09_Copy.l0 k l (l.take i.toNat) i) l := by
    refine count_up 0 (l.length : Int) _ ?_ ?_
    · rw [show ((l.length : Int)).toNat = l.length from by omega, List.take_length]
      exact Ev.step (fun k => spileref09_Copy.l0.eq_2 ..) (evn (by omega) (Ev.now _))
    · intro i h0 h1 ih
      have hs := (hl.2 _ (rd27_mem h0 h1)).2
      rw [← w64_succ h0 h1 (by omega)] at ih
      have e : l.take (wrap64 (i + 1)).toNat = l.take i.toNat ++ [(⟨(rd_T27 l i).f0, (rd_T27 l i).f1, ([] : List S46) ++ (rd_T27 l i).f2, (rd_T27 l i).f3⟩ : S27)] := by
        rw [w64_succ h0 h1 (by omega), show (i + 1).toNat = i.toNat + 1 from by omega, List.take_add_one, List.nil_append]
        congr 1
        rw [List.getElem?_eq_getElem (by omega)]
        unfold rd_T27
        rw [List.getD_eq_getElem?_getD, List.getElem?_eq_getElem (by omega)]
        rfl
      rw [e] at ih
      refine Ev.step (fun k => spileref09_Copy.l0.eq_2 ..) (evp h1 (evp h0 (evb (Ev.now ([] : List S46)) (evp (by simp; omega) (evp (by rw [List.length_take]; omega) ih)))))
  have := key 0 (by omega) (by omega)
  rwa [show (0 : Int).toNat = 0 from rfl, List.take_zero] at this
def IsMax (v : Int) (l : List S46) : Prop := (∃ j, 0 ≤ j ∧ j < (l.length : Int) ∧ (rd_T46 l j).f1 = v) ∧ ∀ j, 0 ≤ j → j < (l.length : Int) → (rd_T46 l j).f1 ≤ v
theorem IsMax.uniq {u v : Int} {l : List S46} (h : IsMax u l) (h2 : IsMax v l) : u = v := by
  obtain ⟨⟨i, i0, i1, i2⟩, a⟩ := h
  obtain ⟨⟨j, j0, j1, j2⟩, b⟩ := h2
  have := a j j0 j1
  have := b i i0 i1
  omega
end Go.Proofs.YtnhmlneebnkjcaaDoor.PL
namespace Go.Proofs.YtnhmlneebnkjcaaDoor.PL
open Go Go.RowKit Go.Proofs.YtnhmlneebnkjcaaDoorW.PrintWords Go.Proofs.YtnhmlneebnkjcaaDoorW.PrintLast Go.Proofs.YtnhmlneebnkjcaaDoorW.PrintMore Go.Proofs.YtnhmlneebnkjcaaDoor.Pr Go.Proofs.YtnhmlneebnkjcaaDoor.TX Go.Proofs.YtnhmlneebnkjcaaDoor.X
theorem lin_len : ∀ (t p : List UInt8), (lin p t).1.length ≤ t.length + 1
  | [], p => by unfold lin; split <;> simp
  | b :: r, p => by
    rw [lin_cons]
    by_cases c : b = 10
    · rw [if_pos c]; have := lin_len r []; simp; omega
    · rw [if_neg c]; have := lin_len r (p ++ [b]); simp; omega
theorem lin_nil {s : List UInt8} {e : Bool} (h : lin [] s = ([], e)) : s = [] ∧ e = true := by
  rw [lin_cut] at h
  by_cases c : (cut1 10 s).2.2 = true
  · rw [if_pos c] at h; simp at h
  · rw [if_neg c] at h
    by_cases c2 : ([] : List UInt8) ++ s = []
    · rw [if_pos c2] at h
      exact ⟨by simpa using c2, (congrArg Prod.snd h).symm⟩
    · rw [if_neg c2] at h; simp at h
theorem lin_next {s l : List UInt8} {r : List (List UInt8)} {e : Bool} (h : lin [] s = (l :: r, e)) :
    (cut1 10 s).1 = l ∧ (((cut1 10 s).2.2 = true ∧ lin [] (cut1 10 s).2.1 = (r, e)) ∨ ((cut1 10 s).2.2 = false ∧ (cut1 10 s).2.1 = [] ∧ r = [] ∧ e = false)) ∧ s ≠ [] ∧ l.length ≤ s.length := by
  have hne : s ≠ [] := fun e2 => by rw [e2] at h; simp [lin] at h
  rw [lin_cut] at h
  by_cases c : (cut1 10 s).2.2 = true
  · rw [if_pos c] at h
    simp only [List.nil_append, Prod.mk.injEq, List.cons.injEq] at h
    refine ⟨h.1.1, .inl ⟨c, Prod.ext h.1.2 h.2⟩, hne, ?_⟩
    have := congrArg List.length (cut1_sum 10 s c)
    rw [List.length_append, h.1.1] at this
    omega
  · rw [if_neg c, if_neg (by simpa using hne)] at h
    simp only [List.nil_append, Prod.mk.injEq, List.cons.injEq] at h
    have := cut1_no 10 s (Bool.eq_false_iff.2 c)
    exact ⟨by rw [this.1]; exact h.1.1, .inr ⟨Bool.eq_false_iff.2 c, this.2, h.1.2.symm, h.2.symm⟩, hne, by rw [h.1.1]; exact Nat.le_refl _⟩
section
variable {α : Type}
/-- Line by line: the first line that has no such thing, or no line feed, stops it. -/
def run (lineL : List UInt8 → Option α) (e : Bool) : List (List UInt8) → List α → List α × Option Nat
  | [], out => (out, none)
  | l :: r, out => match lineL l with
    | none => ([], some out.length)
    | some x => if r = [] ∧ e = false then ([], some out.length) else run lineL e r (out ++ [x])
def printL (lineT : α → List UInt8) : List α → List UInt8
  | [] => []
  | x :: r => lineT x ++ 10 :: printL lineT r
theorem printL_len {lineT : α → List UInt8} {m : Nat} : ∀ l : List α, (∀ x, x ∈ l → (lineT x).length ≤ m) → (printL lineT l).length ≤ (m + 1) * l.length
  | [], _ => by simp [printL]
  | x :: r, h => by
    have a := h x (by simp)
    have b := printL_len r (fun z hz => h z (by simp [hz]))
    simp only [printL, List.length_append, List.length_cons]
    rw [Nat.mul_add, Nat.mul_one]; omega
end
theorem itoa_dig {n : Int} (h0 : 0 ≤ n) : Lib.itoa n = Lib.decDigits n.toNat := by unfold Lib.itoa; rw [if_neg (by omega)]
theorem itoa_le {n : Int} {m : Nat} (h0 : 0 ≤ n) (h1 : n < 10 ^ m) (hm : 1 ≤ m) : (Lib.itoa n).length ≤ m := by
  rw [itoa_dig h0]
  refine digits_length_le ?_ hm
  have : ((n.toNat : Nat) : Int) < ((10 ^ m : Nat) : Int) := by rw [Int.natCast_pow]; show ((n.toNat : Nat) : Int) < 10 ^ m; omega
  exact Int.ofNat_lt.1 this
theorem numP_itoa {m v : Nat} {s : List UInt8} (h : numP m s = some v) : Lib.itoa (v : Int) = s := by
  rw [itoa_dig (by omega), Int.toNat_natCast]; exact (numP_text h).1
end Go.Proofs.YtnhmlneebnkjcaaDoor.PL
namespace Go.Proofs.YtnhmlneebnkjcaaDoor.PL
open Go Go.RowKit Go.Proofs.YtnhmlneebnkjcaaDoorW.PrintWords Go.Proofs.YtnhmlneebnkjcaaDoorW.PrintLast Go.Proofs.YtnhmlneebnkjcaaDoorW.PrintMore Go.Proofs.YtnhmlneebnkjcaaDoor.Pr Go.Proofs.YtnhmlneebnkjcaaDoor.TX Go.Proofs.YtnhmlneebnkjcaaDoor.X
theorem num_loop (s : ByteArray) (hs : (s.size : Int) ≤ 18) : ∀ i, 0 ≤ i → i ≤ (s.size : Int) → ∀ n : Nat, n + 1 ≤ 10 ^ i.toNat →
    Ev (fun k => cask_number.l0 k s (n : Int) (s.size : Int) i) (if (s.data.toList.drop i.toNat).all isDig = true then (((valFrom n (s.data.toList.drop i.toNat) : Nat) : Int), true) else (0, false)) := by
  refine count_up 0 (s.size : Int) _ ?_ ?_
  · intro n hn
    rw [drop_end]
    exact Ev.step (fun k => cask_number.l0.eq_2 ..) (evn (by omega) (evr (by rw [if_pos (show ([] : List UInt8).all isDig = true from rfl)]; rfl)))
  · intro i h0 h1 ih n hn
    obtain ⟨b, e1, _, e3⟩ := byte_at s h0 h1
    have hw : wrap64 (i + 1) = i + 1 := w64 (by omega) (by omega)
    refine Ev.step (fun k => cask_number.l0.eq_2 ..) (evp h1 (evp h0 (evp h1 ?_)))
    rw [e3, e1, hw]
    have hp : 10 ^ i.toNat ≤ 10 ^ 17 := Nat.pow_le_pow_right (by decide) (by omega)
    by_cases c1 : (b.toNat : Int) < 48
    · have hd : ¬ isDig b = true := fun h => by have := (isDig_iff b).1 h; omega
      rw [if_neg (by simp [hd])]
      exact evp c1 (Ev.now _)
    · by_cases c2 : (b.toNat : Int) > 57
      · have hd : ¬ isDig b = true := fun h => by have := (isDig_iff b).1 h; omega
        rw [if_neg (by simp [hd])]
        exact evn c1 (evp c2 (Ev.now _))
      · have hd : isDig b = true := (isDig_iff b).2 (by omega)
        have e : wrap64 ((wrap64 (10 * (n : Int))) + (((b.toNat : Int) - 48) % 256)) = ((10 * n + (b.toNat - 48) : Nat) : Int) := by
          rw [w64 (x := 10 * (n : Int)) (by omega) (by omega), w64 (by omega) (by omega)]; omega
        rw [e]
        have q := ih (10 * n + (b.toNat - 48)) (by
          rw [show (i + 1).toNat = i.toNat + 1 from by omega, Nat.pow_succ]; omega)
        have ea : ((b :: s.data.toList.drop (i + 1).toNat).all isDig = true) = ((s.data.toList.drop (i + 1).toNat).all isDig = true) := by
          rw [List.all_cons, hd, Bool.true_and]
        simp only [ea]
        exact evn c1 (evn c2 q)
theorem num_ev (s : ByteArray) : Ev (fun k => cask_number.f k s) (numR 10 s.data.toList) := by
  have hsz := size_data s
  have bad : ¬ (Canon s.data.toList ∧ s.data.toList.length ≤ 10) → numR 10 s.data.toList = (0, false) := fun h => by
    unfold numR numP; rw [if_neg h]
  by_cases c1 : (s.size : Int) < 1
  · rw [bad (fun h => by have := h.1.1; omega)]
    exact evp c1 (Ev.step (fun k => cask_number.j0.eq_2 ..) (evp rfl (Ev.now _)))
  by_cases c2 : (s.size : Int) > 10
  · rw [bad (fun h => by have := h.2; omega)]
    exact evn c1 (evp c2 (Ev.step (fun k => cask_number.j0.eq_2 ..) (evp rfl (Ev.now _))))
  have go : ¬ (1 < s.data.toList.length ∧ s.data.toList.head? = some 48) → Ev (fun k => cask_number.j0 k s false) (numR 10 s.data.toList) := by
    intro hh
    have q := num_loop s (by omega) 0 (by omega) (by omega) 0 (by decide)
    rw [show (0 : Int).toNat = 0 from rfl, List.drop_zero] at q
    refine Ev.step (fun k => cask_number.j0.eq_2 ..) (evn (by simp) ?_)
    by_cases hd : s.data.toList.all isDig = true
    · have hc : Canon s.data.toList ∧ s.data.toList.length ≤ 10 := ⟨⟨by omega, hh, hd⟩, by omega⟩
      rw [if_pos hd] at q
      have e : numR 10 s.data.toList = (((valFrom 0 s.data.toList : Nat) : Int), true) := by unfold numR numP; rw [if_pos hc]
      rw [e]
      exact q
    · rw [if_neg hd] at q
      rw [bad (fun h => hd h.1.2.2)]
      exact q
  by_cases c3 : (s.size : Int) > 1
  · obtain ⟨b, e1, _, e3⟩ := byte_at s (i := 0) (by omega) (by omega)
    rw [show (0 : Int).toNat = 0 from rfl, List.drop_zero] at e1
    refine evn c1 (evn c2 (evp c3 (evp (by omega) ?_)))
    rw [e3]
    by_cases c4 : b = 48
    · have e4 : ((b.toNat : Int) == 48) = true := by rw [beq_iff_eq]; exact (toNat_eq b 48 (by decide)).2 c4
      rw [e4, bad (fun h => h.1.2.1 ⟨by omega, by rw [e1]; simp [c4]⟩)]
      exact Ev.step (fun k => cask_number.j0.eq_2 ..) (evp rfl (Ev.now _))
    · have e4 : ((b.toNat : Int) == 48) = false := by rw [beq_eq_false_iff_ne]; exact fun h => c4 ((toNat_eq b 48 (by decide)).1 h)
      rw [e4]
      exact go (fun h => c4 (by have := h.2; rw [e1] at this; simpa using this))
  · exact evn c1 (evn c2 (evn c3 (go (fun h => by omega))))
theorem rnum_loop (s : ByteArray) (hs : (s.size : Int) ≤ 10) (r : Nat → Int × Bool) (hend : ∀ n : Nat, Ev (fun k => spileref09_Number.l0 k s (n : Int) (s.size : Int)) (r n)) : ∀ i, 0 ≤ i → i ≤ (s.size : Int) → ∀ n : Nat, n + 1 ≤ 10 ^ i.toNat →
    Ev (fun k => spileref09_Number.l0 k s (n : Int) i) (if (s.data.toList.drop i.toNat).all isDig = true then r (valFrom n (s.data.toList.drop i.toNat)) else (0, false)) := by
  refine count_up 0 (s.size : Int) _ ?_ ?_
  · intro n hn
    rw [drop_end, if_pos (show ([] : List UInt8).all isDig = true from rfl)]
    exact hend n
  · intro i h0 h1 ih n hn
    obtain ⟨b, e1, _, e3⟩ := byte_at s h0 h1
    have hw : wrap64 (i + 1) = i + 1 := w64 (by omega) (by omega)
    refine Ev.step (fun k => spileref09_Number.l0.eq_2 ..) (evp h1 (evp h0 ?_))
    rw [e3, e1]
    have hp : 10 ^ i.toNat ≤ 10 ^ 9 := Nat.pow_le_pow_right (by decide) (by omega)
    by_cases c1 : (b.toNat : Int) < 48
    · have hd : ¬ isDig b = true := fun h => by have := (isDig_iff b).1 h; omega
      rw [if_neg (by simp [hd])]
      exact evp c1 (Ev.step (fun k => spileref09_Number.j1.eq_2 ..) (evp rfl (Ev.now _)))
    · by_cases c2 : (b.toNat : Int) > 57
      · have hd : ¬ isDig b = true := fun h => by have := (isDig_iff b).1 h; omega
        rw [if_neg (by simp [hd])]
        exact evn c1 (Ev.step (fun k => spileref09_Number.j1.eq_2 ..) (evp (decide_eq_true c2) (Ev.now _)))
      · have hd : isDig b = true := (isDig_iff b).2 (by omega)
        have e : wrap64 ((wrap64 (10 * (n : Int))) + (((b.toNat : Int) - 48) % 256)) = ((10 * n + (b.toNat - 48) : Nat) : Int) := by
          rw [w64 (x := 10 * (n : Int)) (by omega) (by omega), w64 (by omega) (by omega)]; omega
        have q := ih (10 * n + (b.toNat - 48)) (by
          rw [show (i + 1).toNat = i.toNat + 1 from by omega, Nat.pow_succ]; omega)
        have ea : ((b :: s.data.toList.drop (i + 1).toNat).all isDig = true) = ((s.data.toList.drop (i + 1).toNat).all isDig = true) := by
          rw [List.all_cons, hd, Bool.true_and]
        simp only [ea]
        refine evn c1 (Ev.step (fun k => spileref09_Number.j1.eq_2 ..) (evn (by simpa using c2) (evp (by omega) (evp h0 (evp h1 ?_)))))
        rw [e3, hw, e]
        exact q
theorem rnum_long (s : ByteArray) (hs : (s.size : Int) ≤ 9223372036854775807) (hend : ∀ n : Int, Ev (fun k => spileref09_Number.l0 k s n (s.size : Int)) (n, false)) : ∀ i, 0 ≤ i → i ≤ (s.size : Int) → ∀ n : Int, ∃ v, Ev (fun k => spileref09_Number.l0 k s n i) (v, false) := by
  refine count_up 0 (s.size : Int) _ ?_ ?_
  · exact fun n => ⟨n, hend n⟩
  · intro i h0 h1 ih n
    by_cases c1 : bt s i < 48
    · exact ⟨0, Ev.step (fun k => spileref09_Number.l0.eq_2 ..) (evp h1 (evp h0 (evp c1 (Ev.step (fun k => spileref09_Number.j1.eq_2 ..) (evp rfl (Ev.now _))))))⟩
    · by_cases c2 : bt s i > 57
      · exact ⟨0, Ev.step (fun k => spileref09_Number.l0.eq_2 ..) (evp h1 (evp h0 (evn c1 (Ev.step (fun k => spileref09_Number.j1.eq_2 ..) (evp (decide_eq_true c2) (Ev.now _))))))⟩
      · by_cases c3 : i < 10
        · obtain ⟨v, hv⟩ := ih (wrap64 ((wrap64 (10 * n)) + (((bt s i) - 48) % 256)))
          rw [← w64_succ h0 h1 hs] at hv
          exact ⟨v, Ev.step (fun k => spileref09_Number.l0.eq_2 ..) (evp h1 (evp h0 (evn c1 (Ev.step (fun k => spileref09_Number.j1.eq_2 ..) (evn (by simpa using c2) (evp c3 (evp h0 (evp h1 hv))))))))⟩
        · obtain ⟨v, hv⟩ := ih n
          rw [← w64_succ h0 h1 hs] at hv
          exact ⟨v, Ev.step (fun k => spileref09_Number.l0.eq_2 ..) (evp h1 (evp h0 (evn c1 (Ev.step (fun k => spileref09_Number.j1.eq_2 ..) (evn (by simpa using c2) (evn c3 hv))))))⟩
theorem rnum_ev (s : ByteArray) (hs : (s.size : Int) ≤ 9223372036854775807) : ∃ v, Ev (fun k => spileref09_Number.f k s) (v, (numP 10 s.data.toList).isSome) ∧ ∀ u, numP 10 s.data.toList = some u → v = (u : Int) := by
  have hsz := size_data s
  have bad : ¬ (Canon s.data.toList ∧ s.data.toList.length ≤ 10) → numP 10 s.data.toList = none := fun h => by
    unfold numP; rw [if_neg h]
  by_cases c1 : (s.size : Int) ≥ 1
  case neg =>
    obtain ⟨v, hv⟩ := rnum_long s hs (fun n => Ev.step (fun k => spileref09_Number.l0.eq_2 ..) (evn (by omega) (evn c1 (Ev.now _)))) 0 (by omega) (by omega) 0
    have e := bad (fun h => by have := h.1.1; omega)
    rw [e]
    exact ⟨v, hv, fun u h => by cases h⟩
  by_cases c2 : (s.size : Int) ≤ 10
  case neg =>
    obtain ⟨v, hv⟩ := rnum_long s hs (fun n => Ev.step (fun k => spileref09_Number.l0.eq_2 ..) (evn (by omega) (evp c1 (evn c2 (Ev.now _))))) 0 (by omega) (by omega) 0
    have e := bad (fun h => by have := h.2; omega)
    rw [e]
    exact ⟨v, hv, fun u h => by cases h⟩
  obtain ⟨b, e1, _, e3⟩ := byte_at s (i := 0) (by omega) (by omega)
  rw [show (0 : Int).toNat = 0 from rfl, List.drop_zero] at e1
  have hend : ∀ n : Nat, Ev (fun k => spileref09_Number.l0 k s (n : Int) (s.size : Int)) ((n : Int), decide ((s.size : Int) = 1 ∨ b ≠ 48)) := by
    intro n
    refine Ev.step (fun k => spileref09_Number.l0.eq_2 ..) (evn (by omega) (evp c1 (evp c2 ?_)))
    by_cases c3 : (s.size : Int) = 1
    · rw [decide_eq_true (.inl c3)]
      exact evp c3 (Ev.now _)
    · refine evn c3 (evp (by omega) (evr ?_))
      rw [e3]
      refine congrArg (Prod.mk (n : Int)) ?_
      by_cases c4 : b = 48
      · rw [decide_eq_false (by rintro (z | z); exact c3 z; exact z c4), c4]; rfl
      · rw [decide_eq_true (.inr c4)]
        rw [bne_iff_ne]
        exact fun h => c4 ((toNat_eq b 48 (by decide)).1 h)
  have q := rnum_loop s c2 _ hend 0 (by omega) (by omega) 0 (by decide)
  rw [show (0 : Int).toNat = 0 from rfl, List.drop_zero] at q
  by_cases hd : s.data.toList.all isDig = true
  · rw [if_pos hd] at q
    by_cases hh : (s.size : Int) = 1 ∨ b ≠ 48
    · have hc : Canon s.data.toList ∧ s.data.toList.length ≤ 10 := ⟨⟨by omega, fun z => by
        rcases hh with h | h
        · have := z.1; omega
        · have := z.2; rw [e1] at this; exact h (by simpa using this), hd⟩, by omega⟩
      rw [decide_eq_true hh] at q
      have e : numP 10 s.data.toList = some (valFrom 0 s.data.toList) := by unfold numP; rw [if_pos hc]
      rw [e]
      exact ⟨_, q, fun u h => by cases h; rfl⟩
    · rw [decide_eq_false hh] at q
      have e := bad (fun h => hh (by
        by_cases c3 : (s.size : Int) = 1
        · exact .inl c3
        · exact .inr (fun z => h.1.2.1 ⟨by omega, by rw [e1, z]; rfl⟩)))
      rw [e]
      exact ⟨_, q, fun u h => by cases h⟩
  · rw [if_neg hd] at q
    have e := bad (fun h => hd h.1.2.2)
    rw [e]
    exact ⟨_, q, fun u h => by cases h⟩
theorem words9_ev (s : ByteArray) (hs : (s.size : Int) ≤ 4611686018427) : Ev (fun k => spileref09_Words.f k s) (if ([] : List UInt8) ∈ parts 32 s.data.toList then ([], false) else ((parts 32 s.data.toList).map ba, true)) := by
  have key : ∀ i, 0 ≤ i → i ≤ (s.size : Int) → ∀ (out : List ByteArray) (fr : Int), 0 ≤ fr → fr ≤ i → (out.length : Int) ≤ i →
      Ev (fun k => spileref09_Words.l0 k s out fr i) (if ([] : List UInt8) ∈ wrd 32 ((s.data.toList.take i.toNat).drop fr.toNat) (s.data.toList.drop i.toNat) then ([], false) else (out ++ (wrd 32 ((s.data.toList.take i.toNat).drop fr.toNat) (s.data.toList.drop i.toNat)).map ba, true)) := by
    refine count_up 0 (s.size : Int) _ ?_ ?_
    · intro out fr h0 h1 h2
      rw [drop_end, take_end]
      refine Ev.step (fun k => spileref09_Words.l0.eq_2 ..) (evp (by omega) (evp rfl (Ev.step (fun k => spileref09_Words.j1.eq_2 ..) (evp rfl ?_))))
      by_cases c : (s.size : Int) = fr
      · have he : s.data.toList.drop fr.toNat = [] := List.drop_eq_nil_of_le (by rw [size_data]; omega)
        rw [he]
        exact evp c (Ev.now _)
      · have hne : ¬ s.data.toList.drop fr.toNat = [] := fun e => by
          have := congrArg List.length e
          rw [List.length_drop, size_data] at this
          simp at this; omega
        have hm : ¬ ([] : List UInt8) ∈ wrd 32 (s.data.toList.drop fr.toNat) [] := fun h => by
          simp only [wrd, List.mem_singleton] at h
          exact hne h.symm
        rw [if_neg hm]
        refine evn c (evp h0 (evp h1 (evp (by omega) (evp (by omega) (Ev.step (fun k => spileref09_Words.l0.eq_2 ..) (evn ?_ (evr ?_)))))))
        · rw [w64 (by omega) (by omega)]; omega
        · rw [ba_ex, take_end]; rfl
    · intro i h0 h1 ih out fr g0 g1 g2
      obtain ⟨b, e1, e2, e3⟩ := byte_at s h0 h1
      have hw : wrap64 (i + 1) = i + 1 := w64 (by omega) (by omega)
      have hlen : fr.toNat ≤ (s.data.toList.take i.toNat).length := by rw [List.length_take, size_data]; omega
      refine Ev.step (fun k => spileref09_Words.l0.eq_2 ..) (evp (by omega) (evn (by omega) (evp h0 (evp h1 ?_))))
      rw [e1, wrd_cons, e3]
      by_cases c : b = 32
      · rw [if_pos c, show ((b.toNat : Int) == 32) = true from beq_iff_eq.2 ((toNat_eq b 32 (by decide)).2 c)]
        refine Ev.step (fun k => spileref09_Words.j1.eq_2 ..) (evp rfl ?_)
        rw [hw]
        by_cases d : i = fr
        · have he : (s.data.toList.take i.toNat).drop fr.toNat = [] := List.drop_eq_nil_of_le (by rw [List.length_take]; omega)
          rw [he, if_pos (List.mem_cons_self ..)]
          exact evp d (Ev.now _)
        · have hne : ¬ ([] : List UInt8) = (s.data.toList.take i.toNat).drop fr.toNat := fun e => by
            have := congrArg List.length e
            rw [List.length_drop, List.length_take, size_data] at this
            simp at this; omega
          have q := ih (out ++ [s.extract fr.toNat i.toNat]) (i + 1) (by omega) (by omega) (by rw [List.length_append]; simp; omega)
          have z : (s.data.toList.take (i + 1).toNat).drop (i + 1).toNat = [] := List.drop_eq_nil_of_le (by rw [List.length_take]; omega)
          rw [z, List.append_assoc] at q
          have em : (([] : List UInt8) ∈ (s.data.toList.take i.toNat).drop fr.toNat :: wrd 32 [] (s.data.toList.drop (i + 1).toNat)) = (([] : List UInt8) ∈ wrd 32 [] (s.data.toList.drop (i + 1).toNat)) :=
            propext ⟨fun h => (List.mem_cons.1 h).resolve_left hne, fun h => List.mem_cons_of_mem _ h⟩
          simp only [em]
          refine evn d (evp g0 (evp g1 (evp (by omega) (evp (by omega) ?_))))
          rw [ba_ex] at q ⊢
          exact q
      · have q := ih out fr g0 (by omega) (by omega)
        rw [e2, List.drop_append_of_le_length hlen] at q
        rw [if_neg c, show ((b.toNat : Int) == 32) = false from beq_eq_false_iff_ne.2 (fun h => c ((toNat_eq b 32 (by decide)).1 h))]
        refine Ev.step (fun k => spileref09_Words.j1.eq_2 ..) (evn (by decide) ?_)
        rw [hw]
        exact q
  have := key 0 (by omega) (by omega) [] 0 (by omega) (by omega) (by simp)
  rw [show (0 : Int).toNat = 0 from rfl, List.take_zero, List.drop_zero, List.drop_zero, wrd_parts, List.nil_append] at this
  exact this
def cCask : List UInt8 := [99, 97, 115, 107]
def cDecl : List UInt8 := [100, 101, 99, 108, 97, 114, 101, 100]
def cAt : List UInt8 := [97, 116]
def cRad : List UInt8 := [114, 97, 100, 105, 117, 115]
def cEnd : List UInt8 := [101, 110, 100]
def cLying : List UInt8 := [108, 121, 105, 110, 103]
def cStand : List UInt8 := [115, 116, 97, 110, 100, 105, 110, 103]
def posL (p : List UInt8) : Option Int := if p = cLying then some 1 else if p = cStand then some 2 else none
def outL : List (List UInt8) → Option S27
  | [a, b, c, d, e] => if a = cCask ∧ b ≠ [] ∧ d = cDecl then (match posL c with
    | none => none
    | some p => match numP 10 e with
      | none => none
      | some v => some ⟨ba b, p, [], (v : Int)⟩) else none
  | _ => none
def inL : List (List UInt8) → Option S46
  | [a, b, c, d] => if a = cAt ∧ c = cRad then (match numP 10 b with
    | none => none
    | some x => match numP 10 d with
      | none => none
      | some r => some ⟨(x : Int), (r : Int)⟩) else none
  | _ => none
theorem outL5 (a b c d e : List UInt8) : outL [a, b, c, d, e] = if a = cCask ∧ b ≠ [] ∧ d = cDecl then (match posL c with
    | none => none
    | some p => match numP 10 e with
      | none => none
      | some v => some ⟨ba b, p, [], (v : Int)⟩) else none := rfl
theorem inL4 (a b c d : List UInt8) : inL [a, b, c, d] = if a = cAt ∧ c = cRad then (match numP 10 b with
    | none => none
    | some x => match numP 10 d with
      | none => none
      | some r => some ⟨(x : Int), (r : Int)⟩) else none := rfl
theorem numP_nil : numP 10 [] = none := by decide
theorem posL_nil : posL [] = none := by decide
theorem outL_nil {ws : List (List UInt8)} (h : [] ∈ ws) : outL ws = none := by
  unfold outL
  split
  · rename_i a b c d e
    split
    · rename_i hc
      obtain ⟨rfl, hb, rfl⟩ := hc
      simp only [List.mem_cons, List.not_mem_nil, or_false] at h
      rcases h with h | h | h | h | h
      · cases h
      · exact absurd h.symm hb
      · rw [← h, posL_nil]
      · cases h
      · rw [← h, numP_nil]
        cases posL c <;> rfl
    · rfl
  · rfl
theorem inL_nil {ws : List (List UInt8)} (h : [] ∈ ws) : inL ws = none := by
  unfold inL
  split
  · rename_i a b c d
    split
    · rename_i hc
      obtain ⟨rfl, rfl⟩ := hc
      simp only [List.mem_cons, List.not_mem_nil, or_false] at h
      rcases h with h | h | h | h
      · cases h
      · rw [← h, numP_nil]
      · cases h
      · rw [← h, numP_nil]
        cases numP 10 b <;> rfl
    · rfl
  · rfl
theorem outL_len {ws : List (List UInt8)} (h : ws.length ≠ 5) : outL ws = none := by
  unfold outL
  split
  · exact absurd rfl h
  · rfl
theorem inL_len {ws : List (List UInt8)} (h : ws.length ≠ 4) : inL ws = none := by
  unfold inL
  split
  · exact absurd rfl h
  · rfl
theorem five {ws : List (List UInt8)} (h : ws.length = 5) : ∃ a b c d e, ws = [a, b, c, d, e] := by
  match ws, h with
  | [a, b, c, d, e], _ => exact ⟨a, b, c, d, e, rfl⟩
theorem four {ws : List (List UInt8)} (h : ws.length = 4) : ∃ a b c d, ws = [a, b, c, d] := by
  match ws, h with
  | [a, b, c, d], _ => exact ⟨a, b, c, d, rfl⟩
theorem pos_ba (p : List UInt8) : cask_outside.pos (ba p) = posL p := by
  show lastAt none cask_words.tbl p = posL p
  unfold cask_words.tbl posL
  simp only [lastAt]
  by_cases c1 : p = cLying
  · subst c1; rfl
  · have n1 : ¬ ([108, 121, 105, 110, 103] : List UInt8) = p := fun h => c1 h.symm
    rw [if_neg n1, if_neg c1]
    by_cases c2 : p = cStand
    · subst c2; rfl
    · have n2 : ¬ ([115, 116, 97, 110, 100, 105, 110, 103] : List UInt8) = p := fun h => c2 h.symm
      rw [if_neg n2, if_neg c2]
theorem outside_ev (ws : List (List UInt8)) (hw : ∀ w, w ∈ ws → w.length ≤ 100000) : Ev (fun k => cask_outside.f k (ws.map ba)) (outL ws) := by
  by_cases h5 : ws.length = 5
  case neg =>
    rw [outL_len h5]
    exact evn (fun h => h5 (by simpa using h.1)) (Ev.now _)
  obtain ⟨a, b, c, d, e, rfl⟩ := five h5
  unfold cask_outside.f
  have r0 : rdOf ByteArray.empty ([a, b, c, d, e].map ba) 0 = ba a := rfl
  have r1 : rdOf ByteArray.empty ([a, b, c, d, e].map ba) 1 = ba b := rfl
  have r2 : rdOf ByteArray.empty ([a, b, c, d, e].map ba) 2 = ba c := rfl
  have r3 : rdOf ByteArray.empty ([a, b, c, d, e].map ba) 3 = ba d := rfl
  have r4 : rdOf ByteArray.empty ([a, b, c, d, e].map ba) 4 = ba e := rfl
  rw [r0, r1, r2, r3, r4, ba_toList, ba_toList, ba_toList, pos_ba]
  rw [outL5]
  by_cases hc : a = cCask ∧ b ≠ [] ∧ d = cDecl
  case neg =>
    rw [if_neg hc]
    exact evn (fun h => hc ⟨h.2.1, h.2.2.1, h.2.2.2⟩) (Ev.now _)
  rw [if_pos hc]
  have hn := num_ev (ba e)
  rw [ba_list] at hn
  refine evp ⟨rfl, hc⟩ (evp (by rw [ba_size]; exact hw c (by simp)) (evb hn (evr ?_)))
  cases posL c with
  | none => rfl
  | some p =>
    unfold numR
    cases numP 10 e with
    | none => rfl
    | some v => rfl
theorem inside_ev (ws : List (List UInt8)) : Ev (fun k => cask_inside.f k (ws.map ba)) (inL ws) := by
  by_cases h4 : ws.length = 4
  case neg =>
    rw [inL_len h4]
    exact evn (fun h => h4 (by simpa using h.1)) (Ev.now _)
  obtain ⟨a, b, c, d, rfl⟩ := four h4
  unfold cask_inside.f
  have r0 : rdOf ByteArray.empty ([a, b, c, d].map ba) 0 = ba a := rfl
  have r1 : rdOf ByteArray.empty ([a, b, c, d].map ba) 1 = ba b := rfl
  have r2 : rdOf ByteArray.empty ([a, b, c, d].map ba) 2 = ba c := rfl
  have r3 : rdOf ByteArray.empty ([a, b, c, d].map ba) 3 = ba d := rfl
  rw [r0, r1, r2, r3, ba_toList, ba_toList]
  rw [inL4]
  by_cases hc : a = cAt ∧ c = cRad
  case neg =>
    rw [if_neg hc]
    exact evn (fun h => hc ⟨h.2.1, h.2.2⟩) (Ev.now _)
  rw [if_pos hc]
  have hb := num_ev (ba b)
  have hd := num_ev (ba d)
  rw [ba_list] at hb hd
  refine evp ⟨rfl, hc⟩ (evb hb (evb hd (evr ?_)))
  unfold numR
  cases numP 10 b with
  | none => cases numP 10 d <;> rfl
  | some x =>
    cases numP 10 d with
    | none => rfl
    | some r => rfl
def headR (r : ByteArray × Int × List S46 × Int × Bool) : Option S27 → Prop
  | some q => r = (q.f0, q.f1, q.f2, q.f3, true)
  | none => r.2.2.2.2 = false
theorem head_ev (ws : List (List UInt8)) (hn : [] ∉ ws) (hw : ∀ w, w ∈ ws → w.length ≤ 100000) : ∃ r, Ev (fun k => spileref09_head.f k (ws.map ba)) r ∧ headR r (outL ws) := by
  have jt : Ev (fun k => spileref09_head.j0 k (ws.map ba) true) ((⟨#[]⟩ : ByteArray), 0, [], 0, false) := Ev.step (fun k => spileref09_head.j0.eq_2 ..) (evp rfl (Ev.now _))
  by_cases h5 : ws.length = 5
  case neg =>
    rw [outL_len h5]
    exact ⟨_, evn (fun h => h5 (by rw [List.length_map] at h; omega)) jt, rfl⟩
  obtain ⟨a, b, c, d, e, rfl⟩ := five h5
  have r0 : rdOf ByteArray.empty ([a, b, c, d, e].map ba) 0 = ba a := rfl
  have r1 : rdOf ByteArray.empty ([a, b, c, d, e].map ba) 1 = ba b := rfl
  have r2 : rdOf ByteArray.empty ([a, b, c, d, e].map ba) 2 = ba c := rfl
  have r3 : rdOf ByteArray.empty ([a, b, c, d, e].map ba) 3 = ba d := rfl
  have r4 : rdOf ByteArray.empty ([a, b, c, d, e].map ba) 4 = ba e := rfl
  have hl : (([a, b, c, d, e].map ba).length : Int) = 5 := by simp
  have hb : b ≠ [] := fun h => hn (by simp [h])
  rw [outL5]
  by_cases ca : a = cCask
  case neg =>
    rw [if_neg (fun h => ca h.1)]
    exact ⟨((⟨#[]⟩ : ByteArray), 0, [], 0, false), evp hl (evp (by omega) (by rw [r0, ba_toList]; exact evn ca jt)), rfl⟩
  have tail : ∀ p, posL c = some p → ∃ r, Ev (fun k => if 3 < (([a, b, c, d, e].map ba).length : Int) then spileref09_head.j0 k ([a, b, c, d, e].map ba) ((rdOf ByteArray.empty ([a, b, c, d, e].map ba) 3).toList != ([100, 101, 99, 108, 97, 114, 101, 100] : List UInt8)) else none) r ∧
      headR r (if a = cCask ∧ b ≠ [] ∧ d = cDecl then (match posL c with
    | none => none
    | some p => match numP 10 e with
      | none => none
      | some v => some ⟨ba b, p, [], (v : Int)⟩) else none) := by
    intro p hp
    rw [r3, ba_toList, hp]
    by_cases cd : d = cDecl
    case neg =>
      rw [if_neg (fun h => cd h.2.2), show (d != ([100, 101, 99, 108, 97, 114, 101, 100] : List UInt8)) = true from bne_iff_ne.2 cd]
      exact ⟨_, evp (by omega) jt, rfl⟩
    rw [if_pos ⟨ca, hb, cd⟩, show (d != ([100, 101, 99, 108, 97, 114, 101, 100] : List UInt8)) = false from by rw [cd]; rfl]
    obtain ⟨v, hv, hu⟩ := rnum_ev (ba e) (by rw [ba_size]; have := hw e (by simp); omega)
    rw [ba_list] at hv hu
    have hj : ∃ q, (q = 1 ∨ q = 2) ∧ posL c = some q ∧ Ev (fun k => spileref09_head.j0 k ([a, b, c, d, e].map ba) false) (ba b, q, [], v, (numP 10 e).isSome) := by
      unfold posL at hp ⊢
      by_cases c1 : c = cLying
      · rw [if_pos c1]
        refine ⟨1, .inl rfl, rfl, Ev.step (fun k => spileref09_head.j0.eq_2 ..) (evn (by decide) (evp (by omega) ?_))⟩
        rw [r4, r1, r2, ba_toList]
        exact evb hv (evp (by omega) (evp (by omega) (evp c1 (Ev.now _))))
      · rw [if_neg c1] at hp ⊢
        by_cases c2 : c = cStand
        · rw [if_pos c2]
          refine ⟨2, .inr rfl, rfl, Ev.step (fun k => spileref09_head.j0.eq_2 ..) (evn (by decide) (evp (by omega) ?_))⟩
          rw [r4, r1, r2, ba_toList]
          exact evb hv (evp (by omega) (evp (by omega) (evn c1 (Ev.now _))))
        · rw [if_neg c2] at hp; cases hp
    obtain ⟨q, _, hq, hj⟩ := hj
    rw [hp] at hq
    cases hq
    refine ⟨_, evp (by omega) hj, ?_⟩
    cases he : numP 10 e with
    | none => rfl
    | some u => rw [hu u he]; rfl
  by_cases c1 : c = cLying
  · obtain ⟨r, h1, h2⟩ := tail 1 (by unfold posL; rw [if_pos c1])
    refine ⟨r, evp hl (evp (by omega) ?_), h2⟩
    rw [r0, r2, ba_toList, ba_toList]
    exact evp ca (evp (by omega) (evp c1 h1))
  · by_cases c2 : c = cStand
    · obtain ⟨r, h1, h2⟩ := tail 2 (by unfold posL; rw [if_neg c1, if_pos c2])
      refine ⟨r, evp hl (evp (by omega) ?_), h2⟩
      rw [r0, r2, ba_toList, ba_toList]
      exact evp ca (evp (by omega) (evn c1 (evp c2 h1)))
    · have hp : posL c = none := by unfold posL; rw [if_neg c1, if_neg c2]
      rw [hp]
      refine ⟨_, evp hl (evp (by omega) (by rw [r0, r2, ba_toList, ba_toList]; exact evp ca (evp (by omega) (evn c1 (evn c2 jt))))), ?_⟩
      split <;> rfl
def pointR (r : Int × Int × Bool) : Option S46 → Prop
  | some q => r = (q.f0, q.f1, true)
  | none => r.2.2 = false
theorem point_ev (ws : List (List UInt8)) (hw : ∀ w, w ∈ ws → w.length ≤ 100000) : ∃ r, Ev (fun k => spileref09_point.f k (ws.map ba)) r ∧ pointR r (inL ws) := by
  have jt : Ev (fun k => spileref09_point.j0 k (ws.map ba) true) ((0 : Int), (0 : Int), false) := Ev.step (fun k => spileref09_point.j0.eq_2 ..) (evp rfl (Ev.now _))
  by_cases h4 : ws.length = 4
  case neg =>
    rw [inL_len h4]
    exact ⟨_, evn (fun h => h4 (by rw [List.length_map] at h; omega)) jt, rfl⟩
  obtain ⟨a, b, c, d, rfl⟩ := four h4
  have r0 : rdOf ByteArray.empty ([a, b, c, d].map ba) 0 = ba a := rfl
  have r1 : rdOf ByteArray.empty ([a, b, c, d].map ba) 1 = ba b := rfl
  have r2 : rdOf ByteArray.empty ([a, b, c, d].map ba) 2 = ba c := rfl
  have r3 : rdOf ByteArray.empty ([a, b, c, d].map ba) 3 = ba d := rfl
  have hl : (([a, b, c, d].map ba).length : Int) = 4 := by simp
  rw [inL4]
  by_cases ca : a = cAt
  case neg =>
    rw [if_neg (fun h => ca h.1)]
    exact ⟨(0, 0, false), evp hl (evp (by omega) (by rw [r0, ba_toList]; exact evn ca jt)), rfl⟩
  by_cases cc : c = cRad
  case neg =>
    rw [if_neg (fun h => cc h.2)]
    refine ⟨(0, 0, false), evp hl (evp (by omega) ?_), rfl⟩
    · rw [r0, r2, ba_toList, ba_toList, show (c != ([114, 97, 100, 105, 117, 115] : List UInt8)) = true from bne_iff_ne.2 cc]
      exact evp ca (evp (by omega) jt)
  rw [if_pos ⟨ca, cc⟩]
  obtain ⟨v, hv, hu⟩ := rnum_ev (ba b) (by rw [ba_size]; have := hw b (by simp); omega)
  obtain ⟨v2, hv2, hu2⟩ := rnum_ev (ba d) (by rw [ba_size]; have := hw d (by simp); omega)
  rw [ba_list] at hv hu hv2 hu2
  have pre : ∀ r, Ev (fun _ : Nat => if (numP 10 b).isSome = true then some (v, v2, (numP 10 d).isSome) else some (v, v2, false)) r → Ev (fun k => spileref09_point.f k ([a, b, c, d].map ba)) r := by
    intro r hr
    refine evp hl (evp (by omega) ?_)
    rw [r0, r2, ba_toList, ba_toList, show (c != ([114, 97, 100, 105, 117, 115] : List UInt8)) = false from by rw [cc]; rfl]
    refine evp ca (evp (by omega) (Ev.step (fun k => spileref09_point.j0.eq_2 ..) (evn (by decide) (evp (by omega) ?_))))
    rw [r1, r3]
    exact evb hv (evp (by omega) (evb hv2 hr))
  cases hb : numP 10 b with
  | none =>
    rw [hb] at pre
    exact ⟨_, pre _ (evn (by decide) (Ev.now _)), rfl⟩
  | some x =>
    rw [hb] at pre
    refine ⟨_, pre _ (evp rfl (Ev.now _)), ?_⟩
    rw [hu x hb]
    cases hd : numP 10 d with
    | none => rfl
    | some y => rw [hu2 y hd]; rfl
end Go.Proofs.YtnhmlneebnkjcaaDoor.PL
