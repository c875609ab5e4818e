/-
A part of what these laws rest on: contracts of the functions that they reach, and plain lemmas.
-/
import Derived.Test.YtnhmlneebnkjcaaDoorCaskJoinedC
set_option linter.unusedVariables false
set_option linter.unusedSimpArgs false
namespace Go.Proofs.YtnhmlneebnkjcaaDoor.Pr
open Go.RowKit Go.Proofs.YtnhmlneebnkjcaaDoorW.PrintWords Go.Proofs.YtnhmlneebnkjcaaDoorW.PrintLast Go.Proofs.YtnhmlneebnkjcaaDoorW.PrintMore Go.Proofs.YtnhmlneebnkjcaaDoor.X
attribute [local go_sem] max2_int min2_int max_two min_two max_three min_three max_four min_four   -- for this text's walks alone
set_option linter.unusedVariables false
set_option linter.unusedSimpArgs false
def spileref09_Same.l0 : Nat → List (S27) → List (S27) → Int → Option (Bool)
 | 0, _, _, _ => none
 | k + 1, x0, x1, x5 => if x5 < (x0.length : Int) then (if 0 ≤ x5 then (if x5 < (x1.length : Int) then ((spileref09_SameCask.f k ((rd_T27 x0 x5).f0) ((rd_T27 x0 x5).f1) ((rd_T27 x0 x5).f2) ((rd_T27 x0 x5).f3) ((rd_T27 x1 x5).f0) ((rd_T27 x1 x5).f1) ((rd_T27 x1 x5).f2) ((rd_T27 x1 x5).f3)).bind fun t146 => (if t146 = true then (spileref09_Same.l0 k x0 x1 (wrap64 (x5 + 1))) else (some false))) else (none)) else (none)) else (some true)
def spileref09_Same.f (k : Nat) (l0 : List (S27)) (l1 : List (S27)) : Option (Bool) := if (l0.length : Int) = (l1.length : Int) then (spileref09_Same.l0 k l0 l1 0) else (some false)
def spileref09_Same.T6 : Bool × List (List Nat × List Nat) := (true, [([], []), ([], []), ([0, 1], [0, 1]), ([2], [2]), ([], []), ([], []), ([4, 5], [4, 5]), ([6], [6]), ([3, 7], [3, 7]), ([8], [8])])
def spileref09_Same.B6 : List Nat := [0, 0, 3, 7, 0, 0, 48, 112, 255, 511]
theorem spileref09_Same.tab6 : rtab .any (opsOf Tryd.f26 6) = spileref09_Same.T6 := by kernel_rfl
theorem spileref09_Same.bits6 : waitsOk spileref09_Same.T6.2 spileref09_Same.B6 = true := by kernel_rfl
set_option maxHeartbeats 8000000 in
set_option maxRecDepth 100000 in
theorem spileref09_Same.calls (k : Nat) (A0 : Option Addr) (c0 : Nat) (l0 : List (S27)) (A1 : Option Addr) (c1 : Nat) (l1 : List (S27)) (r : Bool) (w : World) (hr0 : Kd.C k27 w A0 l0.length l0) (hc0 : l0.length ≤ c0) (hr1 : Kd.C k27 w A1 l1.length l1) (hc1 : l1.length ≤ c1) (h : spileref09_Same.f k l0 l1 = some r) :
  Calls Tryd.prog 26 #[.slice A0 l0.length c0, .slice A1 l1.length c1] w fun e w' => e = .returned (.bool r) ∧ Below w.heap.size w w' := by
 have hu27 := Tryd.underlying27; have HR0 := Aside0.mk hr0; have HC0 := Aside0.mk hc0; clear hr0 hc0; have HR1 := Aside0.mk hr1; have HC1 := Aside0.mk hc1; clear hr1 hc1; have HB := Aside0.mk (Below.refl w.heap.size w); have H : (if (l0.length : Int) = (l1.length : Int) then (spileref09_Same.l0 k l0 l1 0) else (some false)) = some r := h; clear h; by_cases c3 : (l0.length : Int) = (l1.length : Int)
 ·
  rw [if_pos c3] at H; have c3b0 : ((l0.length : Int) == (l1.length : Int)) = true := beq_iff_eq.mpr c3; have c3b1 : ((l0.length : Int) != (l1.length : Int)) = false := bne_eq_false_iff_eq.mpr c3; have c3b2 : (l0.length == l1.length) = true := by first | simpa using c3 | (simp at c3 ⊢; omega)
  clear c3; have H' := Aside0.mk H; clear H; go_enter Tryd.func26, Tryd.ntmps26
  go_wp2; go_loopg [5] k (fun kq v5 w' => ∃ (x5_1 : Int), v5 = .int .i64 x5_1 ∧ Aside0 (spileref09_Same.l0 kq l0 l1 x5_1 = some r) ∧ Aside0 (kq ≤ k) ∧ Aside0 (Below w.heap.size w w'))
  case atStart => exact ⟨(0), (by first | rfl | (simp; done) | (simp [*]; done)), H', ⟨Nat.le_refl _⟩, ⟨by repeat (first | (with_reducible first | exact HB.out | apply below_alloc | apply pw_below_drewN | apply below_drew1) | exact HB.out)⟩⟩
  case round =>
   clear H'; try clear c1
   try clear c2
   try clear p2
   try clear c3
   try clear c3b0
   try clear c3b1
   try clear c3b2
   obtain ⟨x5_1, rfl, HA, HK1, HB⟩ := hrel
   cases gk with
   | zero => exact absurd HA.out (by simp [spileref09_Same.l0])
   | succ k1 =>
    have H := HA.out; clear HA; simp only [spileref09_Same.l0] at H; by_cases c4 : x5_1 < (l0.length : Int)
    ·
     rw [if_pos c4] at H; have c4b0 : decide (x5_1 < (l0.length : Int)) = true := decide_eq_true c4; clear c4; by_cases c5 : 0 ≤ x5_1
     ·
      rw [if_pos c5] at H; have c5b0 : decide (0 ≤ x5_1) = true := decide_eq_true c5; clear c5; by_cases c6 : x5_1 < (l1.length : Int)
      ·
       rw [if_pos c6] at H; have c6b0 : decide (x5_1 < (l1.length : Int)) = true := decide_eq_true c6; clear c6; replace H := Option.bind_eq_some_iff.mp H; obtain ⟨t146, A70, H⟩ := H; replace H : (if t146 = true then (spileref09_Same.l0 k1 l0 l1 (wrap64 (x5_1 + 1))) else (some false)) = some r := H; have A7 := Aside0.mk A70; clear A70; by_cases c8 : t146 = true
       ·
        subst c8; have H1 : (spileref09_Same.l0 k1 l0 l1 (wrap64 (x5_1 + 1))) = some r := by rw [if_pos rfl] at H; exact H
        clear H; have H := H1; clear H1; have H' := Aside0.mk H; clear H; try go_wp2
        have n0_ := Aside0.mk (below_drew1 HB.out); clear HB; have HB := n0_; clear n0_; have p144 : 0 ≤ (x5_1 : Int) := of_decide_eq_true (by first | (with_reducible assumption) | assumption); have q144 : x5_1 < (l0.length : Int) := of_decide_eq_true (by first | (with_reducible assumption) | assumption); obtain ⟨ad144, A144_2, c144_2, e144, hx144_0, hx144_1, hx144_2, hx144_3, hl144_2, hi144_2⟩ := at_T27 HR0.out x5_1 p144 q144; have hw144_3 := hx144_3; have hw144_2 := hx144_2; have hw144_1 := hx144_1; have hw144_0 := hx144_0; cases e144; replace hx144_0 := (HB.out.cell (World.block_lt_of_cell? w _ hx144_0)).trans hx144_0; replace hx144_1 := (HB.out.cell (World.block_lt_of_cell? w _ hx144_1)).trans hx144_1; replace hx144_2 := (HB.out.cell (World.block_lt_of_cell? w _ hx144_2)).trans hx144_2; replace hx144_3 := (HB.out.cell (World.block_lt_of_cell? w _ hx144_3)).trans hx144_3; have HR144_2 := Aside0.mk hi144_2; have HC144_2 := Aside0.mk hl144_2; clear hi144_2 hl144_2; replace p144 := eq_true p144; replace q144 := eq_true q144; have p145 : 0 ≤ (x5_1 : Int) := of_decide_eq_true (by first | (with_reducible assumption) | assumption); have q145 : x5_1 < (l1.length : Int) := of_decide_eq_true (by first | (with_reducible assumption) | assumption); obtain ⟨ad145, A145_2, c145_2, e145, hx145_0, hx145_1, hx145_2, hx145_3, hl145_2, hi145_2⟩ := at_T27 HR1.out x5_1 p145 q145; have hw145_3 := hx145_3; have hw145_2 := hx145_2; have hw145_1 := hx145_1; have hw145_0 := hx145_0; cases e145; replace hx145_0 := (HB.out.cell (World.block_lt_of_cell? w _ hx145_0)).trans hx145_0; replace hx145_1 := (HB.out.cell (World.block_lt_of_cell? w _ hx145_1)).trans hx145_1; replace hx145_2 := (HB.out.cell (World.block_lt_of_cell? w _ hx145_2)).trans hx145_2; replace hx145_3 := (HB.out.cell (World.block_lt_of_cell? w _ hx145_3)).trans hx145_3; have HR145_2 := Aside0.mk hi145_2; have HC145_2 := Aside0.mk hl145_2; clear hi145_2 hl145_2; replace p145 := eq_true p145; replace q145 := eq_true q145; refine start_ (n := 10) (S := fun w' => w'.cell? (ad144.add ((x5_1).toNat * 4)) = some (.string ((rd_T27 l0 x5_1).f0)) ∧ w'.cell? ⟨(ad144.add ((x5_1).toNat * 4)).block, (ad144.add ((x5_1).toNat * 4)).off + 1, none⟩ = some (.int .i64 ((rd_T27 l0 x5_1).f1)) ∧ w'.cell? ⟨(ad144.add ((x5_1).toNat * 4)).block, (ad144.add ((x5_1).toNat * 4)).off + 2, none⟩ = some (.slice A144_2 ((rd_T27 l0 x5_1).f2).length c144_2) ∧ w'.cell? ⟨(ad144.add ((x5_1).toNat * 4)).block, (ad144.add ((x5_1).toNat * 4)).off + 3, none⟩ = some (.int .i64 ((rd_T27 l0 x5_1).f3)) ∧ w'.cell? (ad145.add ((x5_1).toNat * 4)) = some (.string ((rd_T27 l1 x5_1).f0)) ∧ w'.cell? ⟨(ad145.add ((x5_1).toNat * 4)).block, (ad145.add ((x5_1).toNat * 4)).off + 1, none⟩ = some (.int .i64 ((rd_T27 l1 x5_1).f1)) ∧ w'.cell? ⟨(ad145.add ((x5_1).toNat * 4)).block, (ad145.add ((x5_1).toNat * 4)).off + 2, none⟩ = some (.slice A145_2 ((rd_T27 l1 x5_1).f2).length c145_2) ∧ w'.cell? ⟨(ad145.add ((x5_1).toNat * 4)).block, (ad145.add ((x5_1).toNat * 4)).off + 3, none⟩ = some (.int .i64 ((rd_T27 l1 x5_1).f3))) (ds := []) #[false, false, false, false, false, false, false, false, false, false] (by kernel_rfl) rfl rfl ⟨((HB.out.cell (World.block_lt_of_cell? w _ hw144_0)).trans hw144_0), ((HB.out.cell (World.block_lt_of_cell? w _ hw144_1)).trans hw144_1), ((HB.out.cell (World.block_lt_of_cell? w _ hw144_2)).trans hw144_2), ((HB.out.cell (World.block_lt_of_cell? w _ hw144_3)).trans hw144_3), ((HB.out.cell (World.block_lt_of_cell? w _ hw145_0)).trans hw145_0), ((HB.out.cell (World.block_lt_of_cell? w _ hw145_1)).trans hw145_1), ((HB.out.cell (World.block_lt_of_cell? w _ hw145_2)).trans hw145_2), ((HB.out.cell (World.block_lt_of_cell? w _ hw145_3)).trans hw145_3)⟩ (fun hHeld => ?_); refine with_tabW spileref09_Same.tab6 spileref09_Same.bits6 (fun HT_ HW_ => ?_)
        generalize wr.drew = w9 at HB HR144_2 HR145_2 hx144_0 hx144_1 hx144_2 hx144_3 hx145_0 hx145_1 hx145_2 hx145_3 hHeld ⊢; refine pure_ (i := 0) (N := some 17) (v := ?_) (a' := ?_) #[true, false, false, false, false, false, false, false, false, false] rfl rfl (any_of HT_.out (by kernel_rfl)) (fun _ _ _ h => h) (Or.inl ⟨by rfl, ?_⟩) ?_ ?_; rotate_left
        · intro w'; go_simp; with_reducible rfl
        rotate_left
        · simp only [Act.put, sIA, sC0, sCS, i64_w, i32_w]; rfl
        refine pure_ (i := 1) (N := some 18) (v := ?_) (a' := ?_) #[true, true, false, false, false, false, false, false, false, false] rfl rfl (any_of HT_.out (by kernel_rfl)) (fun _ _ _ h => h) (Or.inl ⟨by rfl, ?_⟩) ?_ ?_; rotate_left
        · intro w'; go_simp; with_reducible rfl
        rotate_left
        · simp only [Act.put, sIA, sC0, sCS, i64_w, i32_w]; rfl
        refine pure_ (i := 2) (N := some 19) (v := ?_) (a' := ?_) #[true, true, true, false, false, false, false, false, false, false] rfl rfl (any_of HT_.out (by kernel_rfl)) (fun _ _ _ h => h) (Or.inl ⟨by rfl, ?_⟩) ?_ ?_; rotate_left
        · intro w'; go_simp; with_reducible rfl
        rotate_left
        · simp only [Act.put, sIA, sC0, sCS, i64_w, i32_w]; rfl
        refine pure_ (i := 4) (N := some 21) (v := ?_) (a' := ?_) #[true, true, true, false, true, false, false, false, false, false] rfl rfl (any_of HT_.out (by kernel_rfl)) (fun _ _ _ h => h) (Or.inl ⟨by rfl, ?_⟩) ?_ ?_; rotate_left
        · intro w'; go_simp; with_reducible rfl
        rotate_left
        · simp only [Act.put, sIA, sC0, sCS, i64_w, i32_w]; rfl
        refine pure_ (i := 5) (N := some 22) (v := ?_) (a' := ?_) #[true, true, true, false, true, true, false, false, false, false] rfl rfl (any_of HT_.out (by kernel_rfl)) (fun _ _ _ h => h) (Or.inl ⟨by rfl, ?_⟩) ?_ ?_; rotate_left
        · intro w'; go_simp; with_reducible rfl
        rotate_left
        · simp only [Act.put, sIA, sC0, sCS, i64_w, i32_w]; rfl
        refine pure_ (i := 6) (N := some 23) (v := ?_) (a' := ?_) #[true, true, true, false, true, true, true, false, false, false] rfl rfl (any_of HT_.out (by kernel_rfl)) (fun _ _ _ h => h) (Or.inl ⟨by rfl, ?_⟩) ?_ ?_; rotate_left
        · intro w'; go_simp; with_reducible rfl
        rotate_left
        · simp only [Act.put, sIA, sC0, sCS, i64_w, i32_w]; rfl
        refine take_ (i := 3) (N := some 20) (v := ?_) (a' := ?_) #[true, true, true, true, true, true, true, false, false, false] rfl rfl (take_ofW HT_.out HW_.out (by kernel_rfl)) (fun _ _ _ h => h) (Or.inl ⟨by rfl, ?_⟩) hHeld ?_ ?_; rotate_left
        · rintro w' ⟨s0, s1, s2, s3, s4, s5, s6, s7⟩; go_simp; with_reducible rfl
        rotate_left
        · simp only [Act.put, sIA, sC0, sCS, i64_w, i32_w]; rfl
        refine take_ (i := 7) (N := some 24) (v := ?_) (a' := ?_) #[true, true, true, true, true, true, true, true, false, false] rfl rfl (take_ofW HT_.out HW_.out (by kernel_rfl)) (fun _ _ _ h => h) (Or.inl ⟨by rfl, ?_⟩) hHeld ?_ ?_; rotate_left
        · rintro w' ⟨s0, s1, s2, s3, s4, s5, s6, s7⟩; go_simp; with_reducible rfl
        rotate_left
        · simp only [Act.put, sIA, sC0, sCS, i64_w, i32_w]; rfl
        refine one_ (i := 8) (N := some 25) #[true, true, true, true, true, true, true, true, true, false] rfl rfl (one_of HT_.out (by kernel_rfl)) (by decide) (fun K hK => ?_); refine goes_ Tryd.func15 (by kernel_rfl) rfl #[.agg #[.string ((rd_T27 l0 x5_1).f0), .int .i64 ((rd_T27 l0 x5_1).f1), .slice A144_2 ((rd_T27 l0 x5_1).f2).length c144_2, .int .i64 ((rd_T27 l0 x5_1).f3)], .agg #[.string ((rd_T27 l1 x5_1).f0), .int .i64 ((rd_T27 l1 x5_1).f1), .slice A145_2 ((rd_T27 l1 x5_1).f2).length c145_2, .int .i64 ((rd_T27 l1 x5_1).f3)]] (by rfl) rfl rfl (by (try simp only [List.map_toArray, List.map_cons, List.map_nil]); first | done | rfl | (simp only [List.length_drop, List.length_take]; rfl)) ?_; with_reducible refine (spileref09_SameCask.calls k1 ((rd_T27 l0 x5_1).f0) ((rd_T27 l0 x5_1).f1) _ _ ((rd_T27 l0 x5_1).f2) ((rd_T27 l0 x5_1).f3) ((rd_T27 l1 x5_1).f0) ((rd_T27 l1 x5_1).f1) _ _ ((rd_T27 l1 x5_1).f2) ((rd_T27 l1 x5_1).f3) true _ ?side1 ?side2 ?side3 ?side4 A7.out).mono ?_
        (case side1 => repeat (first | exact (Kd.C_below HR144_2.out HB.out) | (with_reducible refine Kd.C_alloc ?_ _) | (with_reducible refine Kd.C_drewN ?_ _) | (with_reducible refine Kd.C_drew ?_)))
        (case side2 => exact HC144_2.out)
        (case side3 => repeat (first | exact (Kd.C_below HR145_2.out HB.out) | (with_reducible refine Kd.C_alloc ?_ _) | (with_reducible refine Kd.C_drewN ?_ _) | (with_reducible refine Kd.C_drew ?_)))
        (case side4 => exact HC145_2.out)
        rintro e w10 ⟨rfl, hb⟩; refine ⟨_, rfl, ?_⟩; have n0_ := Aside0.mk (below_step (by repeat (first | (with_reducible first | exact HB.out | apply below_alloc | apply pw_below_drewN | apply below_drew1) | exact HB.out)) hb); clear HB; have HB := n0_; clear n0_; (try clear hb)
        (try clear hb2)
        (try clear hk)
        (try clear hi)
        refine hK.out _ _ ⟨((HB.out.cell (World.block_lt_of_cell? w _ hw144_0)).trans hw144_0), ((HB.out.cell (World.block_lt_of_cell? w _ hw144_1)).trans hw144_1), ((HB.out.cell (World.block_lt_of_cell? w _ hw144_2)).trans hw144_2), ((HB.out.cell (World.block_lt_of_cell? w _ hw144_3)).trans hw144_3), ((HB.out.cell (World.block_lt_of_cell? w _ hw145_0)).trans hw145_0), ((HB.out.cell (World.block_lt_of_cell? w _ hw145_1)).trans hw145_1), ((HB.out.cell (World.block_lt_of_cell? w _ hw145_2)).trans hw145_2), ((HB.out.cell (World.block_lt_of_cell? w _ hw145_3)).trans hw145_3)⟩ (fun hHeld => ?_); clear hK K; refine norm_ (a' := ?_) ?_ ?_; rotate_left
        ·
         show Act.put _ (some 25) _ = _
         simp only [Act.put, sIA, sC0, sCS, i64_w, i32_w]; rfl
        refine pure_ (i := 9) (N := some 26) (v := ?_) (a' := ?_) #[true, true, true, true, true, true, true, true, true, true] rfl rfl (any_of HT_.out (by kernel_rfl)) (fun _ _ _ h => h) (Or.inl ⟨by rfl, ?_⟩) ?_ ?_; rotate_left
        · intro w'; go_simp; with_reducible rfl
        rotate_left
        · simp only [Act.put, sIA, sC0, sCS, i64_w, i32_w]; rfl
        refine done_ (done_of HT_.out (by kernel_rfl)) ?_; try go_wp2
        go_roundg k1
        case measure => have := HK1.out; omega
        case rel => exact ⟨(wrap64 (x5_1 + 1)), (by first | rfl | (simp; done) | (simp [*]; done)), H', ⟨by have := HK1.out; omega⟩, ⟨by repeat (first | (with_reducible first | exact HB.out | apply below_alloc | apply pw_below_drewN | apply below_drew1) | exact HB.out)⟩⟩
       ·
        replace c8 := Bool.eq_false_iff.mpr c8; subst c8; have H1 : (some false) = some r := by rw [if_neg (show ¬ (false = true) by decide)] at H; exact H
        clear H; have H := H1; clear H1; obtain rfl := Option.some.inj H; try go_wp2
        have n0_ := Aside0.mk (below_drew1 HB.out); clear HB; have HB := n0_; clear n0_; have p144 : 0 ≤ (x5_1 : Int) := of_decide_eq_true (by first | (with_reducible assumption) | assumption); have q144 : x5_1 < (l0.length : Int) := of_decide_eq_true (by first | (with_reducible assumption) | assumption); obtain ⟨ad144, A144_2, c144_2, e144, hx144_0, hx144_1, hx144_2, hx144_3, hl144_2, hi144_2⟩ := at_T27 HR0.out x5_1 p144 q144; have hw144_3 := hx144_3; have hw144_2 := hx144_2; have hw144_1 := hx144_1; have hw144_0 := hx144_0; cases e144; replace hx144_0 := (HB.out.cell (World.block_lt_of_cell? w _ hx144_0)).trans hx144_0; replace hx144_1 := (HB.out.cell (World.block_lt_of_cell? w _ hx144_1)).trans hx144_1; replace hx144_2 := (HB.out.cell (World.block_lt_of_cell? w _ hx144_2)).trans hx144_2; replace hx144_3 := (HB.out.cell (World.block_lt_of_cell? w _ hx144_3)).trans hx144_3; have HR144_2 := Aside0.mk hi144_2; have HC144_2 := Aside0.mk hl144_2; clear hi144_2 hl144_2; replace p144 := eq_true p144; replace q144 := eq_true q144; have p145 : 0 ≤ (x5_1 : Int) := of_decide_eq_true (by first | (with_reducible assumption) | assumption); have q145 : x5_1 < (l1.length : Int) := of_decide_eq_true (by first | (with_reducible assumption) | assumption); obtain ⟨ad145, A145_2, c145_2, e145, hx145_0, hx145_1, hx145_2, hx145_3, hl145_2, hi145_2⟩ := at_T27 HR1.out x5_1 p145 q145; have hw145_3 := hx145_3; have hw145_2 := hx145_2; have hw145_1 := hx145_1; have hw145_0 := hx145_0; cases e145; replace hx145_0 := (HB.out.cell (World.block_lt_of_cell? w _ hx145_0)).trans hx145_0; replace hx145_1 := (HB.out.cell (World.block_lt_of_cell? w _ hx145_1)).trans hx145_1; replace hx145_2 := (HB.out.cell (World.block_lt_of_cell? w _ hx145_2)).trans hx145_2; replace hx145_3 := (HB.out.cell (World.block_lt_of_cell? w _ hx145_3)).trans hx145_3; have HR145_2 := Aside0.mk hi145_2; have HC145_2 := Aside0.mk hl145_2; clear hi145_2 hl145_2; replace p145 := eq_true p145; replace q145 := eq_true q145; refine start_ (n := 10) (S := fun w' => w'.cell? (ad144.add ((x5_1).toNat * 4)) = some (.string ((rd_T27 l0 x5_1).f0)) ∧ w'.cell? ⟨(ad144.add ((x5_1).toNat * 4)).block, (ad144.add ((x5_1).toNat * 4)).off + 1, none⟩ = some (.int .i64 ((rd_T27 l0 x5_1).f1)) ∧ w'.cell? ⟨(ad144.add ((x5_1).toNat * 4)).block, (ad144.add ((x5_1).toNat * 4)).off + 2, none⟩ = some (.slice A144_2 ((rd_T27 l0 x5_1).f2).length c144_2) ∧ w'.cell? ⟨(ad144.add ((x5_1).toNat * 4)).block, (ad144.add ((x5_1).toNat * 4)).off + 3, none⟩ = some (.int .i64 ((rd_T27 l0 x5_1).f3)) ∧ w'.cell? (ad145.add ((x5_1).toNat * 4)) = some (.string ((rd_T27 l1 x5_1).f0)) ∧ w'.cell? ⟨(ad145.add ((x5_1).toNat * 4)).block, (ad145.add ((x5_1).toNat * 4)).off + 1, none⟩ = some (.int .i64 ((rd_T27 l1 x5_1).f1)) ∧ w'.cell? ⟨(ad145.add ((x5_1).toNat * 4)).block, (ad145.add ((x5_1).toNat * 4)).off + 2, none⟩ = some (.slice A145_2 ((rd_T27 l1 x5_1).f2).length c145_2) ∧ w'.cell? ⟨(ad145.add ((x5_1).toNat * 4)).block, (ad145.add ((x5_1).toNat * 4)).off + 3, none⟩ = some (.int .i64 ((rd_T27 l1 x5_1).f3))) (ds := []) #[false, false, false, false, false, false, false, false, false, false] (by kernel_rfl) rfl rfl ⟨((HB.out.cell (World.block_lt_of_cell? w _ hw144_0)).trans hw144_0), ((HB.out.cell (World.block_lt_of_cell? w _ hw144_1)).trans hw144_1), ((HB.out.cell (World.block_lt_of_cell? w _ hw144_2)).trans hw144_2), ((HB.out.cell (World.block_lt_of_cell? w _ hw144_3)).trans hw144_3), ((HB.out.cell (World.block_lt_of_cell? w _ hw145_0)).trans hw145_0), ((HB.out.cell (World.block_lt_of_cell? w _ hw145_1)).trans hw145_1), ((HB.out.cell (World.block_lt_of_cell? w _ hw145_2)).trans hw145_2), ((HB.out.cell (World.block_lt_of_cell? w _ hw145_3)).trans hw145_3)⟩ (fun hHeld => ?_); refine with_tabW spileref09_Same.tab6 spileref09_Same.bits6 (fun HT_ HW_ => ?_)
        generalize wr.drew = w11 at HB HR144_2 HR145_2 hx144_0 hx144_1 hx144_2 hx144_3 hx145_0 hx145_1 hx145_2 hx145_3 hHeld ⊢; refine pure_ (i := 0) (N := some 17) (v := ?_) (a' := ?_) #[true, false, false, false, false, false, false, false, false, false] rfl rfl (any_of HT_.out (by kernel_rfl)) (fun _ _ _ h => h) (Or.inl ⟨by rfl, ?_⟩) ?_ ?_; rotate_left
        · intro w'; go_simp; with_reducible rfl
        rotate_left
        · simp only [Act.put, sIA, sC0, sCS, i64_w, i32_w]; rfl
        refine pure_ (i := 1) (N := some 18) (v := ?_) (a' := ?_) #[true, true, false, false, false, false, false, false, false, false] rfl rfl (any_of HT_.out (by kernel_rfl)) (fun _ _ _ h => h) (Or.inl ⟨by rfl, ?_⟩) ?_ ?_; rotate_left
        · intro w'; go_simp; with_reducible rfl
        rotate_left
        · simp only [Act.put, sIA, sC0, sCS, i64_w, i32_w]; rfl
        refine pure_ (i := 2) (N := some 19) (v := ?_) (a' := ?_) #[true, true, true, false, false, false, false, false, false, false] rfl rfl (any_of HT_.out (by kernel_rfl)) (fun _ _ _ h => h) (Or.inl ⟨by rfl, ?_⟩) ?_ ?_; rotate_left
        · intro w'; go_simp; with_reducible rfl
        rotate_left
        · simp only [Act.put, sIA, sC0, sCS, i64_w, i32_w]; rfl
        refine pure_ (i := 4) (N := some 21) (v := ?_) (a' := ?_) #[true, true, true, false, true, false, false, false, false, false] rfl rfl (any_of HT_.out (by kernel_rfl)) (fun _ _ _ h => h) (Or.inl ⟨by rfl, ?_⟩) ?_ ?_; rotate_left
        · intro w'; go_simp; with_reducible rfl
        rotate_left
        · simp only [Act.put, sIA, sC0, sCS, i64_w, i32_w]; rfl
        refine pure_ (i := 5) (N := some 22) (v := ?_) (a' := ?_) #[true, true, true, false, true, true, false, false, false, false] rfl rfl (any_of HT_.out (by kernel_rfl)) (fun _ _ _ h => h) (Or.inl ⟨by rfl, ?_⟩) ?_ ?_; rotate_left
        · intro w'; go_simp; with_reducible rfl
        rotate_left
        · simp only [Act.put, sIA, sC0, sCS, i64_w, i32_w]; rfl
        refine pure_ (i := 6) (N := some 23) (v := ?_) (a' := ?_) #[true, true, true, false, true, true, true, false, false, false] rfl rfl (any_of HT_.out (by kernel_rfl)) (fun _ _ _ h => h) (Or.inl ⟨by rfl, ?_⟩) ?_ ?_; rotate_left
        · intro w'; go_simp; with_reducible rfl
        rotate_left
        · simp only [Act.put, sIA, sC0, sCS, i64_w, i32_w]; rfl
        refine take_ (i := 3) (N := some 20) (v := ?_) (a' := ?_) #[true, true, true, true, true, true, true, false, false, false] rfl rfl (take_ofW HT_.out HW_.out (by kernel_rfl)) (fun _ _ _ h => h) (Or.inl ⟨by rfl, ?_⟩) hHeld ?_ ?_; rotate_left
        · rintro w' ⟨s0, s1, s2, s3, s4, s5, s6, s7⟩; go_simp; with_reducible rfl
        rotate_left
        · simp only [Act.put, sIA, sC0, sCS, i64_w, i32_w]; rfl
        refine take_ (i := 7) (N := some 24) (v := ?_) (a' := ?_) #[true, true, true, true, true, true, true, true, false, false] rfl rfl (take_ofW HT_.out HW_.out (by kernel_rfl)) (fun _ _ _ h => h) (Or.inl ⟨by rfl, ?_⟩) hHeld ?_ ?_; rotate_left
        · rintro w' ⟨s0, s1, s2, s3, s4, s5, s6, s7⟩; go_simp; with_reducible rfl
        rotate_left
        · simp only [Act.put, sIA, sC0, sCS, i64_w, i32_w]; rfl
        refine one_ (i := 8) (N := some 25) #[true, true, true, true, true, true, true, true, true, false] rfl rfl (one_of HT_.out (by kernel_rfl)) (by decide) (fun K hK => ?_); refine goes_ Tryd.func15 (by kernel_rfl) rfl #[.agg #[.string ((rd_T27 l0 x5_1).f0), .int .i64 ((rd_T27 l0 x5_1).f1), .slice A144_2 ((rd_T27 l0 x5_1).f2).length c144_2, .int .i64 ((rd_T27 l0 x5_1).f3)], .agg #[.string ((rd_T27 l1 x5_1).f0), .int .i64 ((rd_T27 l1 x5_1).f1), .slice A145_2 ((rd_T27 l1 x5_1).f2).length c145_2, .int .i64 ((rd_T27 l1 x5_1).f3)]] (by rfl) rfl rfl (by (try simp only [List.map_toArray, List.map_cons, List.map_nil]); first | done | rfl | (simp only [List.length_drop, List.length_take]; rfl)) ?_; with_reducible refine (spileref09_SameCask.calls k1 ((rd_T27 l0 x5_1).f0) ((rd_T27 l0 x5_1).f1) _ _ ((rd_T27 l0 x5_1).f2) ((rd_T27 l0 x5_1).f3) ((rd_T27 l1 x5_1).f0) ((rd_T27 l1 x5_1).f1) _ _ ((rd_T27 l1 x5_1).f2) ((rd_T27 l1 x5_1).f3) false _ ?side1 ?side2 ?side3 ?side4 A7.out).mono ?_
        (case side1 => repeat (first | exact (Kd.C_below HR144_2.out HB.out) | (with_reducible refine Kd.C_alloc ?_ _) | (with_reducible refine Kd.C_drewN ?_ _) | (with_reducible refine Kd.C_drew ?_)))
        (case side2 => exact HC144_2.out)
        (case side3 => repeat (first | exact (Kd.C_below HR145_2.out HB.out) | (with_reducible refine Kd.C_alloc ?_ _) | (with_reducible refine Kd.C_drewN ?_ _) | (with_reducible refine Kd.C_drew ?_)))
        (case side4 => exact HC145_2.out)
        rintro e w12 ⟨rfl, hb⟩; refine ⟨_, rfl, ?_⟩; have n0_ := Aside0.mk (below_step (by repeat (first | (with_reducible first | exact HB.out | apply below_alloc | apply pw_below_drewN | apply below_drew1) | exact HB.out)) hb); clear HB; have HB := n0_; clear n0_; (try clear hb)
        (try clear hb2)
        (try clear hk)
        (try clear hi)
        refine hK.out _ _ ⟨((HB.out.cell (World.block_lt_of_cell? w _ hw144_0)).trans hw144_0), ((HB.out.cell (World.block_lt_of_cell? w _ hw144_1)).trans hw144_1), ((HB.out.cell (World.block_lt_of_cell? w _ hw144_2)).trans hw144_2), ((HB.out.cell (World.block_lt_of_cell? w _ hw144_3)).trans hw144_3), ((HB.out.cell (World.block_lt_of_cell? w _ hw145_0)).trans hw145_0), ((HB.out.cell (World.block_lt_of_cell? w _ hw145_1)).trans hw145_1), ((HB.out.cell (World.block_lt_of_cell? w _ hw145_2)).trans hw145_2), ((HB.out.cell (World.block_lt_of_cell? w _ hw145_3)).trans hw145_3)⟩ (fun hHeld => ?_); clear hK K; refine norm_ (a' := ?_) ?_ ?_; rotate_left
        ·
         show Act.put _ (some 25) _ = _
         simp only [Act.put, sIA, sC0, sCS, i64_w, i32_w]; rfl
        refine pure_ (i := 9) (N := some 26) (v := ?_) (a' := ?_) #[true, true, true, true, true, true, true, true, true, true] rfl rfl (any_of HT_.out (by kernel_rfl)) (fun _ _ _ h => h) (Or.inl ⟨by rfl, ?_⟩) ?_ ?_; rotate_left
        · intro w'; go_simp; with_reducible rfl
        rotate_left
        · simp only [Act.put, sIA, sC0, sCS, i64_w, i32_w]; rfl
        refine done_ (done_of HT_.out (by kernel_rfl)) ?_; try go_wp2
        go_ret
        exact ⟨by first | rfl | (simp [errW_none, errW_some] <;> rfl) | (simp [*, errW_none, errW_some] <;> rfl), by repeat (first | (with_reducible first | exact HB.out | apply below_alloc | apply pw_below_drewN | apply below_drew1) | exact HB.out)⟩
      · rw [if_neg c6] at H; exact absurd H (by simp)
     · rw [if_neg c5] at H; exact absurd H (by simp)
    ·
     rw [if_neg c4] at H; have c4b0 : decide (x5_1 < (l0.length : Int)) = false := decide_eq_false c4; clear c4; obtain rfl := Option.some.inj H; go_wp2; go_ret
     exact ⟨by first | rfl | (simp [errW_none, errW_some] <;> rfl) | (simp [*, errW_none, errW_some] <;> rfl), by repeat (first | (with_reducible first | exact HB.out | apply below_alloc | apply pw_below_drewN | apply below_drew1) | exact HB.out)⟩
 ·
  rw [if_neg c3] at H; have c3b0 : ((l0.length : Int) == (l1.length : Int)) = false := beq_eq_false_iff_ne.mpr c3; have c3b1 : ((l0.length : Int) != (l1.length : Int)) = true := bne_iff_ne.mpr c3; have c3b2 : (l0.length == l1.length) = false := by first | simpa using c3 | (simp at c3 ⊢; omega)
  obtain rfl := Option.some.inj H; go_enter Tryd.func26, Tryd.ntmps26
  go_wp2; go_ret
  exact ⟨by first | rfl | (simp [errW_none, errW_some] <;> rfl) | (simp [*, errW_none, errW_some] <;> rfl), by repeat (first | (with_reducible first | exact HB.out | apply below_alloc | apply pw_below_drewN | apply below_drew1) | exact HB.out)⟩
def spilelaw09_Barrel.f  : Option (ByteArray × Int × (List (S46)) × Int) := some ((⟨#[65, 45, 49]⟩ : ByteArray), 1, (([(⟨0, 300⟩ : S46), (⟨500, 400⟩ : S46), (⟨1000, 300⟩ : S46)] : List (S46))), 500)
set_option maxHeartbeats 8000000 in
set_option maxRecDepth 100000 in
theorem spilelaw09_Barrel.calls  (r1 : ByteArray) (r2 : Int) (r3 : List (S46)) (r4 : Int) (w : World) (h : spilelaw09_Barrel.f  = some (r1, r2, r3, r4)) :
  Calls Tryd.prog 31 #[] w fun e w' => ∃ v2_ : Value, e = .returned (.agg #[.string r1, .int .i64 r2, v2_, .int .i64 r4]) ∧ Kd.R k46 46 w' w.heap.size (fun _ => True) v2_ r3 ∧ Below w.heap.size w w' := by
 have hu27 := Tryd.underlying27; have hu46 := Tryd.underlying46; have HB := Aside0.mk (Below.refl w.heap.size w); have H : (some ((⟨#[65, 45, 49]⟩ : ByteArray), 1, (([(⟨0, 300⟩ : S46), (⟨500, 400⟩ : S46), (⟨1000, 300⟩ : S46)] : List (S46))), 500)) = some (r1, r2, r3, r4) := h; clear h; obtain ⟨y148, hy148⟩ : ∃ y_ : List (S46), y_ = (([(⟨0, 300⟩ : S46), (⟨500, 400⟩ : S46), (⟨1000, 300⟩ : S46)] : List (S46))) := ⟨_, rfl⟩; replace H : (some ((⟨#[65, 45, 49]⟩ : ByteArray), 1, y148, 500)) = some (r1, r2, r3, r4) := by first | (rw [hy148]; with_reducible exact H) | (have H2_ := (Option.bind_some _ _).symm.trans H; rw [hy148]; with_reducible exact H2_) | (have H2_ := (Option.bind_some _ _).symm.trans H; with_reducible exact H2_) | with_reducible exact H | (rw [hy148]; exact H) | exact H
 have Ny148 := Aside0.mk hy148; clear hy148; simp only [Option.some.injEq, Prod.mk.injEq] at H; obtain ⟨rfl, rfl, rfl, rfl⟩ := H; go_enter Tryd.func31, Tryd.ntmps31
 go_wp2_with (first | ((with_reducible refine gate_dst (N := 0) rfl ?_); refine box_event ?hg (N := 0) ?hd (cs := #[.string (⟨#[]⟩ : ByteArray), .int .i64 0, .slice none 0 0, .int .i64 0]) (t := 27) ?hr ?_; (case hd => rfl); (case hg => rfl); (case hr => first | (go_simp; done) | (go_simp; rfl)); intro gb147 hg w1 hbox hb; have n0_ := Aside0.mk (below_step (by repeat (first | (with_reducible first | exact HB.out | apply below_alloc | apply pw_below_drewN | apply below_drew1) | exact HB.out)) hb); have n1_ := Aside0.mk (hbox); have n2_ := Aside0.mk ((by rw [hg]; exact (below_size (by repeat (first | (with_reducible first | exact HB.out | apply below_alloc | apply pw_below_drewN | apply below_drew1) | exact HB.out))) : w.heap.size ≤ gb147)); have n3_ := Aside0.mk ((by rw [hg]; exact (below_size (by repeat (first | (with_reducible first | exact HB.out | apply below_alloc | apply pw_below_drewN | apply below_drew1) | exact HB.out))) : w.heap.size ≤ gb147)); clear HB; have HB := n0_; have BK147 := n1_; have GW147 := n2_; have GE147 := n3_; clear n0_ n1_ n2_ n3_; clear hb hbox hg) | ((with_reducible refine gate_dst (N := 4) rfl ?_); refine Kd.R_lit k46 _ 46 ?hg (N := 4) ?hd (xs := ([(⟨0, 300⟩ : S46), (⟨500, 400⟩ : S46), (⟨1000, 300⟩ : S46)] : List (S46))) (inner := [.int .i64 0, .int .i64 300, .int .i64 500, .int .i64 400, .int .i64 1000, .int .i64 300]) (ok := fun _ => True) (okp := fun _ => True) ?hr ?hp (fun _ hk => hk) trivial (Below.refl _ _) (Nat.le_refl _) (by simp) ?_; (case hd => rfl); (case hg => rfl); (case hr => first | (go_simp; done) | (go_simp; rfl)); (case hp => exact (Reps.c2 (show Kd.M k46 _ _ _ (⟨0, 300⟩ : S46) [.int .i64 0, .int .i64 300] from (k46_mkM _ _ _ (⟨0, 300⟩ : S46) )) (Reps.c2 (show Kd.M k46 _ _ _ (⟨500, 400⟩ : S46) [.int .i64 500, .int .i64 400] from (k46_mkM _ _ _ (⟨500, 400⟩ : S46) )) (Reps.c2 (show Kd.M k46 _ _ _ (⟨1000, 300⟩ : S46) [.int .i64 1000, .int .i64 300] from (k46_mkM _ _ _ (⟨1000, 300⟩ : S46) )) (Reps.none _ _))))); intro v149 w2 ho3 hb hg_ hnew_; clear hg_ hnew_; (first | rw [← Ny148.out] at ho3 | (simp only [Int.reduceToNat] at ho3; rw [← Ny148.out] at ho3)); have n0_ := Aside0.mk (Kd.R_lower ho3 (below_size (by repeat (first | (with_reducible first | exact HB.out | apply below_alloc | apply pw_below_drewN | apply below_drew1 | refine below_set ?_ GE147.out) | exact HB.out)))); have n1_ := Aside0.mk (blk_below (g := gb147) (o := .cells #[.string (⟨#[]⟩ : ByteArray), .int .i64 0, .slice none 0 0, .int .i64 0] 27 (0, 0)) (by (with_reducible repeat (first | refine blk_drewN ?_ _ | refine blk_drew ?_ | refine blk_alloc ?_ _)); exact BK147.out) hb); have n2_ := Aside0.mk (below_step (by repeat (first | (with_reducible first | exact HB.out | apply below_alloc | apply pw_below_drewN | apply below_drew1 | refine below_set ?_ GE147.out) | exact HB.out)) hb); clear BK147; clear HB; have HO150 := n0_; have BK147 := n1_; have HB := n2_; clear n0_ n1_ n2_; clear hb ho3; obtain ⟨Ao4, co4, eo4⟩ := Kd.R_slice HO150.out; subst eo4; have hcz5_0 : w2.cell? ⟨gb147, 0, none⟩ = some (.string (⟨#[]⟩ : ByteArray)) := (blk_cell BK147.out 0).trans rfl; have hcz5_1 : w2.cell? ⟨gb147, 1, none⟩ = some (.int .i64 0) := (blk_cell BK147.out 1).trans rfl; have hcz5_2 : w2.cell? ⟨gb147, 2, none⟩ = some (.slice none 0 0) := (blk_cell BK147.out 2).trans rfl; have hcz5_3 : w2.cell? ⟨gb147, 3, none⟩ = some (.int .i64 0) := (blk_cell BK147.out 3).trans rfl; have hfz5_0 := blk_frozen BK147.out 0; have hfz5_1 := blk_frozen BK147.out 1; have hfz5_2 := blk_frozen BK147.out 2; have hfz5_3 := blk_frozen BK147.out 3))
 refine bodyPost_ret (results_cell_row rfl _ _ gb147 27 #[.string (⟨#[65, 45, 49]⟩ : ByteArray), .int .i64 1, .slice Ao4 y148.length co4, .int .i64 500] (0, 0) _ rfl (by (with_reducible repeat (first | refine blk_drewN ?_ _ | refine blk_drew ?_ | refine blk_alloc ?_ _)); refine blk_put (cs := #[.string (⟨#[65, 45, 49]⟩ : ByteArray), .int .i64 1, .slice Ao4 y148.length co4, .int .i64 0]) ?_ 3 _ rfl; (with_reducible repeat (first | refine blk_drewN ?_ _ | refine blk_drew ?_ | refine blk_alloc ?_ _)); refine blk_put (cs := #[.string (⟨#[65, 45, 49]⟩ : ByteArray), .int .i64 1, .slice none 0 0, .int .i64 0]) ?_ 2 _ rfl; (with_reducible repeat (first | refine blk_drewN ?_ _ | refine blk_drew ?_ | refine blk_alloc ?_ _)); refine blk_put (cs := #[.string (⟨#[65, 45, 49]⟩ : ByteArray), .int .i64 0, .slice none 0 0, .int .i64 0]) ?_ 1 _ rfl; (with_reducible repeat (first | refine blk_drewN ?_ _ | refine blk_drew ?_ | refine blk_alloc ?_ _)); refine blk_put (cs := #[.string (⟨#[]⟩ : ByteArray), .int .i64 0, .slice none 0 0, .int .i64 0]) ?_ 0 _ rfl; (with_reducible repeat (first | refine blk_drewN ?_ _ | refine blk_drew ?_ | refine blk_alloc ?_ _)); exact BK147.out) Tryd.underlying27 rfl (by kernel_rfl)) rfl ?_; exact ⟨_, by first | rfl | (simp [errW_none, errW_some] <;> rfl) | (simp [*, errW_none, errW_some] <;> rfl), by (with_reducible repeat (first | apply Kd.R_alloc | apply Kd.R_drewN | apply Kd.R_drew)); exact Kd.R_mono (Kd.R_far (p := ⟨gb147, 3, none⟩) (Kd.R_far (p := ⟨gb147, 2, none⟩) (Kd.R_far (p := ⟨gb147, 1, none⟩) (Kd.R_far (p := ⟨gb147, 0, none⟩) (Kd.R_types HO150.out BK147.out (by decide)) (fun _ hk => hk.2) (.string (⟨#[65, 45, 49]⟩ : ByteArray))) (fun _ hk => hk.2) (.int .i64 1)) (fun _ hk => hk.2) (.slice Ao4 y148.length co4)) (fun _ hk => hk.2) (.int .i64 500)) (fun _ hk => trivial), by repeat (first | (with_reducible first | exact HB.out | apply below_alloc | apply pw_below_drewN | apply below_drew1 | refine below_set ?_ GE147.out) | exact HB.out)⟩
end Go.Proofs.YtnhmlneebnkjcaaDoor.Pr
namespace Go.Proofs.YtnhmlneebnkjcaaDoor.Pr
open Go.RowKit Go.Proofs.YtnhmlneebnkjcaaDoorW.PrintWords Go.Proofs.YtnhmlneebnkjcaaDoorW.PrintLast Go.Proofs.YtnhmlneebnkjcaaDoorW.PrintMore Go.Proofs.YtnhmlneebnkjcaaDoor.X
attribute [local go_sem] max2_int min2_int max_two min_two max_three min_three max_four min_four   -- for this text's walks alone
set_option linter.unusedVariables false
set_option linter.unusedSimpArgs false
def spilelaw09_awake.f  : Option (Bool) := some true
def spilelaw09_awake.T5 : Bool × List (List Nat × List Nat) := (true, [([], []), ([0], [0]), ([1], [1]), ([2], [2]), ([3, 2], [2, 3]), ([2, 4], [2, 4]), ([5, 2], [5]), ([6], [6]), ([7, 6], [6, 7]), ([6, 8], [6, 8]), ([9, 6], [9]), ([10], [10]), ([11, 10], [10, 11]), ([10, 12], [10, 12]), ([13, 10], [13]), ([14], [14]), ([15, 14], [14, 15]), ([14, 16], [14, 16]), ([17, 14], [17]), ([18], [18]), ([19, 18], [18, 19]), ([18, 20], [18, 20]), ([21, 18], [21]), ([22], [22]), ([23, 22], [22, 23]), ([22, 24], [22, 24]), ([25, 22], [25]), ([26], [26]), ([26, 26], [26]), ([28, 26], [26, 28]), ([27, 29, 28, 26], [26, 27, 29]), ([26, 30], [26, 30]), ([31, 30], [31]), ([32], [32]), ([32, 32], [32]), ([33, 34, 34, 32], [32, 33, 34]), ([32, 35], [32, 35]), ([36, 35], [36]), ([37, 37], [37]), ([38, 38, 37], [37, 38]), ([39, 37], [37, 39]), ([37, 40], [37, 40]), ([41, 39], [41]), ([42], [42]), ([43, 42, 42], [42, 43]), ([44, 42], [42, 44]), ([42, 45], [42, 45]), ([46, 44, 0, 1, 2, 3, 4, 5, 6, 7, 8, 9, 10, 11, 12, 13, 14, 15, 16, 17, 18, 19, 20, 21, 22, 23, 24, 25, 26, 27, 28, 29, 30, 31, 32, 33, 34, 35, 36, 37, 38, 39, 40, 41, 42, 43, 44, 45, 46], [46])])
def spilelaw09_awake.B5 : List Nat := [0, 1, 3, 7, 15, 31, 63, 127, 255, 511, 1023, 2047, 4095, 8191, 16383, 32767, 65535, 131071, 262143, 524287, 1048575, 2097151, 4194303, 8388607, 16777215, 33554431, 67108863, 134217727, 134217727, 402653183, 1073741823, 2147483647, 4294967295, 8589934591, 8589934591, 34359738367, 68719476735, 137438953471, 274877906943, 549755813887, 1099511627775, 2199023255551, 4398046511103, 8796093022207, 17592186044415, 35184372088831, 70368744177663, 140737488355327]
theorem spilelaw09_awake.tab5 : rtab .any (opsOf Tryd.f10 5) = spilelaw09_awake.T5 := by kernel_rfl
theorem spilelaw09_awake.bits5 : waitsOk spilelaw09_awake.T5.2 spilelaw09_awake.B5 = true := by kernel_rfl
set_option maxHeartbeats 8000000 in
set_option maxRecDepth 100000 in
theorem spilelaw09_awake.calls  (r : Bool) (w : World) (hG : GI w) (h : spilelaw09_awake.f  = some r) :
  Calls Tryd.prog 10 #[] w fun e w' => e = .returned (.bool r) ∧ Below w.heap.size w w' := by
 have hu27 := Tryd.underlying27; have HG := Aside0.mk hG; clear hG; have HB := Aside0.mk (Below.refl w.heap.size w); have H : (some true) = some r := h; clear h; have A1 := Aside0.mk (show (spilelaw09_Barrel.f) = some ((⟨#[65, 45, 49]⟩ : ByteArray), 1, [(⟨0, 300⟩ : S46), (⟨500, 400⟩ : S46), (⟨1000, 300⟩ : S46)], 500) from by kernel_rfl); obtain ⟨y153, hy153⟩ : ∃ y_ : List (S27), y_ = (([(⟨(⟨#[65, 45, 49]⟩ : ByteArray), 1, [(⟨0, 300⟩ : S46), (⟨500, 400⟩ : S46), (⟨1000, 300⟩ : S46)], 500⟩ : S27)] : List (S27))) := ⟨_, rfl⟩; have Ny153 := Aside0.mk hy153; clear hy153; have A2 := Aside0.mk (show (cask_Print.f 400 y153) = some ((⟨#[99, 97, 115, 107, 32, 65, 45, 49, 32, 108, 121, 105, 110, 103, 32, 100, 101, 99, 108, 97, 114, 101, 100, 32, 53, 48, 48, 10, 97, 116, 32, 48, 32, 114, 97, 100, 105, 117, 115, 32, 51, 48, 48, 10, 97, 116, 32, 53, 48, 48, 32, 114, 97, 100, 105, 117, 115, 32, 52, 48, 48, 10, 97, 116, 32, 49, 48, 48, 48, 32, 114, 97, 100, 105, 117, 115, 32, 51, 48, 48, 10, 101, 110, 100, 10]⟩ : ByteArray), 0) from by (try rw [Ny153.out]); kernel_rfl); have A3 := Aside0.mk (show (cask_Parse.f 400 (⟨#[99, 97, 115, 107, 32, 65, 45, 49, 32, 108, 121, 105, 110, 103, 32, 100, 101, 99, 108, 97, 114, 101, 100, 32, 53, 48, 48, 10, 97, 116, 32, 48, 32, 114, 97, 100, 105, 117, 115, 32, 51, 48, 48, 10, 97, 116, 32, 53, 48, 48, 32, 114, 97, 100, 105, 117, 115, 32, 52, 48, 48, 10, 97, 116, 32, 49, 48, 48, 48, 32, 114, 97, 100, 105, 117, 115, 32, 51, 48, 48, 10, 101, 110, 100, 10]⟩ : ByteArray)) = some ([(⟨(⟨#[65, 45, 49]⟩ : ByteArray), 1, [(⟨0, 300⟩ : S46), (⟨500, 400⟩ : S46), (⟨1000, 300⟩ : S46)], 500⟩ : S27)], 0, 0) from by kernel_rfl); have A4 := Aside0.mk (show (spilelaw09_Barrel.f) = some ((⟨#[65, 45, 49]⟩ : ByteArray), 1, [(⟨0, 300⟩ : S46), (⟨500, 400⟩ : S46), (⟨1000, 300⟩ : S46)], 500) from by kernel_rfl); have A5 := Aside0.mk (show (cask_Depth.f 400 (⟨#[65, 45, 49]⟩ : ByteArray) 1 [(⟨0, 300⟩ : S46), (⟨500, 400⟩ : S46), (⟨1000, 300⟩ : S46)] 500) = some (800, 0) from by kernel_rfl); have A6 := Aside0.mk (show (spilelaw09_Barrel.f) = some ((⟨#[65, 45, 49]⟩ : ByteArray), 1, [(⟨0, 300⟩ : S46), (⟨500, 400⟩ : S46), (⟨1000, 300⟩ : S46)], 500) from by kernel_rfl); obtain ⟨y162, hy162⟩ : ∃ y_ : List (S27), y_ = (([(⟨(⟨#[65, 45, 49]⟩ : ByteArray), 1, [(⟨0, 300⟩ : S46), (⟨500, 400⟩ : S46), (⟨1000, 300⟩ : S46)], 500⟩ : S27)] : List (S27))) := ⟨_, rfl⟩; have Ny162 := Aside0.mk hy162; clear hy162; have A7 := Aside0.mk (show (cask_Find.f 400 y162 (⟨#[65, 45, 49]⟩ : ByteArray)) = some ((⟨#[65, 45, 49]⟩ : ByteArray), 1, [(⟨0, 300⟩ : S46), (⟨500, 400⟩ : S46), (⟨1000, 300⟩ : S46)], 500, 0) from by (try rw [Ny162.out]); kernel_rfl); have A8 := Aside0.mk (show (spilelaw09_Barrel.f) = some ((⟨#[65, 45, 49]⟩ : ByteArray), 1, [(⟨0, 300⟩ : S46), (⟨500, 400⟩ : S46), (⟨1000, 300⟩ : S46)], 500) from by kernel_rfl); obtain ⟨y170, hy170⟩ : ∃ y_ : List (S27), y_ = (([(⟨(⟨#[65, 45, 49]⟩ : ByteArray), 1, [(⟨0, 300⟩ : S46), (⟨500, 400⟩ : S46), (⟨1000, 300⟩ : S46)], 500⟩ : S27)] : List (S27))) := ⟨_, rfl⟩; have Ny170 := Aside0.mk hy170; clear hy170; have A9 := Aside0.mk (show (spileref09_Same.f 400 [(⟨(⟨#[65, 45, 49]⟩ : ByteArray), 1, [(⟨0, 300⟩ : S46), (⟨500, 400⟩ : S46), (⟨1000, 300⟩ : S46)], 500⟩ : S27)] y170) = some true from by (try rw [Ny170.out]); kernel_rfl); have A10 := Aside0.mk (show (spilelaw09_Barrel.f) = some ((⟨#[65, 45, 49]⟩ : ByteArray), 1, [(⟨0, 300⟩ : S46), (⟨500, 400⟩ : S46), (⟨1000, 300⟩ : S46)], 500) from by kernel_rfl); have A11 := Aside0.mk (show (spileref09_SameCask.f 400 (⟨#[65, 45, 49]⟩ : ByteArray) 1 [(⟨0, 300⟩ : S46), (⟨500, 400⟩ : S46), (⟨1000, 300⟩ : S46)] 500 (⟨#[65, 45, 49]⟩ : ByteArray) 1 [(⟨0, 300⟩ : S46), (⟨500, 400⟩ : S46), (⟨1000, 300⟩ : S46)] 500) = some true from by kernel_rfl); have A12 := Aside0.mk (show (spilelaw09_Barrel.f) = some ((⟨#[65, 45, 49]⟩ : ByteArray), 1, [(⟨0, 300⟩ : S46), (⟨500, 400⟩ : S46), (⟨1000, 300⟩ : S46)], 500) from by kernel_rfl); have A13 := Aside0.mk (show (cask_Check.f 400 (⟨#[65, 45, 49]⟩ : ByteArray) 1 [(⟨0, 300⟩ : S46), (⟨500, 400⟩ : S46), (⟨1000, 300⟩ : S46)] 500) = some 0 from by kernel_rfl); have A14 := Aside0.mk (show (cask_List.f 400 [(⟨(⟨#[65, 45, 49]⟩ : ByteArray), 1, [(⟨0, 300⟩ : S46), (⟨500, 400⟩ : S46), (⟨1000, 300⟩ : S46)], 500⟩ : S27)]) = some 0 from by kernel_rfl); obtain rfl := Option.some.inj H; go_enter Tryd.func10, Tryd.ntmps10
 try simp only [List.append_eq, List.cons_append, List.nil_append]
 try go_wp2_with (first | ((with_reducible refine gate_callee (f := 31) rfl ?_); refine goesL_ (some 11) rfl rfl Tryd.func31 (by kernel_rfl) rfl #[] rfl (by (try simp only [List.map_toArray, List.map_cons, List.map_nil]); first | done | rfl | (simp only [List.length_drop, List.length_take]; rfl)) ?_; (with_reducible refine (spilelaw09_Barrel.calls  (⟨#[65, 45, 49]⟩ : ByteArray) 1 [(⟨0, 300⟩ : S46), (⟨500, 400⟩ : S46), (⟨1000, 300⟩ : S46)] 500 _ A1.out).mono ?_); rintro e w15 ⟨v151, rfl, ho0, hb⟩; refine ⟨_, rfl, ?_⟩; have n0_ := Aside0.mk (Kd.R_lower ho0 (below_size (by repeat (first | (with_reducible first | exact HB.out | apply below_alloc | apply pw_below_drewN | apply below_drew1) | exact HB.out)))); have n1_ := Aside0.mk (below_step (by repeat (first | (with_reducible first | exact HB.out | apply below_alloc | apply pw_below_drewN | apply below_drew1) | exact HB.out)) hb); clear HB; have HO152 := n0_; have HB := n1_; clear n0_ n1_; (try clear hb); (try clear hb2); (try clear hk); (try clear hi); (try clear ho0); obtain ⟨Ao16, co16, eo16⟩ := Kd.R_slice HO152.out; subst eo16) | ((with_reducible refine gate_dst (N := 12) rfl ?_); (try (refine gate_guard (by rfl) ?_; dsimp only)); refine Kd.N_lit k27 _ 27 ?hg (N' := 12) ?hd (xs := ([(⟨(⟨#[65, 45, 49]⟩ : ByteArray), 1, [(⟨0, 300⟩ : S46), (⟨500, 400⟩ : S46), (⟨1000, 300⟩ : S46)], 500⟩ : S27)] : List (S27))) (inner := [.string (⟨#[65, 45, 49]⟩ : ByteArray), .int .i64 1, .slice Ao16 [(⟨0, 300⟩ : S46), (⟨500, 400⟩ : S46), (⟨1000, 300⟩ : S46)].length co16, .int .i64 500]) (ok := (fun _ => True)) (okp := (fun _ => True)) ?hr ?hp (fun _ hk => hk) ((show ∀ k_, w15.heap.size ≤ k_ → (fun _ => True) k_ from fun k_ hk => trivial) _ (Nat.le_refl _)) (Below.refl _ _) (Nat.le_refl _) (by simp) ?_; (case hd => rfl); (case hg => rfl); (case hr => first | (go_simp; done) | (go_simp; rfl)); (case hp => exact (Reps.c4 (show Kd.FK k27 _ _ (⟨(⟨#[65, 45, 49]⟩ : ByteArray), 1, [(⟨0, 300⟩ : S46), (⟨500, 400⟩ : S46), (⟨1000, 300⟩ : S46)], 500⟩ : S27) [.string (⟨#[65, 45, 49]⟩ : ByteArray), .int .i64 1, .slice Ao16 [(⟨0, 300⟩ : S46), (⟨500, 400⟩ : S46), (⟨1000, 300⟩ : S46)].length co16, .int .i64 500] from (k27_mkF _ _ (⟨(⟨#[65, 45, 49]⟩ : ByteArray), 1, [(⟨0, 300⟩ : S46), (⟨500, 400⟩ : S46), (⟨1000, 300⟩ : S46)], 500⟩ : S27) (Kd.R_reads' (Kd.R_mono (ok' := (fun _ => True)) (HO152.out) (fun k_ hk => trivial))).2.1 (Kd.R_F (Kd.R_mono (ok' := (fun _ => True)) (HO152.out) (fun k_ hk => trivial))))) (Reps.none _ _))); intro v154 w17 ho18 hb hg_ hnew_; clear hg_ hnew_; (first | rw [← Ny153.out] at ho18 | (simp only [Int.reduceToNat] at ho18; rw [← Ny153.out] at ho18)); have n0_ := Aside0.mk (Kd.N_lower ho18 (below_size (by repeat (first | (with_reducible first | exact HB.out | apply below_alloc | apply pw_below_drewN | apply below_drew1) | exact HB.out)))); have n1_ := Aside0.mk (below_step (by repeat (first | (with_reducible first | exact HB.out | apply below_alloc | apply pw_below_drewN | apply below_drew1) | exact HB.out)) hb); clear HB; clear HO152; have HO155 := n0_; have HB := n1_; clear n0_ n1_; clear hb ho18; obtain ⟨Ao19, co19, eo19⟩ := Kd.N_slice HO155.out; subst eo19) | ((with_reducible refine gate_callee (f := 22) rfl ?_); refine goesL_ (some 13) rfl rfl Tryd.func22 (by kernel_rfl) rfl #[.slice Ao19 y153.length co19] rfl (by (try simp only [List.map_toArray, List.map_cons, List.map_nil]); first | done | rfl | (simp only [List.length_drop, List.length_take]; rfl)) ?_; (with_reducible refine (cask_Print.calls 400 _ _ y153 (⟨#[99, 97, 115, 107, 32, 65, 45, 49, 32, 108, 121, 105, 110, 103, 32, 100, 101, 99, 108, 97, 114, 101, 100, 32, 53, 48, 48, 10, 97, 116, 32, 48, 32, 114, 97, 100, 105, 117, 115, 32, 51, 48, 48, 10, 97, 116, 32, 53, 48, 48, 32, 114, 97, 100, 105, 117, 115, 32, 52, 48, 48, 10, 97, 116, 32, 49, 48, 48, 48, 32, 114, 97, 100, 105, 117, 115, 32, 51, 48, 48, 10, 101, 110, 100, 10]⟩ : ByteArray) 0 _ ?side1 ?side2 ?side3 A2.out).mono ?_); (case side1 => repeat (first | exact (Kd.N_reads' HO155.out).2.2 | (with_reducible refine Kd.C_alloc ?_ _) | (with_reducible refine Kd.C_drewN ?_ _) | (with_reducible refine Kd.C_drew ?_))); (case side2 => exact (Kd.N_reads' HO155.out).2.1); (case side3 => exact GI.below HG.out (by repeat (first | (with_reducible first | exact HB.out | apply below_alloc | apply pw_below_drewN | apply below_drew1) | exact HB.out))); rintro e w20 ⟨rfl, hb⟩; refine ⟨_, rfl, ?_⟩; have n0_ := Aside0.mk (Kd.N_below (by (with_reducible repeat (first | apply Kd.N_alloc | apply Kd.N_drewN | apply Kd.N_drew)); exact HO155.out) hb); have n1_ := Aside0.mk (below_step (by repeat (first | (with_reducible first | exact HB.out | apply below_alloc | apply pw_below_drewN | apply below_drew1) | exact HB.out)) hb); clear HO155; clear HB; have HO155 := n0_; have HB := n1_; clear n0_ n1_; (try clear hb); (try clear hb2); (try clear hk); (try clear hi)) | ((with_reducible refine gate_callee (f := 24) rfl ?_); refine goesL_ (some 18) rfl rfl Tryd.func24 (by kernel_rfl) rfl #[.string (⟨#[99, 97, 115, 107, 32, 65, 45, 49, 32, 108, 121, 105, 110, 103, 32, 100, 101, 99, 108, 97, 114, 101, 100, 32, 53, 48, 48, 10, 97, 116, 32, 48, 32, 114, 97, 100, 105, 117, 115, 32, 51, 48, 48, 10, 97, 116, 32, 53, 48, 48, 32, 114, 97, 100, 105, 117, 115, 32, 52, 48, 48, 10, 97, 116, 32, 49, 48, 48, 48, 32, 114, 97, 100, 105, 117, 115, 32, 51, 48, 48, 10, 101, 110, 100, 10]⟩ : ByteArray)] rfl (by (try simp only [List.map_toArray, List.map_cons, List.map_nil]); first | done | rfl | (simp only [List.length_drop, List.length_take]; rfl)) ?_; (with_reducible refine (cask_Parse.calls 400 (⟨#[99, 97, 115, 107, 32, 65, 45, 49, 32, 108, 121, 105, 110, 103, 32, 100, 101, 99, 108, 97, 114, 101, 100, 32, 53, 48, 48, 10, 97, 116, 32, 48, 32, 114, 97, 100, 105, 117, 115, 32, 51, 48, 48, 10, 97, 116, 32, 53, 48, 48, 32, 114, 97, 100, 105, 117, 115, 32, 52, 48, 48, 10, 97, 116, 32, 49, 48, 48, 48, 32, 114, 97, 100, 105, 117, 115, 32, 51, 48, 48, 10, 101, 110, 100, 10]⟩ : ByteArray) [(⟨(⟨#[65, 45, 49]⟩ : ByteArray), 1, [(⟨0, 300⟩ : S46), (⟨500, 400⟩ : S46), (⟨1000, 300⟩ : S46)], 500⟩ : S27)] 0 0 _ ?side1 A3.out).mono ?_); (case side1 => exact GI.below HG.out (by repeat (first | (with_reducible first | exact HB.out | apply below_alloc | apply pw_below_drewN | apply below_drew1) | exact HB.out))); rintro e w21 ⟨v156, rfl, ho0, hb⟩; refine ⟨_, rfl, ?_⟩; have n0_ := Aside0.mk (Kd.N_elder' (by (with_reducible repeat (first | apply Kd.N_alloc | apply Kd.N_drewN | apply Kd.N_drew)); exact HO155.out) (Kd.S_base ho0) hb); have n1_ := Aside0.mk (Kd.N_lower (Kd.N_mono (ok' := fun k_ => some k_ ≠ (.slice Ao19 y153.length co19 : Value).ownBlock) (Kd.S_N (Kd.S_bound ho0)) (fun k_ hk_ => (Kd.fresh' (Kd.N_lt (by (with_reducible repeat (first | apply Kd.N_alloc | apply Kd.N_drewN | apply Kd.N_drew)); exact HO155.out)) k_ hk_.2.1))) (below_size (by repeat (first | (with_reducible first | exact HB.out | apply below_alloc | apply pw_below_drewN | apply below_drew1) | exact HB.out)))); have n2_ := Aside0.mk (below_step (by repeat (first | (with_reducible first | exact HB.out | apply below_alloc | apply pw_below_drewN | apply below_drew1) | exact HB.out)) hb); clear HO155; clear HB; have HO155 := n0_; have HO157 := n1_; have HB := n2_; clear n0_ n1_ n2_; (try clear hb); (try clear hb2); (try clear hk); (try clear hi); (try clear ho0)) | ((with_reducible refine gate_callee (f := 31) rfl ?_); refine goesL_ (some 23) rfl rfl Tryd.func31 (by kernel_rfl) rfl #[] rfl (by (try simp only [List.map_toArray, List.map_cons, List.map_nil]); first | done | rfl | (simp only [List.length_drop, List.length_take]; rfl)) ?_; (with_reducible refine (spilelaw09_Barrel.calls  (⟨#[65, 45, 49]⟩ : ByteArray) 1 [(⟨0, 300⟩ : S46), (⟨500, 400⟩ : S46), (⟨1000, 300⟩ : S46)] 500 _ A4.out).mono ?_); rintro e w22 ⟨v158, rfl, ho0, hb⟩; refine ⟨_, rfl, ?_⟩; have n0_ := Aside0.mk (Kd.N_elder' (by (with_reducible repeat (first | apply Kd.N_alloc | apply Kd.N_drewN | apply Kd.N_drew)); exact HO155.out) (Kd.R_base ho0) hb); have n1_ := Aside0.mk (Kd.N_elder' (by (with_reducible repeat (first | apply Kd.N_alloc | apply Kd.N_drewN | apply Kd.N_drew)); exact HO157.out) (Kd.R_base ho0) hb); have n2_ := Aside0.mk (Kd.R_lower ho0 (below_size (by repeat (first | (with_reducible first | exact HB.out | apply below_alloc | apply pw_below_drewN | apply below_drew1) | exact HB.out)))); have n3_ := Aside0.mk (below_step (by repeat (first | (with_reducible first | exact HB.out | apply below_alloc | apply pw_below_drewN | apply below_drew1) | exact HB.out)) hb); clear HO155; clear HO157; clear HB; have HO155 := n0_; have HO157 := n1_; have HO159 := n2_; have HB := n3_; clear n0_ n1_ n2_ n3_; (try clear hb); (try clear hb2); (try clear hk); (try clear hi); (try clear ho0); obtain ⟨Ao23, co23, eo23⟩ := Kd.R_slice HO159.out; subst eo23) | ((with_reducible refine gate_callee (f := 18) rfl ?_); refine goesL_ (some 24) rfl rfl Tryd.func18 (by kernel_rfl) rfl #[.agg #[.string (⟨#[65, 45, 49]⟩ : ByteArray), .int .i64 1, .slice Ao23 [(⟨0, 300⟩ : S46), (⟨500, 400⟩ : S46), (⟨1000, 300⟩ : S46)].length co23, .int .i64 500]] rfl (by (try simp only [List.map_toArray, List.map_cons, List.map_nil]); first | done | rfl | (simp only [List.length_drop, List.length_take]; rfl)) ?_; (with_reducible refine (cask_Depth.calls 400 (⟨#[65, 45, 49]⟩ : ByteArray) 1 _ _ [(⟨0, 300⟩ : S46), (⟨500, 400⟩ : S46), (⟨1000, 300⟩ : S46)] 500 800 0 _ ?side1 ?side2 A5.out).mono ?_); (case side1 => repeat (first | exact (Kd.R_reads' HO159.out).2.2 | (with_reducible refine Kd.C_alloc ?_ _) | (with_reducible refine Kd.C_drewN ?_ _) | (with_reducible refine Kd.C_drew ?_))); (case side2 => exact (Kd.R_reads' HO159.out).2.1); rintro e w24 ⟨rfl, hb⟩; refine ⟨_, rfl, ?_⟩; have n0_ := Aside0.mk (Kd.N_below (by (with_reducible repeat (first | apply Kd.N_alloc | apply Kd.N_drewN | apply Kd.N_drew)); exact HO155.out) hb); have n1_ := Aside0.mk (Kd.N_below (by (with_reducible repeat (first | apply Kd.N_alloc | apply Kd.N_drewN | apply Kd.N_drew)); exact HO157.out) hb); have n2_ := Aside0.mk (Kd.R_below (by (with_reducible repeat (first | apply Kd.R_alloc | apply Kd.R_drewN | apply Kd.R_drew)); exact HO159.out) hb); have n3_ := Aside0.mk (below_step (by repeat (first | (with_reducible first | exact HB.out | apply below_alloc | apply pw_below_drewN | apply below_drew1) | exact HB.out)) hb); clear HO155; clear HO157; clear HO159; clear HB; have HO155 := n0_; have HO157 := n1_; have HO159 := n2_; have HB := n3_; clear n0_ n1_ n2_ n3_; (try clear hb); (try clear hb2); (try clear hk); (try clear hi)) | ((with_reducible refine gate_callee (f := 31) rfl ?_); refine goesL_ (some 28) rfl rfl Tryd.func31 (by kernel_rfl) rfl #[] rfl (by (try simp only [List.map_toArray, List.map_cons, List.map_nil]); first | done | rfl | (simp only [List.length_drop, List.length_take]; rfl)) ?_; (with_reducible refine (spilelaw09_Barrel.calls  (⟨#[65, 45, 49]⟩ : ByteArray) 1 [(⟨0, 300⟩ : S46), (⟨500, 400⟩ : S46), (⟨1000, 300⟩ : S46)] 500 _ A6.out).mono ?_); rintro e w25 ⟨v160, rfl, ho0, hb⟩; refine ⟨_, rfl, ?_⟩; have n0_ := Aside0.mk (Kd.N_elder' (by (with_reducible repeat (first | apply Kd.N_alloc | apply Kd.N_drewN | apply Kd.N_drew)); exact HO155.out) (Kd.R_base ho0) hb); have n1_ := Aside0.mk (Kd.N_elder' (by (with_reducible repeat (first | apply Kd.N_alloc | apply Kd.N_drewN | apply Kd.N_drew)); exact HO157.out) (Kd.R_base ho0) hb); have n2_ := Aside0.mk (Kd.R_elder' (by (with_reducible repeat (first | apply Kd.R_alloc | apply Kd.R_drewN | apply Kd.R_drew)); exact HO159.out) (Kd.R_base ho0) hb); have n3_ := Aside0.mk (Kd.R_lower (Kd.R_new' ho0 (Kd.R_lt (by (with_reducible repeat (first | apply Kd.R_alloc | apply Kd.R_drewN | apply Kd.R_drew)); exact HO159.out))) (below_size (by repeat (first | (with_reducible first | exact HB.out | apply below_alloc | apply pw_below_drewN | apply below_drew1) | exact HB.out)))); have n4_ := Aside0.mk (below_step (by repeat (first | (with_reducible first | exact HB.out | apply below_alloc | apply pw_below_drewN | apply below_drew1) | exact HB.out)) hb); clear HO155; clear HO157; clear HO159; clear HB; have HO155 := n0_; have HO157 := n1_; have HO159 := n2_; have HO161 := n3_; have HB := n4_; clear n0_ n1_ n2_ n3_ n4_; (try clear hb); (try clear hb2); (try clear hk); (try clear hi); (try clear ho0); obtain ⟨Ao26, co26, eo26⟩ := Kd.R_slice HO161.out; subst eo26) | ((with_reducible refine gate_dst (N := 29) rfl ?_); (try (refine gate_guard (by rfl) ?_; dsimp only)); refine Kd.N_lit k27 _ 27 ?hg (N' := 29) ?hd (xs := ([(⟨(⟨#[65, 45, 49]⟩ : ByteArray), 1, [(⟨0, 300⟩ : S46), (⟨500, 400⟩ : S46), (⟨1000, 300⟩ : S46)], 500⟩ : S27)] : List (S27))) (inner := [.string (⟨#[65, 45, 49]⟩ : ByteArray), .int .i64 1, .slice Ao26 [(⟨0, 300⟩ : S46), (⟨500, 400⟩ : S46), (⟨1000, 300⟩ : S46)].length co26, .int .i64 500]) (ok := (fun k_ => some k_ ≠ (.slice Ao19 y153.length co19 : Value).ownBlock ∧ some k_ ≠ (v156 : Value).ownBlock ∧ some k_ ≠ (.slice Ao23 [(⟨0, 300⟩ : S46), (⟨500, 400⟩ : S46), (⟨1000, 300⟩ : S46)].length co23 : Value).ownBlock)) (okp := (fun k_ => some k_ ≠ (.slice Ao19 y153.length co19 : Value).ownBlock ∧ some k_ ≠ (v156 : Value).ownBlock ∧ some k_ ≠ (.slice Ao23 [(⟨0, 300⟩ : S46), (⟨500, 400⟩ : S46), (⟨1000, 300⟩ : S46)].length co23 : Value).ownBlock)) ?hr ?hp (fun _ hk => hk) ((show ∀ k_, w25.heap.size ≤ k_ → (fun k_ => some k_ ≠ (.slice Ao19 y153.length co19 : Value).ownBlock ∧ some k_ ≠ (v156 : Value).ownBlock ∧ some k_ ≠ (.slice Ao23 [(⟨0, 300⟩ : S46), (⟨500, 400⟩ : S46), (⟨1000, 300⟩ : S46)].length co23 : Value).ownBlock) k_ from fun k_ hk => ⟨Kd.fresh' (Kd.N_lt (by (with_reducible repeat (first | apply Kd.N_alloc | apply Kd.N_drewN | apply Kd.N_drew)); exact HO155.out)) k_ hk, Kd.fresh' (Kd.N_lt (by (with_reducible repeat (first | apply Kd.N_alloc | apply Kd.N_drewN | apply Kd.N_drew)); exact HO157.out)) k_ hk, Kd.fresh' (Kd.R_lt (by (with_reducible repeat (first | apply Kd.R_alloc | apply Kd.R_drewN | apply Kd.R_drew)); exact HO159.out)) k_ hk⟩) _ (Nat.le_refl _)) (Below.refl _ _) (Nat.le_refl _) (by simp) ?_; (case hd => rfl); (case hg => rfl); (case hr => first | (go_simp; done) | (go_simp; rfl)); (case hp => exact (Reps.c4 (show Kd.FK k27 _ _ (⟨(⟨#[65, 45, 49]⟩ : ByteArray), 1, [(⟨0, 300⟩ : S46), (⟨500, 400⟩ : S46), (⟨1000, 300⟩ : S46)], 500⟩ : S27) [.string (⟨#[65, 45, 49]⟩ : ByteArray), .int .i64 1, .slice Ao26 [(⟨0, 300⟩ : S46), (⟨500, 400⟩ : S46), (⟨1000, 300⟩ : S46)].length co26, .int .i64 500] from (k27_mkF _ _ (⟨(⟨#[65, 45, 49]⟩ : ByteArray), 1, [(⟨0, 300⟩ : S46), (⟨500, 400⟩ : S46), (⟨1000, 300⟩ : S46)], 500⟩ : S27) (Kd.R_reads' (Kd.R_mono (ok' := (fun k_ => some k_ ≠ (.slice Ao19 y153.length co19 : Value).ownBlock ∧ some k_ ≠ (v156 : Value).ownBlock ∧ some k_ ≠ (.slice Ao23 [(⟨0, 300⟩ : S46), (⟨500, 400⟩ : S46), (⟨1000, 300⟩ : S46)].length co23 : Value).ownBlock)) (Kd.R_apart' (Kd.R_apart' (HO161.out) (Kd.N_typed HO155.out) (by decide)) (Kd.N_typed HO157.out) (by decide)) (fun k_ hk => ⟨hk.1.2, ⟨hk.2, hk.1.1.2⟩⟩))).2.1 (Kd.R_F (Kd.R_mono (ok' := (fun k_ => some k_ ≠ (.slice Ao19 y153.length co19 : Value).ownBlock ∧ some k_ ≠ (v156 : Value).ownBlock ∧ some k_ ≠ (.slice Ao23 [(⟨0, 300⟩ : S46), (⟨500, 400⟩ : S46), (⟨1000, 300⟩ : S46)].length co23 : Value).ownBlock)) (Kd.R_apart' (Kd.R_apart' (HO161.out) (Kd.N_typed HO155.out) (by decide)) (Kd.N_typed HO157.out) (by decide)) (fun k_ hk => ⟨hk.1.2, ⟨hk.2, hk.1.1.2⟩⟩))))) (Reps.none _ _))); intro v163 w27 ho28 hb hg_ hnew_; clear hg_ hnew_; (first | rw [← Ny162.out] at ho28 | (simp only [Int.reduceToNat] at ho28; rw [← Ny162.out] at ho28)); have n0_ := Aside0.mk (Kd.N_elder' (by (with_reducible repeat (first | apply Kd.N_alloc | apply Kd.N_drewN | apply Kd.N_drew)); exact HO155.out) (Kd.N_base ho28) hb); have n1_ := Aside0.mk (Kd.N_elder' (by (with_reducible repeat (first | apply Kd.N_alloc | apply Kd.N_drewN | apply Kd.N_drew)); exact HO157.out) (Kd.N_base ho28) hb); have n2_ := Aside0.mk (Kd.R_below (by (with_reducible repeat (first | apply Kd.R_alloc | apply Kd.R_drewN | apply Kd.R_drew)); exact HO159.out) hb); have n3_ := Aside0.mk (Kd.N_lower ho28 (below_size (by repeat (first | (with_reducible first | exact HB.out | apply below_alloc | apply pw_below_drewN | apply below_drew1) | exact HB.out)))); have n4_ := Aside0.mk (below_step (by repeat (first | (with_reducible first | exact HB.out | apply below_alloc | apply pw_below_drewN | apply below_drew1) | exact HB.out)) hb); clear HO155; clear HO157; clear HO159; clear HB; clear HO161; have HO155 := n0_; have HO157 := n1_; have HO159 := n2_; have HO164 := n3_; have HB := n4_; clear n0_ n1_ n2_ n3_ n4_; clear hb ho28; obtain ⟨Ao29, co29, eo29⟩ := Kd.N_slice HO164.out; subst eo29) | ((with_reducible refine gate_callee (f := 12) rfl ?_); refine goesL_ (some 30) rfl rfl Tryd.func12 (by kernel_rfl) rfl #[.slice Ao29 y162.length co29, .string (⟨#[65, 45, 49]⟩ : ByteArray)] rfl (by (try simp only [List.map_toArray, List.map_cons, List.map_nil]); first | done | rfl | (simp only [List.length_drop, List.length_take]; rfl)) ?_; (with_reducible refine (cask_Find.calls 400 _ _ y162 (⟨#[65, 45, 49]⟩ : ByteArray) (⟨#[65, 45, 49]⟩ : ByteArray) 1 [(⟨0, 300⟩ : S46), (⟨500, 400⟩ : S46), (⟨1000, 300⟩ : S46)] 500 0 _ ?side1 ?side2 A7.out).mono ?_); (case side1 => repeat (first | exact (Kd.N_reads' HO164.out).2.2 | (with_reducible refine Kd.C_alloc ?_ _) | (with_reducible refine Kd.C_drewN ?_ _) | (with_reducible refine Kd.C_drew ?_))); (case side2 => exact (Kd.N_reads' HO164.out).2.1); rintro e w30 ⟨v165, rfl, ho0, hb⟩; refine ⟨_, rfl, ?_⟩; have n0_ := Aside0.mk (Kd.N_elder' (by (with_reducible repeat (first | apply Kd.N_alloc | apply Kd.N_drewN | apply Kd.N_drew)); exact HO155.out) (Kd.R_base ho0) hb); have n1_ := Aside0.mk (Kd.N_elder' (by (with_reducible repeat (first | apply Kd.N_alloc | apply Kd.N_drewN | apply Kd.N_drew)); exact HO157.out) (Kd.R_base ho0) hb); have n2_ := Aside0.mk (Kd.R_elder' (by (with_reducible repeat (first | apply Kd.R_alloc | apply Kd.R_drewN | apply Kd.R_drew)); exact HO159.out) (Kd.R_base ho0) hb); have n3_ := Aside0.mk (Kd.N_elder' (by (with_reducible repeat (first | apply Kd.N_alloc | apply Kd.N_drewN | apply Kd.N_drew)); exact HO164.out) (Kd.R_base ho0) hb); have n4_ := Aside0.mk (Kd.R_lower (Kd.R_new' ho0 (Kd.R_lt (by (with_reducible repeat (first | apply Kd.R_alloc | apply Kd.R_drewN | apply Kd.R_drew)); exact HO159.out))) (below_size (by repeat (first | (with_reducible first | exact HB.out | apply below_alloc | apply pw_below_drewN | apply below_drew1) | exact HB.out)))); have n5_ := Aside0.mk (below_step (by repeat (first | (with_reducible first | exact HB.out | apply below_alloc | apply pw_below_drewN | apply below_drew1) | exact HB.out)) hb); clear HO155; clear HO157; clear HO159; clear HO164; clear HB; have HO155 := n0_; have HO157 := n1_; have HO159 := n2_; have HO164 := n3_; have HO166 := n4_; have HB := n5_; clear n0_ n1_ n2_ n3_ n4_ n5_; (try clear hb); (try clear hb2); (try clear hk); (try clear hi); (try clear ho0)) | ((with_reducible refine gate_dst (N := 8) rfl ?_); (try (refine gate_guard (by rfl) ?_; dsimp only)); refine box_event ?hg (N := 8) ?hd (cs := #[.string (⟨#[]⟩ : ByteArray), .int .i64 0, .slice none 0 0, .int .i64 0]) (t := 27) ?hr ?_; (case hd => rfl); (case hg => rfl); (case hr => first | (go_simp; done) | (go_simp; rfl)); intro gb167 hg w31 hbox hb; have n0_ := Aside0.mk (Kd.N_below (Kd.N_elderB (by (with_reducible repeat (first | apply Kd.N_alloc | apply Kd.N_drewN | apply Kd.N_drew)); exact HO155.out) gb167 (Nat.le_of_eq hg.symm)) hb); have n1_ := Aside0.mk (Kd.N_below (Kd.N_elderB (by (with_reducible repeat (first | apply Kd.N_alloc | apply Kd.N_drewN | apply Kd.N_drew)); exact HO157.out) gb167 (Nat.le_of_eq hg.symm)) hb); have n2_ := Aside0.mk (Kd.R_below (by (with_reducible repeat (first | apply Kd.R_alloc | apply Kd.R_drewN | apply Kd.R_drew)); exact HO159.out) hb); have n3_ := Aside0.mk (Kd.N_below (Kd.N_elderB (by (with_reducible repeat (first | apply Kd.N_alloc | apply Kd.N_drewN | apply Kd.N_drew)); exact HO164.out) gb167 (Nat.le_of_eq hg.symm)) hb); have n4_ := Aside0.mk (Kd.R_below (by (with_reducible repeat (first | apply Kd.R_alloc | apply Kd.R_drewN | apply Kd.R_drew)); exact HO166.out) hb); have n5_ := Aside0.mk (below_step (by repeat (first | (with_reducible first | exact HB.out | apply below_alloc | apply pw_below_drewN | apply below_drew1) | exact HB.out)) hb); have n6_ := Aside0.mk (hbox); have n7_ := Aside0.mk ((by rw [hg]; exact (below_size (by repeat (first | (with_reducible first | exact HB.out | apply below_alloc | apply pw_below_drewN | apply below_drew1) | exact HB.out))) : w.heap.size ≤ gb167)); have n8_ := Aside0.mk ((by rw [hg]; exact (below_size (by repeat (first | (with_reducible first | exact HB.out | apply below_alloc | apply pw_below_drewN | apply below_drew1) | exact HB.out))) : w.heap.size ≤ gb167)); clear HO155; clear HO157; clear HO159; clear HO164; clear HO166; clear HB; have HO155 := n0_; have HO157 := n1_; have HO159 := n2_; have HO164 := n3_; have HO166 := n4_; have HB := n5_; have BK167 := n6_; have GW167 := n7_; have GE167 := n8_; clear n0_ n1_ n2_ n3_ n4_ n5_ n6_ n7_ n8_; clear hb hbox hg; have hcz32_0 : w31.cell? ⟨gb167, 0, none⟩ = some (.string (⟨#[]⟩ : ByteArray)) := (blk_cell BK167.out 0).trans rfl; have hcz32_1 : w31.cell? ⟨gb167, 1, none⟩ = some (.int .i64 0) := (blk_cell BK167.out 1).trans rfl; have hcz32_2 : w31.cell? ⟨gb167, 2, none⟩ = some (.slice none 0 0) := (blk_cell BK167.out 2).trans rfl; have hcz32_3 : w31.cell? ⟨gb167, 3, none⟩ = some (.int .i64 0) := (blk_cell BK167.out 3).trans rfl; have hfz32_0 := blk_frozen BK167.out 0; have hfz32_1 := blk_frozen BK167.out 1; have hfz32_2 := blk_frozen BK167.out 2; have hfz32_3 := blk_frozen BK167.out 3; obtain ⟨Ao33, co33, eo33⟩ := Kd.R_slice HO166.out; subst eo33))
 have n0_ : Aside0 (Kd.N k27 27 ((((w31.setCell ⟨gb167, 0, none⟩ (.string (⟨#[65, 45, 49]⟩ : ByteArray))).setCell ⟨gb167, 1, none⟩ (.int .i64 1)).setCell ⟨gb167, 2, none⟩ (.slice Ao33 [(⟨0, 300⟩ : S46), (⟨500, 400⟩ : S46), (⟨1000, 300⟩ : S46)].length co33)).setCell ⟨gb167, 3, none⟩ (.int .i64 500)) w.heap.size (fun k_ => some k_ ≠ (v156 : Value).ownBlock ∧ some k_ ≠ (.slice Ao23 [(⟨0, 300⟩ : S46), (⟨500, 400⟩ : S46), (⟨1000, 300⟩ : S46)].length co23 : Value).ownBlock ∧ some k_ ≠ (.slice Ao29 y162.length co29 : Value).ownBlock ∧ some k_ ≠ (.slice Ao33 [(⟨0, 300⟩ : S46), (⟨500, 400⟩ : S46), (⟨1000, 300⟩ : S46)].length co33 : Value).ownBlock ∧ k_ ≠ gb167) (.slice Ao19 y153.length co19) y153) := ⟨by (with_reducible repeat (first | apply Kd.N_alloc | apply Kd.N_drewN | apply Kd.N_drew)); exact Kd.N_mono (Kd.N_far (p := ⟨gb167, 3, none⟩) (Kd.N_far (p := ⟨gb167, 2, none⟩) (Kd.N_far (p := ⟨gb167, 1, none⟩) (Kd.N_far (p := ⟨gb167, 0, none⟩) (Kd.N_mono HO155.out (fun k_ hk => (⟨hk, hk.2⟩ : _ ∧ k_ ≠ gb167))) (fun _ hk => hk.2) (.string (⟨#[65, 45, 49]⟩ : ByteArray))) (fun _ hk => hk.2) (.int .i64 1)) (fun _ hk => hk.2) (.slice Ao33 [(⟨0, 300⟩ : S46), (⟨500, 400⟩ : S46), (⟨1000, 300⟩ : S46)].length co33)) (fun _ hk => hk.2) (.int .i64 500)) (fun _ hk => ⟨hk.1.1.1.1.1.1.2, ⟨hk.1.1.1.1.1.2, ⟨hk.1.1.1.2, ⟨hk.1.1.2, hk.1.2⟩⟩⟩⟩)⟩; have n1_ : Aside0 (Kd.N k27 27 ((((w31.setCell ⟨gb167, 0, none⟩ (.string (⟨#[65, 45, 49]⟩ : ByteArray))).setCell ⟨gb167, 1, none⟩ (.int .i64 1)).setCell ⟨gb167, 2, none⟩ (.slice Ao33 [(⟨0, 300⟩ : S46), (⟨500, 400⟩ : S46), (⟨1000, 300⟩ : S46)].length co33)).setCell ⟨gb167, 3, none⟩ (.int .i64 500)) w.heap.size (fun k_ => some k_ ≠ (.slice Ao19 y153.length co19 : Value).ownBlock ∧ some k_ ≠ (.slice Ao23 [(⟨0, 300⟩ : S46), (⟨500, 400⟩ : S46), (⟨1000, 300⟩ : S46)].length co23 : Value).ownBlock ∧ some k_ ≠ (.slice Ao29 y162.length co29 : Value).ownBlock ∧ some k_ ≠ (.slice Ao33 [(⟨0, 300⟩ : S46), (⟨500, 400⟩ : S46), (⟨1000, 300⟩ : S46)].length co33 : Value).ownBlock ∧ k_ ≠ gb167) v156 [(⟨(⟨#[65, 45, 49]⟩ : ByteArray), 1, [(⟨0, 300⟩ : S46), (⟨500, 400⟩ : S46), (⟨1000, 300⟩ : S46)], 500⟩ : S27)]) := ⟨by (with_reducible repeat (first | apply Kd.N_alloc | apply Kd.N_drewN | apply Kd.N_drew)); exact Kd.N_mono (Kd.N_far (p := ⟨gb167, 3, none⟩) (Kd.N_far (p := ⟨gb167, 2, none⟩) (Kd.N_far (p := ⟨gb167, 1, none⟩) (Kd.N_far (p := ⟨gb167, 0, none⟩) (Kd.N_mono HO157.out (fun k_ hk => (⟨hk, hk.2⟩ : _ ∧ k_ ≠ gb167))) (fun _ hk => hk.2) (.string (⟨#[65, 45, 49]⟩ : ByteArray))) (fun _ hk => hk.2) (.int .i64 1)) (fun _ hk => hk.2) (.slice Ao33 [(⟨0, 300⟩ : S46), (⟨500, 400⟩ : S46), (⟨1000, 300⟩ : S46)].length co33)) (fun _ hk => hk.2) (.int .i64 500)) (fun _ hk => ⟨hk.1.1.1.1.1.1, ⟨hk.1.1.1.1.1.2, ⟨hk.1.1.1.2, ⟨hk.1.1.2, hk.1.2⟩⟩⟩⟩)⟩; have n2_ : Aside0 (Kd.R k46 46 ((((w31.setCell ⟨gb167, 0, none⟩ (.string (⟨#[65, 45, 49]⟩ : ByteArray))).setCell ⟨gb167, 1, none⟩ (.int .i64 1)).setCell ⟨gb167, 2, none⟩ (.slice Ao33 [(⟨0, 300⟩ : S46), (⟨500, 400⟩ : S46), (⟨1000, 300⟩ : S46)].length co33)).setCell ⟨gb167, 3, none⟩ (.int .i64 500)) w.heap.size (fun k_ => some k_ ≠ (.slice Ao33 [(⟨0, 300⟩ : S46), (⟨500, 400⟩ : S46), (⟨1000, 300⟩ : S46)].length co33 : Value).ownBlock) (.slice Ao23 [(⟨0, 300⟩ : S46), (⟨500, 400⟩ : S46), (⟨1000, 300⟩ : S46)].length co23) [(⟨0, 300⟩ : S46), (⟨500, 400⟩ : S46), (⟨1000, 300⟩ : S46)]) := ⟨by (with_reducible repeat (first | apply Kd.R_alloc | apply Kd.R_drewN | apply Kd.R_drew)); exact Kd.R_mono (Kd.R_far (p := ⟨gb167, 3, none⟩) (Kd.R_far (p := ⟨gb167, 2, none⟩) (Kd.R_far (p := ⟨gb167, 1, none⟩) (Kd.R_far (p := ⟨gb167, 0, none⟩) (Kd.R_types HO159.out BK167.out (by decide)) (fun _ hk => hk.2) (.string (⟨#[65, 45, 49]⟩ : ByteArray))) (fun _ hk => hk.2) (.int .i64 1)) (fun _ hk => hk.2) (.slice Ao33 [(⟨0, 300⟩ : S46), (⟨500, 400⟩ : S46), (⟨1000, 300⟩ : S46)].length co33)) (fun _ hk => hk.2) (.int .i64 500)) (fun _ hk => hk.1.2)⟩; have n3_ : Aside0 (Kd.N k27 27 ((((w31.setCell ⟨gb167, 0, none⟩ (.string (⟨#[65, 45, 49]⟩ : ByteArray))).setCell ⟨gb167, 1, none⟩ (.int .i64 1)).setCell ⟨gb167, 2, none⟩ (.slice Ao33 [(⟨0, 300⟩ : S46), (⟨500, 400⟩ : S46), (⟨1000, 300⟩ : S46)].length co33)).setCell ⟨gb167, 3, none⟩ (.int .i64 500)) w.heap.size (fun k_ => some k_ ≠ (.slice Ao19 y153.length co19 : Value).ownBlock ∧ some k_ ≠ (v156 : Value).ownBlock ∧ some k_ ≠ (.slice Ao23 [(⟨0, 300⟩ : S46), (⟨500, 400⟩ : S46), (⟨1000, 300⟩ : S46)].length co23 : Value).ownBlock ∧ some k_ ≠ (.slice Ao33 [(⟨0, 300⟩ : S46), (⟨500, 400⟩ : S46), (⟨1000, 300⟩ : S46)].length co33 : Value).ownBlock ∧ k_ ≠ gb167) (.slice Ao29 y162.length co29) y162) := ⟨by (with_reducible repeat (first | apply Kd.N_alloc | apply Kd.N_drewN | apply Kd.N_drew)); exact Kd.N_mono (Kd.N_far (p := ⟨gb167, 3, none⟩) (Kd.N_far (p := ⟨gb167, 2, none⟩) (Kd.N_far (p := ⟨gb167, 1, none⟩) (Kd.N_far (p := ⟨gb167, 0, none⟩) (Kd.N_mono HO164.out (fun k_ hk => (⟨hk, hk.2⟩ : _ ∧ k_ ≠ gb167))) (fun _ hk => hk.2) (.string (⟨#[65, 45, 49]⟩ : ByteArray))) (fun _ hk => hk.2) (.int .i64 1)) (fun _ hk => hk.2) (.slice Ao33 [(⟨0, 300⟩ : S46), (⟨500, 400⟩ : S46), (⟨1000, 300⟩ : S46)].length co33)) (fun _ hk => hk.2) (.int .i64 500)) (fun _ hk => ⟨hk.1.1.1.1, ⟨hk.1.1.1.2.1, ⟨hk.1.1.1.2.2, ⟨hk.1.1.2, hk.1.2⟩⟩⟩⟩)⟩; have n4_ : Aside0 (Kd.R k46 46 ((((w31.setCell ⟨gb167, 0, none⟩ (.string (⟨#[65, 45, 49]⟩ : ByteArray))).setCell ⟨gb167, 1, none⟩ (.int .i64 1)).setCell ⟨gb167, 2, none⟩ (.slice Ao33 [(⟨0, 300⟩ : S46), (⟨500, 400⟩ : S46), (⟨1000, 300⟩ : S46)].length co33)).setCell ⟨gb167, 3, none⟩ (.int .i64 500)) w.heap.size (fun k_ => some k_ ≠ (.slice Ao23 [(⟨0, 300⟩ : S46), (⟨500, 400⟩ : S46), (⟨1000, 300⟩ : S46)].length co23 : Value).ownBlock) (.slice Ao33 [(⟨0, 300⟩ : S46), (⟨500, 400⟩ : S46), (⟨1000, 300⟩ : S46)].length co33) [(⟨0, 300⟩ : S46), (⟨500, 400⟩ : S46), (⟨1000, 300⟩ : S46)]) := ⟨by (with_reducible repeat (first | apply Kd.R_alloc | apply Kd.R_drewN | apply Kd.R_drew)); exact Kd.R_mono (Kd.R_far (p := ⟨gb167, 3, none⟩) (Kd.R_far (p := ⟨gb167, 2, none⟩) (Kd.R_far (p := ⟨gb167, 1, none⟩) (Kd.R_far (p := ⟨gb167, 0, none⟩) (Kd.R_types HO166.out BK167.out (by decide)) (fun _ hk => hk.2) (.string (⟨#[65, 45, 49]⟩ : ByteArray))) (fun _ hk => hk.2) (.int .i64 1)) (fun _ hk => hk.2) (.slice Ao33 [(⟨0, 300⟩ : S46), (⟨500, 400⟩ : S46), (⟨1000, 300⟩ : S46)].length co33)) (fun _ hk => hk.2) (.int .i64 500)) (fun _ hk => hk.1.2)⟩; have n5_ : Aside0 (((((w31.setCell ⟨gb167, 0, none⟩ (.string (⟨#[65, 45, 49]⟩ : ByteArray))).setCell ⟨gb167, 1, none⟩ (.int .i64 1)).setCell ⟨gb167, 2, none⟩ (.slice Ao33 [(⟨0, 300⟩ : S46), (⟨500, 400⟩ : S46), (⟨1000, 300⟩ : S46)].length co33)).setCell ⟨gb167, 3, none⟩ (.int .i64 500)).heap[gb167]? = some (.cells #[.string (⟨#[65, 45, 49]⟩ : ByteArray), .int .i64 1, .slice Ao33 [(⟨0, 300⟩ : S46), (⟨500, 400⟩ : S46), (⟨1000, 300⟩ : S46)].length co33, .int .i64 500] 27 (0, 0))) := ⟨by (with_reducible repeat (first | refine blk_drewN ?_ _ | refine blk_drew ?_ | refine blk_alloc ?_ _)); refine blk_put (cs := #[.string (⟨#[65, 45, 49]⟩ : ByteArray), .int .i64 1, .slice Ao33 [(⟨0, 300⟩ : S46), (⟨500, 400⟩ : S46), (⟨1000, 300⟩ : S46)].length co33, .int .i64 0]) ?_ 3 _ rfl; (with_reducible repeat (first | refine blk_drewN ?_ _ | refine blk_drew ?_ | refine blk_alloc ?_ _)); refine blk_put (cs := #[.string (⟨#[65, 45, 49]⟩ : ByteArray), .int .i64 1, .slice none 0 0, .int .i64 0]) ?_ 2 _ rfl; (with_reducible repeat (first | refine blk_drewN ?_ _ | refine blk_drew ?_ | refine blk_alloc ?_ _)); refine blk_put (cs := #[.string (⟨#[65, 45, 49]⟩ : ByteArray), .int .i64 0, .slice none 0 0, .int .i64 0]) ?_ 1 _ rfl; (with_reducible repeat (first | refine blk_drewN ?_ _ | refine blk_drew ?_ | refine blk_alloc ?_ _)); refine blk_put (cs := #[.string (⟨#[]⟩ : ByteArray), .int .i64 0, .slice none 0 0, .int .i64 0]) ?_ 0 _ rfl; (with_reducible repeat (first | refine blk_drewN ?_ _ | refine blk_drew ?_ | refine blk_alloc ?_ _)); exact BK167.out⟩; have n6_ : Aside0 (Below w.heap.size w ((((w31.setCell ⟨gb167, 0, none⟩ (.string (⟨#[65, 45, 49]⟩ : ByteArray))).setCell ⟨gb167, 1, none⟩ (.int .i64 1)).setCell ⟨gb167, 2, none⟩ (.slice Ao33 [(⟨0, 300⟩ : S46), (⟨500, 400⟩ : S46), (⟨1000, 300⟩ : S46)].length co33)).setCell ⟨gb167, 3, none⟩ (.int .i64 500))) := ⟨by repeat (first | (with_reducible first | exact HB.out | apply below_alloc | apply pw_below_drewN | apply below_drew1 | refine below_set ?_ GE167.out) | exact HB.out)⟩; (try clear HO155)
 (try clear HO157)
 (try clear HO159)
 (try clear HO164)
 (try clear HO166)
 (try clear BK167)
 (try clear HB)
 generalize ((((w31.setCell ⟨gb167, 0, none⟩ (.string (⟨#[65, 45, 49]⟩ : ByteArray))).setCell ⟨gb167, 1, none⟩ (.int .i64 1)).setCell ⟨gb167, 2, none⟩ (.slice Ao33 [(⟨0, 300⟩ : S46), (⟨500, 400⟩ : S46), (⟨1000, 300⟩ : S46)].length co33)).setCell ⟨gb167, 3, none⟩ (.int .i64 500)) = w34 at n0_ n1_ n2_ n3_ n4_ n5_ n6_ ⊢; have HO155 := n0_; have HO157 := n1_; have HO159 := n2_; have HO164 := n3_; have HO166 := n4_; have BK167 := n5_; have HB := n6_; clear n0_ n1_ n2_ n3_ n4_ n5_ n6_; have n0_ := Aside0.mk (Kd.N_drew HO155.out); have n1_ := Aside0.mk (Kd.N_drew HO157.out); have n2_ := Aside0.mk (Kd.R_drew HO159.out); have n3_ := Aside0.mk (Kd.N_drew HO164.out); have n4_ := Aside0.mk (Kd.R_drew HO166.out); have n5_ := Aside0.mk (blk_drew BK167.out); have n6_ := Aside0.mk (below_drew1 HB.out); clear HO155; clear HO157; clear HO159; clear HO164; clear HO166; clear BK167; clear HB; have HO155 := n0_; have HO157 := n1_; have HO159 := n2_; have HO164 := n3_; have HO166 := n4_; have BK167 := n5_; have HB := n6_; clear n0_ n1_ n2_ n3_ n4_ n5_ n6_; refine start_ (n := 48) (S := fun w' => w'.cell? ⟨gb167, 0, none⟩ = some (.string (⟨#[65, 45, 49]⟩ : ByteArray)) ∧ w'.cell? ⟨gb167, 1, none⟩ = some (.int .i64 1) ∧ w'.cell? ⟨gb167, 2, none⟩ = some (.slice Ao33 [(⟨0, 300⟩ : S46), (⟨500, 400⟩ : S46), (⟨1000, 300⟩ : S46)].length co33) ∧ w'.cell? ⟨gb167, 3, none⟩ = some (.int .i64 500)) (ds := []) #[false, false, false, false, false, false, false, false, false, false, false, false, false, false, false, false, false, false, false, false, false, false, false, false, false, false, false, false, false, false, false, false, false, false, false, false, false, false, false, false, false, false, false, false, false, false, false, false] (by kernel_rfl) rfl rfl ⟨(blk_cell BK167.out 0).trans rfl, (blk_cell BK167.out 1).trans rfl, (blk_cell BK167.out 2).trans rfl, (blk_cell BK167.out 3).trans rfl⟩ (fun hHeld => ?_); refine with_tabW spilelaw09_awake.tab5 spilelaw09_awake.bits5 (fun HT_ HW_ => ?_)
 generalize w34.drew = w35 at HO155 HO157 HO159 HO164 HO166 BK167 HB hHeld ⊢; refine pure_ (i := 0) (N := some 33) (v := ?_) (a' := ?_) #[true, false, false, false, false, false, false, false, false, false, false, false, false, false, false, false, false, false, false, false, false, false, false, false, false, false, false, false, false, false, false, false, false, false, false, false, false, false, false, false, false, false, false, false, false, false, false, false] rfl rfl (any_of HT_.out (by kernel_rfl)) (fun _ _ _ h => h) (Or.inl ⟨by rfl, ?_⟩) ?_ ?_; rotate_left
 · intro w'; go_simp; with_reducible rfl
 rotate_left
 · simp only [Act.put, sIA, sC0, sCS, i64_w, i32_w]; rfl
 refine pure_ (i := 1) (N := some 34) (v := ?_) (a' := ?_) #[true, true, false, false, false, false, false, false, false, false, false, false, false, false, false, false, false, false, false, false, false, false, false, false, false, false, false, false, false, false, false, false, false, false, false, false, false, false, false, false, false, false, false, false, false, false, false, false] rfl rfl (any_of HT_.out (by kernel_rfl)) (fun _ _ _ h => h) (Or.inl ⟨by rfl, ?_⟩) ?_ ?_; rotate_left
 · intro w'; go_simp; with_reducible rfl
 rotate_left
 · simp only [Act.put, sIA, sC0, sCS, i64_w, i32_w]; rfl
 refine pure_ (i := 2) (N := some 35) (v := ?_) (a' := ?_) #[true, true, true, false, false, false, false, false, false, false, false, false, false, false, false, false, false, false, false, false, false, false, false, false, false, false, false, false, false, false, false, false, false, false, false, false, false, false, false, false, false, false, false, false, false, false, false, false] rfl rfl (any_of HT_.out (by kernel_rfl)) (fun _ _ _ h => h) (Or.inl ⟨by rfl, ?_⟩) ?_ ?_; rotate_left
 · intro w'; go_simp; with_reducible rfl
 rotate_left
 · simp only [Act.put, sIA, sC0, sCS, i64_w, i32_w]; rfl
 refine pure_ (i := 3) (N := some 36) (v := ?_) (a' := ?_) #[true, true, true, true, false, false, false, false, false, false, false, false, false, false, false, false, false, false, false, false, false, false, false, false, false, false, false, false, false, false, false, false, false, false, false, false, false, false, false, false, false, false, false, false, false, false, false, false] rfl rfl (any_of HT_.out (by kernel_rfl)) (fun _ _ _ h => h) (Or.inl ⟨by rfl, ?_⟩) ?_ ?_; rotate_left
 · intro w'; go_simp; with_reducible rfl
 rotate_left
 · simp only [Act.put, sIA, sC0, sCS, i64_w, i32_w]; rfl
 refine pure_ (i := 4) (N := some 37) (v := ?_) (a' := ?_) #[true, true, true, true, true, false, false, false, false, false, false, false, false, false, false, false, false, false, false, false, false, false, false, false, false, false, false, false, false, false, false, false, false, false, false, false, false, false, false, false, false, false, false, false, false, false, false, false] rfl rfl (any_of HT_.out (by kernel_rfl)) (fun _ _ _ h => h) (Or.inl ⟨by rfl, ?_⟩) ?_ ?_; rotate_left
 · intro w'; go_simp; with_reducible rfl
 rotate_left
 · simp only [Act.put, sIA, sC0, sCS, i64_w, i32_w]; rfl
 refine pure_ (i := 5) (N := some 38) (v := ?_) (a' := ?_) #[true, true, true, true, true, true, false, false, false, false, false, false, false, false, false, false, false, false, false, false, false, false, false, false, false, false, false, false, false, false, false, false, false, false, false, false, false, false, false, false, false, false, false, false, false, false, false, false] rfl rfl (any_of HT_.out (by kernel_rfl)) (fun _ _ _ h => h) (Or.inl ⟨by rfl, ?_⟩) ?_ ?_; rotate_left
 · intro w'; go_simp; with_reducible rfl
 rotate_left
 · simp only [Act.put, sIA, sC0, sCS, i64_w, i32_w]; rfl
 refine pure_ (i := 6) (N := some 39) (v := ?_) (a' := ?_) #[true, true, true, true, true, true, true, false, false, false, false, false, false, false, false, false, false, false, false, false, false, false, false, false, false, false, false, false, false, false, false, false, false, false, false, false, false, false, false, false, false, false, false, false, false, false, false, false] rfl rfl (any_of HT_.out (by kernel_rfl)) (fun _ _ _ h => h) (Or.inl ⟨by rfl, ?_⟩) ?_ ?_; rotate_left
 · intro w'; go_simp; with_reducible rfl
 rotate_left
 · simp only [Act.put, sIA, sC0, sCS, i64_w, i32_w]; rfl
 refine pure_ (i := 7) (N := some 40) (v := ?_) (a' := ?_) #[true, true, true, true, true, true, true, true, false, false, false, false, false, false, false, false, false, false, false, false, false, false, false, false, false, false, false, false, false, false, false, false, false, false, false, false, false, false, false, false, false, false, false, false, false, false, false, false] rfl rfl (any_of HT_.out (by kernel_rfl)) (fun _ _ _ h => h) (Or.inl ⟨by rfl, ?_⟩) ?_ ?_; rotate_left
 · intro w'; go_simp; with_reducible rfl
 rotate_left
 · simp only [Act.put, sIA, sC0, sCS, i64_w, i32_w]; rfl
 refine pure_ (i := 8) (N := some 41) (v := ?_) (a' := ?_) #[true, true, true, true, true, true, true, true, true, false, false, false, false, false, false, false, false, false, false, false, false, false, false, false, false, false, false, false, false, false, false, false, false, false, false, false, false, false, false, false, false, false, false, false, false, false, false, false] rfl rfl (any_of HT_.out (by kernel_rfl)) (fun _ _ _ h => h) (Or.inl ⟨by rfl, ?_⟩) ?_ ?_; rotate_left
 · intro w'; go_simp; with_reducible rfl
 rotate_left
 · simp only [Act.put, sIA, sC0, sCS, i64_w, i32_w]; rfl
 refine pure_ (i := 9) (N := some 42) (v := ?_) (a' := ?_) #[true, true, true, true, true, true, true, true, true, true, false, false, false, false, false, false, false, false, false, false, false, false, false, false, false, false, false, false, false, false, false, false, false, false, false, false, false, false, false, false, false, false, false, false, false, false, false, false] rfl rfl (any_of HT_.out (by kernel_rfl)) (fun _ _ _ h => h) (Or.inl ⟨by rfl, ?_⟩) ?_ ?_; rotate_left
 · intro w'; go_simp; with_reducible rfl
 rotate_left
 · simp only [Act.put, sIA, sC0, sCS, i64_w, i32_w]; rfl
 refine pure_ (i := 10) (N := some 43) (v := ?_) (a' := ?_) #[true, true, true, true, true, true, true, true, true, true, true, false, false, false, false, false, false, false, false, false, false, false, false, false, false, false, false, false, false, false, false, false, false, false, false, false, false, false, false, false, false, false, false, false, false, false, false, false] rfl rfl (any_of HT_.out (by kernel_rfl)) (fun _ _ _ h => h) (Or.inl ⟨by rfl, ?_⟩) ?_ ?_; rotate_left
 · intro w'; go_simp; with_reducible rfl
 rotate_left
 · simp only [Act.put, sIA, sC0, sCS, i64_w, i32_w]; rfl
 refine pure_ (i := 11) (N := some 44) (v := ?_) (a' := ?_) #[true, true, true, true, true, true, true, true, true, true, true, true, false, false, false, false, false, false, false, false, false, false, false, false, false, false, false, false, false, false, false, false, false, false, false, false, false, false, false, false, false, false, false, false, false, false, false, false] rfl rfl (any_of HT_.out (by kernel_rfl)) (fun _ _ _ h => h) (Or.inl ⟨by rfl, ?_⟩) ?_ ?_; rotate_left
 · intro w'; go_simp; with_reducible rfl
 rotate_left
 · simp only [Act.put, sIA, sC0, sCS, i64_w, i32_w]; rfl
 refine pure_ (i := 12) (N := some 45) (v := ?_) (a' := ?_) #[true, true, true, true, true, true, true, true, true, true, true, true, true, false, false, false, false, false, false, false, false, false, false, false, false, false, false, false, false, false, false, false, false, false, false, false, false, false, false, false, false, false, false, false, false, false, false, false] rfl rfl (any_of HT_.out (by kernel_rfl)) (fun _ _ _ h => h) (Or.inl ⟨by rfl, ?_⟩) ?_ ?_; rotate_left
 · intro w'; go_simp; with_reducible rfl
 rotate_left
 · simp only [Act.put, sIA, sC0, sCS, i64_w, i32_w]; rfl
 refine pure_ (i := 13) (N := some 46) (v := ?_) (a' := ?_) #[true, true, true, true, true, true, true, true, true, true, true, true, true, true, false, false, false, false, false, false, false, false, false, false, false, false, false, false, false, false, false, false, false, false, false, false, false, false, false, false, false, false, false, false, false, false, false, false] rfl rfl (any_of HT_.out (by kernel_rfl)) (fun _ _ _ h => h) (Or.inl ⟨by rfl, ?_⟩) ?_ ?_; rotate_left
 · intro w'; go_simp; with_reducible rfl
 rotate_left
 · simp only [Act.put, sIA, sC0, sCS, i64_w, i32_w]; rfl
 refine pure_ (i := 14) (N := some 47) (v := ?_) (a' := ?_) #[true, true, true, true, true, true, true, true, true, true, true, true, true, true, true, false, false, false, false, false, false, false, false, false, false, false, false, false, false, false, false, false, false, false, false, false, false, false, false, false, false, false, false, false, false, false, false, false] rfl rfl (any_of HT_.out (by kernel_rfl)) (fun _ _ _ h => h) (Or.inl ⟨by rfl, ?_⟩) ?_ ?_; rotate_left
 · intro w'; go_simp; with_reducible rfl
 rotate_left
 · simp only [Act.put, sIA, sC0, sCS, i64_w, i32_w]; rfl
 refine pure_ (i := 15) (N := some 48) (v := ?_) (a' := ?_) #[true, true, true, true, true, true, true, true, true, true, true, true, true, true, true, true, false, false, false, false, false, false, false, false, false, false, false, false, false, false, false, false, false, false, false, false, false, false, false, false, false, false, false, false, false, false, false, false] rfl rfl (any_of HT_.out (by kernel_rfl)) (fun _ _ _ h => h) (Or.inl ⟨by rfl, ?_⟩) ?_ ?_; rotate_left
 · intro w'; go_simp; with_reducible rfl
 rotate_left
 · simp only [Act.put, sIA, sC0, sCS, i64_w, i32_w]; rfl
 refine pure_ (i := 16) (N := some 49) (v := ?_) (a' := ?_) #[true, true, true, true, true, true, true, true, true, true, true, true, true, true, true, true, true, false, false, false, false, false, false, false, false, false, false, false, false, false, false, false, false, false, false, false, false, false, false, false, false, false, false, false, false, false, false, false] rfl rfl (any_of HT_.out (by kernel_rfl)) (fun _ _ _ h => h) (Or.inl ⟨by rfl, ?_⟩) ?_ ?_; rotate_left
 · intro w'; go_simp; with_reducible rfl
 rotate_left
 · simp only [Act.put, sIA, sC0, sCS, i64_w, i32_w]; rfl
 refine pure_ (i := 17) (N := some 50) (v := ?_) (a' := ?_) #[true, true, true, true, true, true, true, true, true, true, true, true, true, true, true, true, true, true, false, false, false, false, false, false, false, false, false, false, false, false, false, false, false, false, false, false, false, false, false, false, false, false, false, false, false, false, false, false] rfl rfl (any_of HT_.out (by kernel_rfl)) (fun _ _ _ h => h) (Or.inl ⟨by rfl, ?_⟩) ?_ ?_; rotate_left
 · intro w'; go_simp; with_reducible rfl
 rotate_left
 · simp only [Act.put, sIA, sC0, sCS, i64_w, i32_w]; rfl
 refine pure_ (i := 18) (N := some 51) (v := ?_) (a' := ?_) #[true, true, true, true, true, true, true, true, true, true, true, true, true, true, true, true, true, true, true, false, false, false, false, false, false, false, false, false, false, false, false, false, false, false, false, false, false, false, false, false, false, false, false, false, false, false, false, false] rfl rfl (any_of HT_.out (by kernel_rfl)) (fun _ _ _ h => h) (Or.inl ⟨by rfl, ?_⟩) ?_ ?_; rotate_left
 · intro w'; go_simp; with_reducible rfl
 rotate_left
 · simp only [Act.put, sIA, sC0, sCS, i64_w, i32_w]; rfl
 refine pure_ (i := 19) (N := some 52) (v := ?_) (a' := ?_) #[true, true, true, true, true, true, true, true, true, true, true, true, true, true, true, true, true, true, true, true, false, false, false, false, false, false, false, false, false, false, false, false, false, false, false, false, false, false, false, false, false, false, false, false, false, false, false, false] rfl rfl (any_of HT_.out (by kernel_rfl)) (fun _ _ _ h => h) (Or.inl ⟨by rfl, ?_⟩) ?_ ?_; rotate_left
 · intro w'; go_simp; with_reducible rfl
 rotate_left
 · simp only [Act.put, sIA, sC0, sCS, i64_w, i32_w]; rfl
 refine pure_ (i := 20) (N := some 53) (v := ?_) (a' := ?_) #[true, true, true, true, true, true, true, true, true, true, true, true, true, true, true, true, true, true, true, true, true, false, false, false, false, false, false, false, false, false, false, false, false, false, false, false, false, false, false, false, false, false, false, false, false, false, false, false] rfl rfl (any_of HT_.out (by kernel_rfl)) (fun _ _ _ h => h) (Or.inl ⟨by rfl, ?_⟩) ?_ ?_; rotate_left
 · intro w'; go_simp; with_reducible rfl
 rotate_left
 · simp only [Act.put, sIA, sC0, sCS, i64_w, i32_w]; rfl
 refine pure_ (i := 21) (N := some 54) (v := ?_) (a' := ?_) #[true, true, true, true, true, true, true, true, true, true, true, true, true, true, true, true, true, true, true, true, true, true, false, false, false, false, false, false, false, false, false, false, false, false, false, false, false, false, false, false, false, false, false, false, false, false, false, false] rfl rfl (any_of HT_.out (by kernel_rfl)) (fun _ _ _ h => h) (Or.inl ⟨by rfl, ?_⟩) ?_ ?_; rotate_left
 · intro w'; go_simp; with_reducible rfl
 rotate_left
 · simp only [Act.put, sIA, sC0, sCS, i64_w, i32_w]; rfl
 refine pure_ (i := 22) (N := some 55) (v := ?_) (a' := ?_) #[true, true, true, true, true, true, true, true, true, true, true, true, true, true, true, true, true, true, true, true, true, true, true, false, false, false, false, false, false, false, false, false, false, false, false, false, false, false, false, false, false, false, false, false, false, false, false, false] rfl rfl (any_of HT_.out (by kernel_rfl)) (fun _ _ _ h => h) (Or.inl ⟨by rfl, ?_⟩) ?_ ?_; rotate_left
 · intro w'; go_simp; with_reducible rfl
 rotate_left
 · simp only [Act.put, sIA, sC0, sCS, i64_w, i32_w]; rfl
 refine pure_ (i := 23) (N := some 56) (v := ?_) (a' := ?_) #[true, true, true, true, true, true, true, true, true, true, true, true, true, true, true, true, true, true, true, true, true, true, true, true, false, false, false, false, false, false, false, false, false, false, false, false, false, false, false, false, false, false, false, false, false, false, false, false] rfl rfl (any_of HT_.out (by kernel_rfl)) (fun _ _ _ h => h) (Or.inl ⟨by rfl, ?_⟩) ?_ ?_; rotate_left
 · intro w'; go_simp; with_reducible rfl
 rotate_left
 · simp only [Act.put, sIA, sC0, sCS, i64_w, i32_w]; rfl
 refine pure_ (i := 24) (N := some 57) (v := ?_) (a' := ?_) #[true, true, true, true, true, true, true, true, true, true, true, true, true, true, true, true, true, true, true, true, true, true, true, true, true, false, false, false, false, false, false, false, false, false, false, false, false, false, false, false, false, false, false, false, false, false, false, false] rfl rfl (any_of HT_.out (by kernel_rfl)) (fun _ _ _ h => h) (Or.inl ⟨by rfl, ?_⟩) ?_ ?_; rotate_left
 · intro w'; go_simp; with_reducible rfl
 rotate_left
 · simp only [Act.put, sIA, sC0, sCS, i64_w, i32_w]; rfl
 refine pure_ (i := 25) (N := some 58) (v := ?_) (a' := ?_) #[true, true, true, true, true, true, true, true, true, true, true, true, true, true, true, true, true, true, true, true, true, true, true, true, true, true, false, false, false, false, false, false, false, false, false, false, false, false, false, false, false, false, false, false, false, false, false, false] rfl rfl (any_of HT_.out (by kernel_rfl)) (fun _ _ _ h => h) (Or.inl ⟨by rfl, ?_⟩) ?_ ?_; rotate_left
 · intro w'; go_simp; with_reducible rfl
 rotate_left
 · simp only [Act.put, sIA, sC0, sCS, i64_w, i32_w]; rfl
 refine pure_ (i := 26) (N := some 59) (v := ?_) (a' := ?_) #[true, true, true, true, true, true, true, true, true, true, true, true, true, true, true, true, true, true, true, true, true, true, true, true, true, true, true, false, false, false, false, false, false, false, false, false, false, false, false, false, false, false, false, false, false, false, false, false] rfl rfl (any_of HT_.out (by kernel_rfl)) (fun _ _ _ h => h) (Or.inl ⟨by rfl, ?_⟩) ?_ ?_; rotate_left
 · intro w'; go_simp; with_reducible rfl
 rotate_left
 · simp only [Act.put, sIA, sC0, sCS, i64_w, i32_w]; rfl
 refine pure_ (i := 27) (N := some 60) (v := ?_) (a' := ?_) #[true, true, true, true, true, true, true, true, true, true, true, true, true, true, true, true, true, true, true, true, true, true, true, true, true, true, true, true, false, false, false, false, false, false, false, false, false, false, false, false, false, false, false, false, false, false, false, false] rfl rfl (any_of HT_.out (by kernel_rfl)) (fun _ _ _ h => h) (Or.inl ⟨by rfl, ?_⟩) ?_ ?_; rotate_left
 · intro w'; go_simp; with_reducible rfl
 rotate_left
 · simp only [Act.put, sIA, sC0, sCS, i64_w, i32_w]; rfl
 refine one_ (i := 28) (N := some 61) #[true, true, true, true, true, true, true, true, true, true, true, true, true, true, true, true, true, true, true, true, true, true, true, true, true, true, true, true, true, false, false, false, false, false, false, false, false, false, false, false, false, false, false, false, false, false, false, false] rfl rfl (one_of HT_.out (by kernel_rfl)) (by decide) (fun K hK => ?_); refine goes_ Tryd.func31 (by kernel_rfl) rfl #[] (by rfl) rfl rfl (by (try simp only [List.map_toArray, List.map_cons, List.map_nil]); first | done | rfl | (simp only [List.length_drop, List.length_take]; rfl)) ?_; with_reducible refine (spilelaw09_Barrel.calls  (⟨#[65, 45, 49]⟩ : ByteArray) 1 [(⟨0, 300⟩ : S46), (⟨500, 400⟩ : S46), (⟨1000, 300⟩ : S46)] 500 _ A8.out).mono ?_
 rintro e w36 ⟨v168, rfl, ho0, hb⟩; refine ⟨_, rfl, ?_⟩; have n0_ := Aside0.mk (Kd.N_elder' (by (with_reducible repeat (first | apply Kd.N_alloc | apply Kd.N_drewN | apply Kd.N_drew)); exact HO155.out) (Kd.R_base ho0) hb); have n1_ := Aside0.mk (Kd.N_elder' (by (with_reducible repeat (first | apply Kd.N_alloc | apply Kd.N_drewN | apply Kd.N_drew)); exact HO157.out) (Kd.R_base ho0) hb); have n2_ := Aside0.mk (Kd.R_elder' (by (with_reducible repeat (first | apply Kd.R_alloc | apply Kd.R_drewN | apply Kd.R_drew)); exact HO159.out) (Kd.R_base ho0) hb); have n3_ := Aside0.mk (Kd.N_elder' (by (with_reducible repeat (first | apply Kd.N_alloc | apply Kd.N_drewN | apply Kd.N_drew)); exact HO164.out) (Kd.R_base ho0) hb); have n4_ := Aside0.mk (Kd.R_elder' (by (with_reducible repeat (first | apply Kd.R_alloc | apply Kd.R_drewN | apply Kd.R_drew)); exact HO166.out) (Kd.R_base ho0) hb); have n5_ := Aside0.mk (Kd.R_lower (Kd.R_new' (Kd.R_new' ho0 (Kd.R_lt (by (with_reducible repeat (first | apply Kd.R_alloc | apply Kd.R_drewN | apply Kd.R_drew)); exact HO159.out))) (Kd.R_lt (by (with_reducible repeat (first | apply Kd.R_alloc | apply Kd.R_drewN | apply Kd.R_drew)); exact HO166.out))) (below_size (by repeat (first | (with_reducible first | exact HB.out | apply below_alloc | apply pw_below_drewN | apply below_drew1 | refine below_set ?_ GE167.out) | exact HB.out)))); have n6_ := Aside0.mk (blk_below (g := gb167) (o := .cells #[.string (⟨#[65, 45, 49]⟩ : ByteArray), .int .i64 1, .slice Ao33 [(⟨0, 300⟩ : S46), (⟨500, 400⟩ : S46), (⟨1000, 300⟩ : S46)].length co33, .int .i64 500] 27 (0, 0)) (by (with_reducible repeat (first | refine blk_drewN ?_ _ | refine blk_drew ?_ | refine blk_alloc ?_ _)); exact BK167.out) hb); have n7_ := Aside0.mk (below_step (by repeat (first | (with_reducible first | exact HB.out | apply below_alloc | apply pw_below_drewN | apply below_drew1 | refine below_set ?_ GE167.out) | exact HB.out)) hb); clear HO155; clear HO157; clear HO159; clear HO164; clear HO166; clear BK167; clear HB; have HO155 := n0_; have HO157 := n1_; have HO159 := n2_; have HO164 := n3_; have HO166 := n4_; have HO169 := n5_; have BK167 := n6_; have HB := n7_; clear n0_ n1_ n2_ n3_ n4_ n5_ n6_ n7_; (try clear hb)
 (try clear hb2)
 (try clear hk)
 (try clear hi)
 (try clear ho0)
 obtain ⟨Ao37, co37, eo37⟩ := Kd.R_slice HO169.out; (first | subst eo37 | (injection eo37 with f1_ f2_ f3_; have f4_ := f1_.symm; have f5_ := f3_.symm; clear f1_ f2_ f3_; subst f4_; subst f5_))
 refine hK.out _ _ ⟨(blk_cell BK167.out 0).trans rfl, (blk_cell BK167.out 1).trans rfl, (blk_cell BK167.out 2).trans rfl, (blk_cell BK167.out 3).trans rfl⟩ (fun hHeld => ?_); clear hK K; refine norm_ (a' := ?_) ?_ ?_; rotate_left
 ·
  show Act.put _ (some 61) _ = _
  simp only [Act.put, sIA, sC0, sCS, i64_w, i32_w]; rfl
 refine one_ (i := 29) (N := some 62) #[true, true, true, true, true, true, true, true, true, true, true, true, true, true, true, true, true, true, true, true, true, true, true, true, true, true, true, true, true, true, false, false, false, false, false, false, false, false, false, false, false, false, false, false, false, false, false, false] rfl rfl (one_of HT_.out (by kernel_rfl)) (by decide) (fun K hK => ?_); refine Kd.N_lit_step k27 _ 27 ?hg (N' := 62) ?hd (xs := ([(⟨(⟨#[65, 45, 49]⟩ : ByteArray), 1, [(⟨0, 300⟩ : S46), (⟨500, 400⟩ : S46), (⟨1000, 300⟩ : S46)], 500⟩ : S27)] : List (S27))) (inner := [.string (⟨#[65, 45, 49]⟩ : ByteArray), .int .i64 1, .slice Ao37 [(⟨0, 300⟩ : S46), (⟨500, 400⟩ : S46), (⟨1000, 300⟩ : S46)].length co37, .int .i64 500]) (ok := (fun k_ => some k_ ≠ (.slice Ao19 y153.length co19 : Value).ownBlock ∧ some k_ ≠ (v156 : Value).ownBlock ∧ some k_ ≠ (.slice Ao23 [(⟨0, 300⟩ : S46), (⟨500, 400⟩ : S46), (⟨1000, 300⟩ : S46)].length co23 : Value).ownBlock ∧ some k_ ≠ (.slice Ao29 y162.length co29 : Value).ownBlock ∧ some k_ ≠ (.slice Ao33 [(⟨0, 300⟩ : S46), (⟨500, 400⟩ : S46), (⟨1000, 300⟩ : S46)].length co33 : Value).ownBlock ∧ k_ ≠ gb167)) (okp := (fun k_ => some k_ ≠ (.slice Ao19 y153.length co19 : Value).ownBlock ∧ some k_ ≠ (v156 : Value).ownBlock ∧ some k_ ≠ (.slice Ao23 [(⟨0, 300⟩ : S46), (⟨500, 400⟩ : S46), (⟨1000, 300⟩ : S46)].length co23 : Value).ownBlock ∧ some k_ ≠ (.slice Ao29 y162.length co29 : Value).ownBlock ∧ some k_ ≠ (.slice Ao33 [(⟨0, 300⟩ : S46), (⟨500, 400⟩ : S46), (⟨1000, 300⟩ : S46)].length co33 : Value).ownBlock ∧ k_ ≠ gb167)) ?hr ?hp (fun _ hk => hk) ((show ∀ k_, w36.heap.size ≤ k_ → (fun k_ => some k_ ≠ (.slice Ao19 y153.length co19 : Value).ownBlock ∧ some k_ ≠ (v156 : Value).ownBlock ∧ some k_ ≠ (.slice Ao23 [(⟨0, 300⟩ : S46), (⟨500, 400⟩ : S46), (⟨1000, 300⟩ : S46)].length co23 : Value).ownBlock ∧ some k_ ≠ (.slice Ao29 y162.length co29 : Value).ownBlock ∧ some k_ ≠ (.slice Ao33 [(⟨0, 300⟩ : S46), (⟨500, 400⟩ : S46), (⟨1000, 300⟩ : S46)].length co33 : Value).ownBlock ∧ k_ ≠ gb167) k_ from fun k_ hk => ⟨Kd.fresh' (Kd.N_lt (by (with_reducible repeat (first | apply Kd.N_alloc | apply Kd.N_drewN | apply Kd.N_drew)); exact HO155.out)) k_ hk, Kd.fresh' (Kd.N_lt (by (with_reducible repeat (first | apply Kd.N_alloc | apply Kd.N_drewN | apply Kd.N_drew)); exact HO157.out)) k_ hk, Kd.fresh' (Kd.R_lt (by (with_reducible repeat (first | apply Kd.R_alloc | apply Kd.R_drewN | apply Kd.R_drew)); exact HO159.out)) k_ hk, Kd.fresh' (Kd.N_lt (by (with_reducible repeat (first | apply Kd.N_alloc | apply Kd.N_drewN | apply Kd.N_drew)); exact HO164.out)) k_ hk, Kd.fresh' (Kd.R_lt (by (with_reducible repeat (first | apply Kd.R_alloc | apply Kd.R_drewN | apply Kd.R_drew)); exact HO166.out)) k_ hk, Kd.freshB (g := gb167) (o := .cells #[.string (⟨#[65, 45, 49]⟩ : ByteArray), .int .i64 1, .slice Ao33 [(⟨0, 300⟩ : S46), (⟨500, 400⟩ : S46), (⟨1000, 300⟩ : S46)].length co33, .int .i64 500] 27 (0, 0)) (by (with_reducible repeat (first | refine blk_drewN ?_ _ | refine blk_drew ?_ | refine blk_alloc ?_ _)); exact BK167.out) k_ hk⟩) _ (Nat.le_refl _)) (Below.refl _ _) (Nat.le_refl _) (by simp) ?_; (case hd => rfl); (case hg => rfl); (case hr => first | (go_simp; done) | (go_simp; rfl)); (case hp => exact (Reps.c4 (show Kd.FK k27 _ _ (⟨(⟨#[65, 45, 49]⟩ : ByteArray), 1, [(⟨0, 300⟩ : S46), (⟨500, 400⟩ : S46), (⟨1000, 300⟩ : S46)], 500⟩ : S27) [.string (⟨#[65, 45, 49]⟩ : ByteArray), .int .i64 1, .slice Ao37 [(⟨0, 300⟩ : S46), (⟨500, 400⟩ : S46), (⟨1000, 300⟩ : S46)].length co37, .int .i64 500] from (k27_mkF _ _ (⟨(⟨#[65, 45, 49]⟩ : ByteArray), 1, [(⟨0, 300⟩ : S46), (⟨500, 400⟩ : S46), (⟨1000, 300⟩ : S46)], 500⟩ : S27) (Kd.R_reads' (Kd.R_mono (ok' := (fun k_ => some k_ ≠ (.slice Ao19 y153.length co19 : Value).ownBlock ∧ some k_ ≠ (v156 : Value).ownBlock ∧ some k_ ≠ (.slice Ao23 [(⟨0, 300⟩ : S46), (⟨500, 400⟩ : S46), (⟨1000, 300⟩ : S46)].length co23 : Value).ownBlock ∧ some k_ ≠ (.slice Ao29 y162.length co29 : Value).ownBlock ∧ some k_ ≠ (.slice Ao33 [(⟨0, 300⟩ : S46), (⟨500, 400⟩ : S46), (⟨1000, 300⟩ : S46)].length co33 : Value).ownBlock ∧ k_ ≠ gb167)) (Kd.R_types (Kd.R_apart' (Kd.R_apart' (Kd.R_apart' (HO169.out) (Kd.N_typed HO155.out) (by decide)) (Kd.N_typed HO157.out) (by decide)) (Kd.N_typed HO164.out) (by decide)) BK167.out (by decide)) (fun k_ hk => ⟨hk.1.1.1.2, ⟨hk.1.1.2, ⟨hk.1.1.1.1.1.2, ⟨hk.1.2, ⟨hk.1.1.1.1.2, hk.2⟩⟩⟩⟩⟩))).2.1 (Kd.R_F (Kd.R_mono (ok' := (fun k_ => some k_ ≠ (.slice Ao19 y153.length co19 : Value).ownBlock ∧ some k_ ≠ (v156 : Value).ownBlock ∧ some k_ ≠ (.slice Ao23 [(⟨0, 300⟩ : S46), (⟨500, 400⟩ : S46), (⟨1000, 300⟩ : S46)].length co23 : Value).ownBlock ∧ some k_ ≠ (.slice Ao29 y162.length co29 : Value).ownBlock ∧ some k_ ≠ (.slice Ao33 [(⟨0, 300⟩ : S46), (⟨500, 400⟩ : S46), (⟨1000, 300⟩ : S46)].length co33 : Value).ownBlock ∧ k_ ≠ gb167)) (Kd.R_types (Kd.R_apart' (Kd.R_apart' (Kd.R_apart' (HO169.out) (Kd.N_typed HO155.out) (by decide)) (Kd.N_typed HO157.out) (by decide)) (Kd.N_typed HO164.out) (by decide)) BK167.out (by decide)) (fun k_ hk => ⟨hk.1.1.1.2, ⟨hk.1.1.2, ⟨hk.1.1.1.1.1.2, ⟨hk.1.2, ⟨hk.1.1.1.1.2, hk.2⟩⟩⟩⟩⟩))))) (Reps.none _ _)))
 intro v171 w38 ho39 hb hg_ hnew_; clear hg_ hnew_; (first | rw [← Ny170.out] at ho39 | (simp only [Int.reduceToNat] at ho39; rw [← Ny170.out] at ho39))
 have n0_ := Aside0.mk (Kd.N_elder' (by (with_reducible repeat (first | apply Kd.N_alloc | apply Kd.N_drewN | apply Kd.N_drew)); exact HO155.out) (Kd.N_base ho39) hb); have n1_ := Aside0.mk (Kd.N_elder' (by (with_reducible repeat (first | apply Kd.N_alloc | apply Kd.N_drewN | apply Kd.N_drew)); exact HO157.out) (Kd.N_base ho39) hb); have n2_ := Aside0.mk (Kd.R_below (by (with_reducible repeat (first | apply Kd.R_alloc | apply Kd.R_drewN | apply Kd.R_drew)); exact HO159.out) hb); have n3_ := Aside0.mk (Kd.N_elder' (by (with_reducible repeat (first | apply Kd.N_alloc | apply Kd.N_drewN | apply Kd.N_drew)); exact HO164.out) (Kd.N_base ho39) hb); have n4_ := Aside0.mk (Kd.R_below (by (with_reducible repeat (first | apply Kd.R_alloc | apply Kd.R_drewN | apply Kd.R_drew)); exact HO166.out) hb); have n5_ := Aside0.mk (Kd.N_lower ho39 (below_size (by repeat (first | (with_reducible first | exact HB.out | apply below_alloc | apply pw_below_drewN | apply below_drew1 | refine below_set ?_ GE167.out) | exact HB.out)))); have n6_ := Aside0.mk (blk_below (g := gb167) (o := .cells #[.string (⟨#[65, 45, 49]⟩ : ByteArray), .int .i64 1, .slice Ao33 [(⟨0, 300⟩ : S46), (⟨500, 400⟩ : S46), (⟨1000, 300⟩ : S46)].length co33, .int .i64 500] 27 (0, 0)) (by (with_reducible repeat (first | refine blk_drewN ?_ _ | refine blk_drew ?_ | refine blk_alloc ?_ _)); exact BK167.out) hb); have n7_ := Aside0.mk (below_step (by repeat (first | (with_reducible first | exact HB.out | apply below_alloc | apply pw_below_drewN | apply below_drew1 | refine below_set ?_ GE167.out) | exact HB.out)) hb); clear HO155; clear HO157; clear HO159; clear HO164; clear HO166; clear BK167; clear HB; clear HO169; have HO155 := n0_; have HO157 := n1_; have HO159 := n2_; have HO164 := n3_; have HO166 := n4_; have HO172 := n5_; have BK167 := n6_; have HB := n7_; clear n0_ n1_ n2_ n3_ n4_ n5_ n6_ n7_; clear hb ho39; obtain ⟨Ao40, co40, eo40⟩ := Kd.N_slice HO157.out; (first | subst eo40 | (injection eo40 with f1_ f2_ f3_; have f4_ := f1_.symm; have f5_ := f3_.symm; clear f1_ f2_ f3_; subst f4_; subst f5_))
 obtain ⟨Ao41, co41, eo41⟩ := Kd.N_slice HO172.out; (first | subst eo41 | (injection eo41 with f1_ f2_ f3_; have f4_ := f1_.symm; have f5_ := f3_.symm; clear f1_ f2_ f3_; subst f4_; subst f5_))
 refine hK.out _ _ ⟨(blk_cell BK167.out 0).trans rfl, (blk_cell BK167.out 1).trans rfl, (blk_cell BK167.out 2).trans rfl, (blk_cell BK167.out 3).trans rfl⟩ (fun hHeld => ?_); clear hK K; refine norm_ (a' := ?_) ?_ ?_; rotate_left
 ·
  show Act.put _ (some 62) _ = _
  simp only [Act.put, sIA, sC0, sCS, i64_w, i32_w]; rfl
 refine one_ (i := 30) (N := some 63) #[true, true, true, true, true, true, true, true, true, true, true, true, true, true, true, true, true, true, true, true, true, true, true, true, true, true, true, true, true, true, true, false, false, false, false, false, false, false, false, false, false, false, false, false, false, false, false, false] rfl rfl (one_of HT_.out (by kernel_rfl)) (by decide) (fun K hK => ?_); refine goes_ Tryd.func26 (by kernel_rfl) rfl #[.slice Ao40 [(⟨(⟨#[65, 45, 49]⟩ : ByteArray), 1, [(⟨0, 300⟩ : S46), (⟨500, 400⟩ : S46), (⟨1000, 300⟩ : S46)], 500⟩ : S27)].length co40, .slice Ao41 y170.length co41] (by rfl) rfl rfl (by (try simp only [List.map_toArray, List.map_cons, List.map_nil]); first | done | rfl | (simp only [List.length_drop, List.length_take]; rfl)) ?_; with_reducible refine (spileref09_Same.calls 400 _ _ [(⟨(⟨#[65, 45, 49]⟩ : ByteArray), 1, [(⟨0, 300⟩ : S46), (⟨500, 400⟩ : S46), (⟨1000, 300⟩ : S46)], 500⟩ : S27)] _ _ y170 true _ ?side1 ?side2 ?side3 ?side4 A9.out).mono ?_
 (case side1 => repeat (first | exact (Kd.N_reads' HO157.out).2.2 | (with_reducible refine Kd.C_alloc ?_ _) | (with_reducible refine Kd.C_drewN ?_ _) | (with_reducible refine Kd.C_drew ?_)))
 (case side2 => exact (Kd.N_reads' HO157.out).2.1)
 (case side3 => repeat (first | exact (Kd.N_reads' HO172.out).2.2 | (with_reducible refine Kd.C_alloc ?_ _) | (with_reducible refine Kd.C_drewN ?_ _) | (with_reducible refine Kd.C_drew ?_)))
 (case side4 => exact (Kd.N_reads' HO172.out).2.1)
 rintro e w42 ⟨rfl, hb⟩; refine ⟨_, rfl, ?_⟩; have n0_ := Aside0.mk (Kd.N_below (by (with_reducible repeat (first | apply Kd.N_alloc | apply Kd.N_drewN | apply Kd.N_drew)); exact HO155.out) hb); have n1_ := Aside0.mk (Kd.N_below (by (with_reducible repeat (first | apply Kd.N_alloc | apply Kd.N_drewN | apply Kd.N_drew)); exact HO157.out) hb); have n2_ := Aside0.mk (Kd.R_below (by (with_reducible repeat (first | apply Kd.R_alloc | apply Kd.R_drewN | apply Kd.R_drew)); exact HO159.out) hb); have n3_ := Aside0.mk (Kd.N_below (by (with_reducible repeat (first | apply Kd.N_alloc | apply Kd.N_drewN | apply Kd.N_drew)); exact HO164.out) hb); have n4_ := Aside0.mk (Kd.R_below (by (with_reducible repeat (first | apply Kd.R_alloc | apply Kd.R_drewN | apply Kd.R_drew)); exact HO166.out) hb); have n5_ := Aside0.mk (Kd.N_below (by (with_reducible repeat (first | apply Kd.N_alloc | apply Kd.N_drewN | apply Kd.N_drew)); exact HO172.out) hb); have n6_ := Aside0.mk (blk_below (g := gb167) (o := .cells #[.string (⟨#[65, 45, 49]⟩ : ByteArray), .int .i64 1, .slice Ao33 [(⟨0, 300⟩ : S46), (⟨500, 400⟩ : S46), (⟨1000, 300⟩ : S46)].length co33, .int .i64 500] 27 (0, 0)) (by (with_reducible repeat (first | refine blk_drewN ?_ _ | refine blk_drew ?_ | refine blk_alloc ?_ _)); exact BK167.out) hb); have n7_ := Aside0.mk (below_step (by repeat (first | (with_reducible first | exact HB.out | apply below_alloc | apply pw_below_drewN | apply below_drew1 | refine below_set ?_ GE167.out) | exact HB.out)) hb); clear HO155; clear HO157; clear HO159; clear HO164; clear HO166; clear HO172; clear BK167; clear HB; have HO155 := n0_; have HO157 := n1_; have HO159 := n2_; have HO164 := n3_; have HO166 := n4_; have HO172 := n5_; have BK167 := n6_; have HB := n7_; clear n0_ n1_ n2_ n3_ n4_ n5_ n6_ n7_; (try clear hb)
 (try clear hb2)
 (try clear hk)
 (try clear hi)
 refine hK.out _ _ ⟨(blk_cell BK167.out 0).trans rfl, (blk_cell BK167.out 1).trans rfl, (blk_cell BK167.out 2).trans rfl, (blk_cell BK167.out 3).trans rfl⟩ (fun hHeld => ?_); clear hK K; refine norm_ (a' := ?_) ?_ ?_; rotate_left
 ·
  show Act.put _ (some 63) _ = _
  simp only [Act.put, sIA, sC0, sCS, i64_w, i32_w]; rfl
 refine pure_ (i := 31) (N := some 64) (v := ?_) (a' := ?_) #[true, true, true, true, true, true, true, true, true, true, true, true, true, true, true, true, true, true, true, true, true, true, true, true, true, true, true, true, true, true, true, true, false, false, false, false, false, false, false, false, false, false, false, false, false, false, false, false] rfl rfl (any_of HT_.out (by kernel_rfl)) (fun _ _ _ h => h) (Or.inl ⟨by rfl, ?_⟩) ?_ ?_; rotate_left
 · intro w'; go_simp; with_reducible rfl
 rotate_left
 · simp only [Act.put, sIA, sC0, sCS, i64_w, i32_w]; rfl
 refine pure_ (i := 32) (N := some 65) (v := ?_) (a' := ?_) #[true, true, true, true, true, true, true, true, true, true, true, true, true, true, true, true, true, true, true, true, true, true, true, true, true, true, true, true, true, true, true, true, true, false, false, false, false, false, false, false, false, false, false, false, false, false, false, false] rfl rfl (any_of HT_.out (by kernel_rfl)) (fun _ _ _ h => h) (Or.inl ⟨by rfl, ?_⟩) ?_ ?_; rotate_left
 · intro w'; go_simp; with_reducible rfl
 rotate_left
 · simp only [Act.put, sIA, sC0, sCS, i64_w, i32_w]; rfl
 refine take_ (i := 33) (N := some 66) (v := ?_) (a' := ?_) #[true, true, true, true, true, true, true, true, true, true, true, true, true, true, true, true, true, true, true, true, true, true, true, true, true, true, true, true, true, true, true, true, true, true, false, false, false, false, false, false, false, false, false, false, false, false, false, false] rfl rfl (take_ofW HT_.out HW_.out (by kernel_rfl)) (fun _ _ _ h => h) (Or.inl ⟨by rfl, ?_⟩) hHeld ?_ ?_; rotate_left
 · rintro w' ⟨s0, s1, s2, s3⟩; go_simp; with_reducible rfl
 rotate_left
 · simp only [Act.put, sIA, sC0, sCS, i64_w, i32_w]; rfl
 refine one_ (i := 34) (N := some 67) #[true, true, true, true, true, true, true, true, true, true, true, true, true, true, true, true, true, true, true, true, true, true, true, true, true, true, true, true, true, true, true, true, true, true, true, false, false, false, false, false, false, false, false, false, false, false, false, false] rfl rfl (one_of HT_.out (by kernel_rfl)) (by decide) (fun K hK => ?_); refine goes_ Tryd.func31 (by kernel_rfl) rfl #[] (by rfl) rfl rfl (by (try simp only [List.map_toArray, List.map_cons, List.map_nil]); first | done | rfl | (simp only [List.length_drop, List.length_take]; rfl)) ?_; with_reducible refine (spilelaw09_Barrel.calls  (⟨#[65, 45, 49]⟩ : ByteArray) 1 [(⟨0, 300⟩ : S46), (⟨500, 400⟩ : S46), (⟨1000, 300⟩ : S46)] 500 _ A10.out).mono ?_
 rintro e w43 ⟨v173, rfl, ho0, hb⟩; refine ⟨_, rfl, ?_⟩; have n0_ := Aside0.mk (Kd.N_elder' (by (with_reducible repeat (first | apply Kd.N_alloc | apply Kd.N_drewN | apply Kd.N_drew)); exact HO155.out) (Kd.R_base ho0) hb); have n1_ := Aside0.mk (Kd.N_elder' (by (with_reducible repeat (first | apply Kd.N_alloc | apply Kd.N_drewN | apply Kd.N_drew)); exact HO157.out) (Kd.R_base ho0) hb); have n2_ := Aside0.mk (Kd.R_elder' (by (with_reducible repeat (first | apply Kd.R_alloc | apply Kd.R_drewN | apply Kd.R_drew)); exact HO159.out) (Kd.R_base ho0) hb); have n3_ := Aside0.mk (Kd.N_elder' (by (with_reducible repeat (first | apply Kd.N_alloc | apply Kd.N_drewN | apply Kd.N_drew)); exact HO164.out) (Kd.R_base ho0) hb); have n4_ := Aside0.mk (Kd.R_elder' (by (with_reducible repeat (first | apply Kd.R_alloc | apply Kd.R_drewN | apply Kd.R_drew)); exact HO166.out) (Kd.R_base ho0) hb); have n5_ := Aside0.mk (Kd.N_elder' (by (with_reducible repeat (first | apply Kd.N_alloc | apply Kd.N_drewN | apply Kd.N_drew)); exact HO172.out) (Kd.R_base ho0) hb); have n6_ := Aside0.mk (Kd.R_lower (Kd.R_new' (Kd.R_new' ho0 (Kd.R_lt (by (with_reducible repeat (first | apply Kd.R_alloc | apply Kd.R_drewN | apply Kd.R_drew)); exact HO159.out))) (Kd.R_lt (by (with_reducible repeat (first | apply Kd.R_alloc | apply Kd.R_drewN | apply Kd.R_drew)); exact HO166.out))) (below_size (by repeat (first | (with_reducible first | exact HB.out | apply below_alloc | apply pw_below_drewN | apply below_drew1 | refine below_set ?_ GE167.out) | exact HB.out)))); have n7_ := Aside0.mk (blk_below (g := gb167) (o := .cells #[.string (⟨#[65, 45, 49]⟩ : ByteArray), .int .i64 1, .slice Ao33 [(⟨0, 300⟩ : S46), (⟨500, 400⟩ : S46), (⟨1000, 300⟩ : S46)].length co33, .int .i64 500] 27 (0, 0)) (by (with_reducible repeat (first | refine blk_drewN ?_ _ | refine blk_drew ?_ | refine blk_alloc ?_ _)); exact BK167.out) hb); have n8_ := Aside0.mk (below_step (by repeat (first | (with_reducible first | exact HB.out | apply below_alloc | apply pw_below_drewN | apply below_drew1 | refine below_set ?_ GE167.out) | exact HB.out)) hb); clear HO155; clear HO157; clear HO159; clear HO164; clear HO166; clear HO172; clear BK167; clear HB; have HO155 := n0_; have HO157 := n1_; have HO159 := n2_; have HO164 := n3_; have HO166 := n4_; have HO172 := n5_; have HO174 := n6_; have BK167 := n7_; have HB := n8_; clear n0_ n1_ n2_ n3_ n4_ n5_ n6_ n7_ n8_; (try clear hb)
 (try clear hb2)
 (try clear hk)
 (try clear hi)
 (try clear ho0)
 obtain ⟨Ao44, co44, eo44⟩ := Kd.R_slice HO174.out; (first | subst eo44 | (injection eo44 with f1_ f2_ f3_; have f4_ := f1_.symm; have f5_ := f3_.symm; clear f1_ f2_ f3_; subst f4_; subst f5_))
 refine hK.out _ _ ⟨(blk_cell BK167.out 0).trans rfl, (blk_cell BK167.out 1).trans rfl, (blk_cell BK167.out 2).trans rfl, (blk_cell BK167.out 3).trans rfl⟩ (fun hHeld => ?_); clear hK K; refine norm_ (a' := ?_) ?_ ?_; rotate_left
 ·
  show Act.put _ (some 67) _ = _
  simp only [Act.put, sIA, sC0, sCS, i64_w, i32_w]; rfl
 refine one_ (i := 35) (N := some 68) #[true, true, true, true, true, true, true, true, true, true, true, true, true, true, true, true, true, true, true, true, true, true, true, true, true, true, true, true, true, true, true, true, true, true, true, true, false, false, false, false, false, false, false, false, false, false, false, false] rfl rfl (one_of HT_.out (by kernel_rfl)) (by decide) (fun K hK => ?_); refine goes_ Tryd.func15 (by kernel_rfl) rfl #[.agg #[.string (⟨#[65, 45, 49]⟩ : ByteArray), .int .i64 1, .slice Ao33 [(⟨0, 300⟩ : S46), (⟨500, 400⟩ : S46), (⟨1000, 300⟩ : S46)].length co33, .int .i64 500], .agg #[.string (⟨#[65, 45, 49]⟩ : ByteArray), .int .i64 1, .slice Ao44 [(⟨0, 300⟩ : S46), (⟨500, 400⟩ : S46), (⟨1000, 300⟩ : S46)].length co44, .int .i64 500]] (by rfl) rfl rfl (by (try simp only [List.map_toArray, List.map_cons, List.map_nil]); first | done | rfl | (simp only [List.length_drop, List.length_take]; rfl)) ?_; with_reducible refine (spileref09_SameCask.calls 400 (⟨#[65, 45, 49]⟩ : ByteArray) 1 _ _ [(⟨0, 300⟩ : S46), (⟨500, 400⟩ : S46), (⟨1000, 300⟩ : S46)] 500 (⟨#[65, 45, 49]⟩ : ByteArray) 1 _ _ [(⟨0, 300⟩ : S46), (⟨500, 400⟩ : S46), (⟨1000, 300⟩ : S46)] 500 true _ ?side1 ?side2 ?side3 ?side4 A11.out).mono ?_
 (case side1 => repeat (first | exact (Kd.R_reads' HO166.out).2.2 | (with_reducible refine Kd.C_alloc ?_ _) | (with_reducible refine Kd.C_drewN ?_ _) | (with_reducible refine Kd.C_drew ?_)))
 (case side2 => exact (Kd.R_reads' HO166.out).2.1)
 (case side3 => repeat (first | exact (Kd.R_reads' HO174.out).2.2 | (with_reducible refine Kd.C_alloc ?_ _) | (with_reducible refine Kd.C_drewN ?_ _) | (with_reducible refine Kd.C_drew ?_)))
 (case side4 => exact (Kd.R_reads' HO174.out).2.1)
 rintro e w45 ⟨rfl, hb⟩; refine ⟨_, rfl, ?_⟩; have n0_ := Aside0.mk (Kd.N_below (by (with_reducible repeat (first | apply Kd.N_alloc | apply Kd.N_drewN | apply Kd.N_drew)); exact HO155.out) hb); have n1_ := Aside0.mk (Kd.N_below (by (with_reducible repeat (first | apply Kd.N_alloc | apply Kd.N_drewN | apply Kd.N_drew)); exact HO157.out) hb); have n2_ := Aside0.mk (Kd.R_below (by (with_reducible repeat (first | apply Kd.R_alloc | apply Kd.R_drewN | apply Kd.R_drew)); exact HO159.out) hb); have n3_ := Aside0.mk (Kd.N_below (by (with_reducible repeat (first | apply Kd.N_alloc | apply Kd.N_drewN | apply Kd.N_drew)); exact HO164.out) hb); have n4_ := Aside0.mk (Kd.R_below (by (with_reducible repeat (first | apply Kd.R_alloc | apply Kd.R_drewN | apply Kd.R_drew)); exact HO166.out) hb); have n5_ := Aside0.mk (Kd.N_below (by (with_reducible repeat (first | apply Kd.N_alloc | apply Kd.N_drewN | apply Kd.N_drew)); exact HO172.out) hb); have n6_ := Aside0.mk (Kd.R_below (by (with_reducible repeat (first | apply Kd.R_alloc | apply Kd.R_drewN | apply Kd.R_drew)); exact HO174.out) hb); have n7_ := Aside0.mk (blk_below (g := gb167) (o := .cells #[.string (⟨#[65, 45, 49]⟩ : ByteArray), .int .i64 1, .slice Ao33 [(⟨0, 300⟩ : S46), (⟨500, 400⟩ : S46), (⟨1000, 300⟩ : S46)].length co33, .int .i64 500] 27 (0, 0)) (by (with_reducible repeat (first | refine blk_drewN ?_ _ | refine blk_drew ?_ | refine blk_alloc ?_ _)); exact BK167.out) hb); have n8_ := Aside0.mk (below_step (by repeat (first | (with_reducible first | exact HB.out | apply below_alloc | apply pw_below_drewN | apply below_drew1 | refine below_set ?_ GE167.out) | exact HB.out)) hb); clear HO155; clear HO157; clear HO159; clear HO164; clear HO166; clear HO172; clear HO174; clear BK167; clear HB; have HO155 := n0_; have HO157 := n1_; have HO159 := n2_; have HO164 := n3_; have HO166 := n4_; have HO172 := n5_; have HO174 := n6_; have BK167 := n7_; have HB := n8_; clear n0_ n1_ n2_ n3_ n4_ n5_ n6_ n7_ n8_; (try clear hb)
 (try clear hb2)
 (try clear hk)
 (try clear hi)
 refine hK.out _ _ ⟨(blk_cell BK167.out 0).trans rfl, (blk_cell BK167.out 1).trans rfl, (blk_cell BK167.out 2).trans rfl, (blk_cell BK167.out 3).trans rfl⟩ (fun hHeld => ?_); clear hK K; refine norm_ (a' := ?_) ?_ ?_; rotate_left
 ·
  show Act.put _ (some 68) _ = _
  simp only [Act.put, sIA, sC0, sCS, i64_w, i32_w]; rfl
 refine pure_ (i := 36) (N := some 69) (v := ?_) (a' := ?_) #[true, true, true, true, true, true, true, true, true, true, true, true, true, true, true, true, true, true, true, true, true, true, true, true, true, true, true, true, true, true, true, true, true, true, true, true, true, false, false, false, false, false, false, false, false, false, false, false] rfl rfl (any_of HT_.out (by kernel_rfl)) (fun _ _ _ h => h) (Or.inl ⟨by rfl, ?_⟩) ?_ ?_; rotate_left
 · intro w'; go_simp; with_reducible rfl
 rotate_left
 · simp only [Act.put, sIA, sC0, sCS, i64_w, i32_w]; rfl
 refine pure_ (i := 37) (N := some 70) (v := ?_) (a' := ?_) #[true, true, true, true, true, true, true, true, true, true, true, true, true, true, true, true, true, true, true, true, true, true, true, true, true, true, true, true, true, true, true, true, true, true, true, true, true, true, false, false, false, false, false, false, false, false, false, false] rfl rfl (any_of HT_.out (by kernel_rfl)) (fun _ _ _ h => h) (Or.inl ⟨by rfl, ?_⟩) ?_ ?_; rotate_left
 · intro w'; go_simp; with_reducible rfl
 rotate_left
 · simp only [Act.put, sIA, sC0, sCS, i64_w, i32_w]; rfl
 refine one_ (i := 38) (N := some 71) #[true, true, true, true, true, true, true, true, true, true, true, true, true, true, true, true, true, true, true, true, true, true, true, true, true, true, true, true, true, true, true, true, true, true, true, true, true, true, true, false, false, false, false, false, false, false, false, false] rfl rfl (one_of HT_.out (by kernel_rfl)) (by decide) (fun K hK => ?_); refine goes_ Tryd.func31 (by kernel_rfl) rfl #[] (by rfl) rfl rfl (by (try simp only [List.map_toArray, List.map_cons, List.map_nil]); first | done | rfl | (simp only [List.length_drop, List.length_take]; rfl)) ?_; with_reducible refine (spilelaw09_Barrel.calls  (⟨#[65, 45, 49]⟩ : ByteArray) 1 [(⟨0, 300⟩ : S46), (⟨500, 400⟩ : S46), (⟨1000, 300⟩ : S46)] 500 _ A12.out).mono ?_
 rintro e w46 ⟨v175, rfl, ho0, hb⟩; refine ⟨_, rfl, ?_⟩; have n0_ := Aside0.mk (Kd.N_elder' (by (with_reducible repeat (first | apply Kd.N_alloc | apply Kd.N_drewN | apply Kd.N_drew)); exact HO155.out) (Kd.R_base ho0) hb); have n1_ := Aside0.mk (Kd.N_elder' (by (with_reducible repeat (first | apply Kd.N_alloc | apply Kd.N_drewN | apply Kd.N_drew)); exact HO157.out) (Kd.R_base ho0) hb); have n2_ := Aside0.mk (Kd.R_elder' (by (with_reducible repeat (first | apply Kd.R_alloc | apply Kd.R_drewN | apply Kd.R_drew)); exact HO159.out) (Kd.R_base ho0) hb); have n3_ := Aside0.mk (Kd.N_elder' (by (with_reducible repeat (first | apply Kd.N_alloc | apply Kd.N_drewN | apply Kd.N_drew)); exact HO164.out) (Kd.R_base ho0) hb); have n4_ := Aside0.mk (Kd.R_elder' (by (with_reducible repeat (first | apply Kd.R_alloc | apply Kd.R_drewN | apply Kd.R_drew)); exact HO166.out) (Kd.R_base ho0) hb); have n5_ := Aside0.mk (Kd.N_elder' (by (with_reducible repeat (first | apply Kd.N_alloc | apply Kd.N_drewN | apply Kd.N_drew)); exact HO172.out) (Kd.R_base ho0) hb); have n6_ := Aside0.mk (Kd.R_elder' (by (with_reducible repeat (first | apply Kd.R_alloc | apply Kd.R_drewN | apply Kd.R_drew)); exact HO174.out) (Kd.R_base ho0) hb); have n7_ := Aside0.mk (Kd.R_lower (Kd.R_new' (Kd.R_new' (Kd.R_new' ho0 (Kd.R_lt (by (with_reducible repeat (first | apply Kd.R_alloc | apply Kd.R_drewN | apply Kd.R_drew)); exact HO159.out))) (Kd.R_lt (by (with_reducible repeat (first | apply Kd.R_alloc | apply Kd.R_drewN | apply Kd.R_drew)); exact HO166.out))) (Kd.R_lt (by (with_reducible repeat (first | apply Kd.R_alloc | apply Kd.R_drewN | apply Kd.R_drew)); exact HO174.out))) (below_size (by repeat (first | (with_reducible first | exact HB.out | apply below_alloc | apply pw_below_drewN | apply below_drew1 | refine below_set ?_ GE167.out) | exact HB.out)))); have n8_ := Aside0.mk (blk_below (g := gb167) (o := .cells #[.string (⟨#[65, 45, 49]⟩ : ByteArray), .int .i64 1, .slice Ao33 [(⟨0, 300⟩ : S46), (⟨500, 400⟩ : S46), (⟨1000, 300⟩ : S46)].length co33, .int .i64 500] 27 (0, 0)) (by (with_reducible repeat (first | refine blk_drewN ?_ _ | refine blk_drew ?_ | refine blk_alloc ?_ _)); exact BK167.out) hb); have n9_ := Aside0.mk (below_step (by repeat (first | (with_reducible first | exact HB.out | apply below_alloc | apply pw_below_drewN | apply below_drew1 | refine below_set ?_ GE167.out) | exact HB.out)) hb); clear HO155; clear HO157; clear HO159; clear HO164; clear HO166; clear HO172; clear HO174; clear BK167; clear HB; have HO155 := n0_; have HO157 := n1_; have HO159 := n2_; have HO164 := n3_; have HO166 := n4_; have HO172 := n5_; have HO174 := n6_; have HO176 := n7_; have BK167 := n8_; have HB := n9_; clear n0_ n1_ n2_ n3_ n4_ n5_ n6_ n7_ n8_ n9_; (try clear hb)
 (try clear hb2)
 (try clear hk)
 (try clear hi)
 (try clear ho0)
 obtain ⟨Ao47, co47, eo47⟩ := Kd.R_slice HO176.out; (first | subst eo47 | (injection eo47 with f1_ f2_ f3_; have f4_ := f1_.symm; have f5_ := f3_.symm; clear f1_ f2_ f3_; subst f4_; subst f5_))
 refine hK.out _ _ ⟨(blk_cell BK167.out 0).trans rfl, (blk_cell BK167.out 1).trans rfl, (blk_cell BK167.out 2).trans rfl, (blk_cell BK167.out 3).trans rfl⟩ (fun hHeld => ?_); clear hK K; refine norm_ (a' := ?_) ?_ ?_; rotate_left
 ·
  show Act.put _ (some 71) _ = _
  simp only [Act.put, sIA, sC0, sCS, i64_w, i32_w]; rfl
 refine one_ (i := 39) (N := some 72) #[true, true, true, true, true, true, true, true, true, true, true, true, true, true, true, true, true, true, true, true, true, true, true, true, true, true, true, true, true, true, true, true, true, true, true, true, true, true, true, true, false, false, false, false, false, false, false, false] rfl rfl (one_of HT_.out (by kernel_rfl)) (by decide) (fun K hK => ?_); refine goes_ Tryd.func20 (by kernel_rfl) rfl #[.agg #[.string (⟨#[65, 45, 49]⟩ : ByteArray), .int .i64 1, .slice Ao47 [(⟨0, 300⟩ : S46), (⟨500, 400⟩ : S46), (⟨1000, 300⟩ : S46)].length co47, .int .i64 500]] (by rfl) rfl rfl (by (try simp only [List.map_toArray, List.map_cons, List.map_nil]); first | done | rfl | (simp only [List.length_drop, List.length_take]; rfl)) ?_; with_reducible refine (cask_Check.calls 400 (⟨#[65, 45, 49]⟩ : ByteArray) 1 _ _ [(⟨0, 300⟩ : S46), (⟨500, 400⟩ : S46), (⟨1000, 300⟩ : S46)] 500 0 _ ?side1 ?side2 A13.out).mono ?_
 (case side1 => repeat (first | exact (Kd.R_reads' HO176.out).2.2 | (with_reducible refine Kd.C_alloc ?_ _) | (with_reducible refine Kd.C_drewN ?_ _) | (with_reducible refine Kd.C_drew ?_)))
 (case side2 => exact (Kd.R_reads' HO176.out).2.1)
 rintro e w48 ⟨rfl, hb⟩; refine ⟨_, rfl, ?_⟩; have n0_ := Aside0.mk (Kd.N_below (by (with_reducible repeat (first | apply Kd.N_alloc | apply Kd.N_drewN | apply Kd.N_drew)); exact HO155.out) hb); have n1_ := Aside0.mk (Kd.N_below (by (with_reducible repeat (first | apply Kd.N_alloc | apply Kd.N_drewN | apply Kd.N_drew)); exact HO157.out) hb); have n2_ := Aside0.mk (Kd.R_below (by (with_reducible repeat (first | apply Kd.R_alloc | apply Kd.R_drewN | apply Kd.R_drew)); exact HO159.out) hb); have n3_ := Aside0.mk (Kd.N_below (by (with_reducible repeat (first | apply Kd.N_alloc | apply Kd.N_drewN | apply Kd.N_drew)); exact HO164.out) hb); have n4_ := Aside0.mk (Kd.R_below (by (with_reducible repeat (first | apply Kd.R_alloc | apply Kd.R_drewN | apply Kd.R_drew)); exact HO166.out) hb); have n5_ := Aside0.mk (Kd.N_below (by (with_reducible repeat (first | apply Kd.N_alloc | apply Kd.N_drewN | apply Kd.N_drew)); exact HO172.out) hb); have n6_ := Aside0.mk (Kd.R_below (by (with_reducible repeat (first | apply Kd.R_alloc | apply Kd.R_drewN | apply Kd.R_drew)); exact HO174.out) hb); have n7_ := Aside0.mk (Kd.R_below (by (with_reducible repeat (first | apply Kd.R_alloc | apply Kd.R_drewN | apply Kd.R_drew)); exact HO176.out) hb); have n8_ := Aside0.mk (blk_below (g := gb167) (o := .cells #[.string (⟨#[65, 45, 49]⟩ : ByteArray), .int .i64 1, .slice Ao33 [(⟨0, 300⟩ : S46), (⟨500, 400⟩ : S46), (⟨1000, 300⟩ : S46)].length co33, .int .i64 500] 27 (0, 0)) (by (with_reducible repeat (first | refine blk_drewN ?_ _ | refine blk_drew ?_ | refine blk_alloc ?_ _)); exact BK167.out) hb); have n9_ := Aside0.mk (below_step (by repeat (first | (with_reducible first | exact HB.out | apply below_alloc | apply pw_below_drewN | apply below_drew1 | refine below_set ?_ GE167.out) | exact HB.out)) hb); clear HO155; clear HO157; clear HO159; clear HO164; clear HO166; clear HO172; clear HO174; clear HO176; clear BK167; clear HB; have HO155 := n0_; have HO157 := n1_; have HO159 := n2_; have HO164 := n3_; have HO166 := n4_; have HO172 := n5_; have HO174 := n6_; have HO176 := n7_; have BK167 := n8_; have HB := n9_; clear n0_ n1_ n2_ n3_ n4_ n5_ n6_ n7_ n8_ n9_; (try clear hb)
 (try clear hb2)
 (try clear hk)
 (try clear hi)
 refine hK.out _ _ ⟨(blk_cell BK167.out 0).trans rfl, (blk_cell BK167.out 1).trans rfl, (blk_cell BK167.out 2).trans rfl, (blk_cell BK167.out 3).trans rfl⟩ (fun hHeld => ?_); clear hK K; refine norm_ (a' := ?_) ?_ ?_; rotate_left
 ·
  show Act.put _ (some 72) _ = _
  simp only [Act.put, sIA, sC0, sCS, i64_w, i32_w]; rfl
 refine pure_ (i := 40) (N := some 73) (v := ?_) (a' := ?_) #[true, true, true, true, true, true, true, true, true, true, true, true, true, true, true, true, true, true, true, true, true, true, true, true, true, true, true, true, true, true, true, true, true, true, true, true, true, true, true, true, true, false, false, false, false, false, false, false] rfl rfl (any_of HT_.out (by kernel_rfl)) (fun _ _ _ h => h) (Or.inl ⟨by rfl, ?_⟩) ?_ ?_; rotate_left
 · intro w'; go_simp; with_reducible rfl
 rotate_left
 · simp only [Act.put, sIA, sC0, sCS, i64_w, i32_w]; rfl
 refine pure_ (i := 41) (N := some 74) (v := ?_) (a' := ?_) #[true, true, true, true, true, true, true, true, true, true, true, true, true, true, true, true, true, true, true, true, true, true, true, true, true, true, true, true, true, true, true, true, true, true, true, true, true, true, true, true, true, true, false, false, false, false, false, false] rfl rfl (any_of HT_.out (by kernel_rfl)) (fun _ _ _ h => h) (Or.inl ⟨by rfl, ?_⟩) ?_ ?_; rotate_left
 · intro w'; go_simp; with_reducible rfl
 rotate_left
 · simp only [Act.put, sIA, sC0, sCS, i64_w, i32_w]; rfl
 refine pure_ (i := 42) (N := some 75) (v := ?_) (a' := ?_) #[true, true, true, true, true, true, true, true, true, true, true, true, true, true, true, true, true, true, true, true, true, true, true, true, true, true, true, true, true, true, true, true, true, true, true, true, true, true, true, true, true, true, true, false, false, false, false, false] rfl rfl (any_of HT_.out (by kernel_rfl)) (fun _ _ _ h => h) (Or.inl ⟨by rfl, ?_⟩) ?_ ?_; rotate_left
 · intro w'; go_simp; with_reducible rfl
 rotate_left
 · simp only [Act.put, sIA, sC0, sCS, i64_w, i32_w]; rfl
 refine pure_ (i := 43) (N := some 76) (v := ?_) (a' := ?_) #[true, true, true, true, true, true, true, true, true, true, true, true, true, true, true, true, true, true, true, true, true, true, true, true, true, true, true, true, true, true, true, true, true, true, true, true, true, true, true, true, true, true, true, true, false, false, false, false] rfl rfl (any_of HT_.out (by kernel_rfl)) (fun _ _ _ h => h) (Or.inl ⟨by rfl, ?_⟩) ?_ ?_; rotate_left
 · intro w'; go_simp; with_reducible rfl
 rotate_left
 · simp only [Act.put, sIA, sC0, sCS, i64_w, i32_w]; rfl
 refine one_ (i := 44) (N := some 77) #[true, true, true, true, true, true, true, true, true, true, true, true, true, true, true, true, true, true, true, true, true, true, true, true, true, true, true, true, true, true, true, true, true, true, true, true, true, true, true, true, true, true, true, true, true, false, false, false] rfl rfl (one_of HT_.out (by kernel_rfl)) (by decide) (fun K hK => ?_); refine goes_ Tryd.func16 (by kernel_rfl) rfl #[.slice Ao40 [(⟨(⟨#[65, 45, 49]⟩ : ByteArray), 1, [(⟨0, 300⟩ : S46), (⟨500, 400⟩ : S46), (⟨1000, 300⟩ : S46)], 500⟩ : S27)].length co40] (by rfl) rfl rfl (by (try simp only [List.map_toArray, List.map_cons, List.map_nil]); first | done | rfl | (simp only [List.length_drop, List.length_take]; rfl)) ?_; with_reducible refine (cask_List.calls 400 _ _ [(⟨(⟨#[65, 45, 49]⟩ : ByteArray), 1, [(⟨0, 300⟩ : S46), (⟨500, 400⟩ : S46), (⟨1000, 300⟩ : S46)], 500⟩ : S27)] 0 _ ?side1 ?side2 A14.out).mono ?_
 (case side1 => repeat (first | exact (Kd.N_reads' HO157.out).2.2 | (with_reducible refine Kd.C_alloc ?_ _) | (with_reducible refine Kd.C_drewN ?_ _) | (with_reducible refine Kd.C_drew ?_)))
 (case side2 => exact (Kd.N_reads' HO157.out).2.1)
 rintro e w49 ⟨rfl, hb⟩; refine ⟨_, rfl, ?_⟩; have n0_ := Aside0.mk (Kd.N_below (by (with_reducible repeat (first | apply Kd.N_alloc | apply Kd.N_drewN | apply Kd.N_drew)); exact HO155.out) hb); have n1_ := Aside0.mk (Kd.N_below (by (with_reducible repeat (first | apply Kd.N_alloc | apply Kd.N_drewN | apply Kd.N_drew)); exact HO157.out) hb); have n2_ := Aside0.mk (Kd.R_below (by (with_reducible repeat (first | apply Kd.R_alloc | apply Kd.R_drewN | apply Kd.R_drew)); exact HO159.out) hb); have n3_ := Aside0.mk (Kd.N_below (by (with_reducible repeat (first | apply Kd.N_alloc | apply Kd.N_drewN | apply Kd.N_drew)); exact HO164.out) hb); have n4_ := Aside0.mk (Kd.R_below (by (with_reducible repeat (first | apply Kd.R_alloc | apply Kd.R_drewN | apply Kd.R_drew)); exact HO166.out) hb); have n5_ := Aside0.mk (Kd.N_below (by (with_reducible repeat (first | apply Kd.N_alloc | apply Kd.N_drewN | apply Kd.N_drew)); exact HO172.out) hb); have n6_ := Aside0.mk (Kd.R_below (by (with_reducible repeat (first | apply Kd.R_alloc | apply Kd.R_drewN | apply Kd.R_drew)); exact HO174.out) hb); have n7_ := Aside0.mk (Kd.R_below (by (with_reducible repeat (first | apply Kd.R_alloc | apply Kd.R_drewN | apply Kd.R_drew)); exact HO176.out) hb); have n8_ := Aside0.mk (blk_below (g := gb167) (o := .cells #[.string (⟨#[65, 45, 49]⟩ : ByteArray), .int .i64 1, .slice Ao33 [(⟨0, 300⟩ : S46), (⟨500, 400⟩ : S46), (⟨1000, 300⟩ : S46)].length co33, .int .i64 500] 27 (0, 0)) (by (with_reducible repeat (first | refine blk_drewN ?_ _ | refine blk_drew ?_ | refine blk_alloc ?_ _)); exact BK167.out) hb); have n9_ := Aside0.mk (below_step (by repeat (first | (with_reducible first | exact HB.out | apply below_alloc | apply pw_below_drewN | apply below_drew1 | refine below_set ?_ GE167.out) | exact HB.out)) hb); clear HO155; clear HO157; clear HO159; clear HO164; clear HO166; clear HO172; clear HO174; clear HO176; clear BK167; clear HB; have HO155 := n0_; have HO157 := n1_; have HO159 := n2_; have HO164 := n3_; have HO166 := n4_; have HO172 := n5_; have HO174 := n6_; have HO176 := n7_; have BK167 := n8_; have HB := n9_; clear n0_ n1_ n2_ n3_ n4_ n5_ n6_ n7_ n8_ n9_; (try clear hb)
 (try clear hb2)
 (try clear hk)
 (try clear hi)
 refine hK.out _ _ ⟨(blk_cell BK167.out 0).trans rfl, (blk_cell BK167.out 1).trans rfl, (blk_cell BK167.out 2).trans rfl, (blk_cell BK167.out 3).trans rfl⟩ (fun hHeld => ?_); clear hK K; refine norm_ (a' := ?_) ?_ ?_; rotate_left
 ·
  show Act.put _ (some 77) _ = _
  simp only [Act.put, sIA, sC0, sCS, i64_w, i32_w]; rfl
 refine pure_ (i := 45) (N := some 78) (v := ?_) (a' := ?_) #[true, true, true, true, true, true, true, true, true, true, true, true, true, true, true, true, true, true, true, true, true, true, true, true, true, true, true, true, true, true, true, true, true, true, true, true, true, true, true, true, true, true, true, true, true, true, false, false] rfl rfl (any_of HT_.out (by kernel_rfl)) (fun _ _ _ h => h) (Or.inl ⟨by rfl, ?_⟩) ?_ ?_; rotate_left
 · intro w'; go_simp; with_reducible rfl
 rotate_left
 · simp only [Act.put, sIA, sC0, sCS, i64_w, i32_w]; rfl
 refine pure_ (i := 46) (N := some 79) (v := ?_) (a' := ?_) #[true, true, true, true, true, true, true, true, true, true, true, true, true, true, true, true, true, true, true, true, true, true, true, true, true, true, true, true, true, true, true, true, true, true, true, true, true, true, true, true, true, true, true, true, true, true, true, false] rfl rfl (any_of HT_.out (by kernel_rfl)) (fun _ _ _ h => h) (Or.inl ⟨by rfl, ?_⟩) ?_ ?_; rotate_left
 · intro w'; go_simp; with_reducible rfl
 rotate_left
 · simp only [Act.put, sIA, sC0, sCS, i64_w, i32_w]; rfl
 refine pure_ (i := 47) (N := some 0) (v := ?_) (a' := ?_) #[true, true, true, true, true, true, true, true, true, true, true, true, true, true, true, true, true, true, true, true, true, true, true, true, true, true, true, true, true, true, true, true, true, true, true, true, true, true, true, true, true, true, true, true, true, true, true, true] rfl rfl (any_of HT_.out (by kernel_rfl)) (fun _ _ _ h => h) (Or.inl ⟨by rfl, ?_⟩) ?_ ?_; rotate_left
 · intro w'; go_simp; with_reducible rfl
 rotate_left
 · simp only [Act.put, sIA, sC0, sCS, i64_w, i32_w]; rfl
 refine done_ (done_of HT_.out (by kernel_rfl)) ?_; try go_wp2
 go_ret
 exact ⟨by first | rfl | (simp [errW_none, errW_some] <;> rfl) | (simp [*, errW_none, errW_some] <;> rfl), by repeat (first | (with_reducible first | exact HB.out | apply below_alloc | apply pw_below_drewN | apply below_drew1 | refine below_set ?_ GE167.out) | exact HB.out)⟩
def spileref08_Few.f (l0 : List (S46)) : Option (Bool) := some (decide ((l0.length : Int) ≤ 33))
set_option maxHeartbeats 8000000 in
set_option maxRecDepth 100000 in
theorem spileref08_Few.calls (A0 : Option Addr) (c0 : Nat) (l0 : List (S46)) (r : Bool) (w : World) (hr0 : Kd.C k46 w A0 l0.length l0) (hc0 : l0.length ≤ c0) (h : spileref08_Few.f l0 = some r) :
  Calls Tryd.prog 32 #[.slice A0 l0.length c0] w fun e w' => e = .returned (.bool r) ∧ Drawn0 w w' := by
 have HR0 := Aside0.mk hr0; have HC0 := Aside0.mk hc0; clear hr0 hc0; have H : (some (decide ((l0.length : Int) ≤ 33))) = some r := h; clear h; obtain rfl := Option.some.inj H; go_enter Tryd.func32, Tryd.ntmps32
 go_wp2; go_ret
 exact ⟨by first | rfl | (simp; done) | (simp [*]; done), by repeat (first | exact Drawn0.refl _ | apply Drawn0.step)⟩
end Go.Proofs.YtnhmlneebnkjcaaDoor.Pr
namespace Go.Proofs.YtnhmlneebnkjcaaDoor.Pr
open Go.RowKit Go.Proofs.YtnhmlneebnkjcaaDoorW.PrintWords Go.Proofs.YtnhmlneebnkjcaaDoorW.PrintLast Go.Proofs.YtnhmlneebnkjcaaDoorW.PrintMore Go.Proofs.YtnhmlneebnkjcaaDoor.X
attribute [local go_sem] max2_int min2_int max_two min_two max_three min_three max_four min_four   -- for this text's walks alone
set_option linter.unusedVariables false
set_option linter.unusedSimpArgs false
def spileref09_Few.l0 : Nat → List (S27) → Int → Option (Bool)
 | 0, _, _ => none
 | k + 1, x0, x3 => if x3 < (x0.length : Int) then (if 0 ≤ x3 then ((spileref08_Few.f ((rd_T27 x0 x3).f2)).bind fun t178 => (if t178 = true then (if (((rd_T27 x0 x3).f0).size : Int) > 70 then (some false) else (spileref09_Few.l0 k x0 (wrap64 (x3 + 1)))) else (some false))) else (none)) else (some (decide ((x0.length : Int) ≤ 33)))
def spileref09_Few.f (k : Nat) (l0 : List (S27)) : Option (Bool) := spileref09_Few.l0 k l0 0
set_option maxHeartbeats 8000000 in
set_option maxRecDepth 100000 in
theorem spileref09_Few.calls (k : Nat) (A0 : Option Addr) (c0 : Nat) (l0 : List (S27)) (r : Bool) (w : World) (hr0 : Kd.C k27 w A0 l0.length l0) (hc0 : l0.length ≤ c0) (h : spileref09_Few.f k l0 = some r) :
  Calls Tryd.prog 11 #[.slice A0 l0.length c0] w fun e w' => e = .returned (.bool r) ∧ Drawn0 w w' := by
 have HR0 := Aside0.mk hr0; have HC0 := Aside0.mk hc0; clear hr0 hc0; have H : (spileref09_Few.l0 k l0 0) = some r := h; clear h; have H' := Aside0.mk H; clear H; go_enter Tryd.func11, Tryd.ntmps11
 go_wp2; go_loopg [3] k (fun kq v3 w' => ∃ (x3_1 : Int), v3 = .int .i64 x3_1 ∧ Aside0 (spileref09_Few.l0 kq l0 x3_1 = some r) ∧ Aside0 (kq ≤ k) ∧ Drawn0 w w')
 case atStart => exact ⟨(0), (by first | rfl | (simp; done) | (simp [*]; done)), H', ⟨Nat.le_refl _⟩, by repeat (first | exact Drawn0.refl _ | apply Drawn0.step)⟩
 case round =>
  clear H'; try clear c1
  obtain ⟨x3_1, rfl, HA, HK1, ⟨m1, rfl⟩⟩ := hrel
  cases gk with
  | zero => exact absurd HA.out (by simp [spileref09_Few.l0])
  | succ k1 =>
   have H := HA.out; clear HA; simp only [spileref09_Few.l0] at H; by_cases c2 : x3_1 < (l0.length : Int)
   ·
    rw [if_pos c2] at H; have c2b0 : decide (x3_1 < (l0.length : Int)) = true := decide_eq_true c2; clear c2; by_cases c3 : 0 ≤ x3_1
    ·
     rw [if_pos c3] at H; have c3b0 : decide (0 ≤ x3_1) = true := decide_eq_true c3; clear c3; replace H := Option.bind_eq_some_iff.mp H; obtain ⟨t178, A40, H⟩ := H; replace H : (if t178 = true then (if (((rd_T27 l0 x3_1).f0).size : Int) > 70 then (some false) else (spileref09_Few.l0 k1 l0 (wrap64 (x3_1 + 1)))) else (some false)) = some r := H; have A4 := Aside0.mk A40; clear A40; by_cases c5 : t178 = true
     ·
      subst c5; have H1 : (if (((rd_T27 l0 x3_1).f0).size : Int) > 70 then (some false) else (spileref09_Few.l0 k1 l0 (wrap64 (x3_1 + 1)))) = some r := by rw [if_pos rfl] at H; exact H
      clear H; have H := H1; clear H1; by_cases c6 : (((rd_T27 l0 x3_1).f0).size : Int) > 70
      ·
       rw [if_pos c6] at H; have c6b0 : decide (70 < (((rd_T27 l0 x3_1).f0).size : Int)) = true := decide_eq_true c6; have c6b1 : decide (70 < ((rd_T27 l0 x3_1).f0).size) = true := decide_eq_true (by omega); clear c6; obtain rfl := Option.some.inj H; have p177 : 0 ≤ (x3_1 : Int) := of_decide_eq_true (by first | (with_reducible assumption) | assumption); have q177 : x3_1 < (l0.length : Int) := of_decide_eq_true (by first | (with_reducible assumption) | assumption); obtain ⟨ad177, A177_2, c177_2, e177, hx177_0, hx177_1, hx177_2, hx177_3, hl177_2, hi177_2⟩ := at_T27 HR0.out x3_1 p177 q177; cases e177; have HR177_2 := Aside0.mk hi177_2; have HC177_2 := Aside0.mk hl177_2; clear hi177_2 hl177_2; replace p177 := eq_true p177; replace q177 := eq_true q177; go_wp2_with (first | ((with_reducible refine gate_callee (f := 32) rfl ?_); refine goesL_ (some 15) rfl rfl Tryd.func32 (by kernel_rfl) rfl #[.slice A177_2 ((rd_T27 l0 x3_1).f2).length c177_2] rfl (by (try simp only [List.map_toArray, List.map_cons, List.map_nil]); first | done | rfl | (simp only [List.length_drop, List.length_take]; rfl)) ?_; (with_reducible refine (spileref08_Few.calls _ _ ((rd_T27 l0 x3_1).f2) true _ ?side1 ?side2 A4.out).mono ?_); (case side1 => repeat (first | exact HR177_2.out | (with_reducible refine Kd.C_alloc ?_ _) | (with_reducible refine Kd.C_drewN ?_ _) | (with_reducible refine Kd.C_drew ?_))); (case side2 => exact HC177_2.out); rintro e w' ⟨rfl, ⟨nd, rfl⟩⟩; refine ⟨_, rfl, ?_⟩; have p179 : 0 ≤ (x3_1 : Int) := of_decide_eq_true (by first | (with_reducible assumption) | assumption); have q179 : x3_1 < (l0.length : Int) := of_decide_eq_true (by first | (with_reducible assumption) | assumption); obtain ⟨ad179, A179_2, c179_2, e179, hx179_0, hx179_1, hx179_2, hx179_3, hl179_2, hi179_2⟩ := at_T27 HR0.out x3_1 p179 q179; obtain rfl : ad177 = ad179 := (by injection e179); have HR179_2 := Aside0.mk hi179_2; have HC179_2 := Aside0.mk hl179_2; clear hi179_2 hl179_2; replace p179 := eq_true p179; replace q179 := eq_true q179; have ea_ := Option.some.inj (hx177_2.symm.trans hx179_2); injection ea_ with ea_ en_ ec_; subst ea_; subst ec_; clear en_))
       go_ret
       exact ⟨by first | rfl | (simp; done) | (simp [*]; done), by repeat (first | exact Drawn0.refl _ | apply Drawn0.step)⟩
      ·
       rw [if_neg c6] at H; have c6b0 : decide (70 < (((rd_T27 l0 x3_1).f0).size : Int)) = false := decide_eq_false c6; have c6b1 : decide (70 < ((rd_T27 l0 x3_1).f0).size) = false := decide_eq_false (by omega); clear c6; have H' := Aside0.mk H; clear H; have p177 : 0 ≤ (x3_1 : Int) := of_decide_eq_true (by first | (with_reducible assumption) | assumption); have q177 : x3_1 < (l0.length : Int) := of_decide_eq_true (by first | (with_reducible assumption) | assumption); obtain ⟨ad177, A177_2, c177_2, e177, hx177_0, hx177_1, hx177_2, hx177_3, hl177_2, hi177_2⟩ := at_T27 HR0.out x3_1 p177 q177; cases e177; have HR177_2 := Aside0.mk hi177_2; have HC177_2 := Aside0.mk hl177_2; clear hi177_2 hl177_2; replace p177 := eq_true p177; replace q177 := eq_true q177; go_wp2_with (first | ((with_reducible refine gate_callee (f := 32) rfl ?_); refine goesL_ (some 15) rfl rfl Tryd.func32 (by kernel_rfl) rfl #[.slice A177_2 ((rd_T27 l0 x3_1).f2).length c177_2] rfl (by (try simp only [List.map_toArray, List.map_cons, List.map_nil]); first | done | rfl | (simp only [List.length_drop, List.length_take]; rfl)) ?_; (with_reducible refine (spileref08_Few.calls _ _ ((rd_T27 l0 x3_1).f2) true _ ?side1 ?side2 A4.out).mono ?_); (case side1 => repeat (first | exact HR177_2.out | (with_reducible refine Kd.C_alloc ?_ _) | (with_reducible refine Kd.C_drewN ?_ _) | (with_reducible refine Kd.C_drew ?_))); (case side2 => exact HC177_2.out); rintro e w' ⟨rfl, ⟨nd, rfl⟩⟩; refine ⟨_, rfl, ?_⟩; have p179 : 0 ≤ (x3_1 : Int) := of_decide_eq_true (by first | (with_reducible assumption) | assumption); have q179 : x3_1 < (l0.length : Int) := of_decide_eq_true (by first | (with_reducible assumption) | assumption); obtain ⟨ad179, A179_2, c179_2, e179, hx179_0, hx179_1, hx179_2, hx179_3, hl179_2, hi179_2⟩ := at_T27 HR0.out x3_1 p179 q179; obtain rfl : ad177 = ad179 := (by injection e179); have HR179_2 := Aside0.mk hi179_2; have HC179_2 := Aside0.mk hl179_2; clear hi179_2 hl179_2; replace p179 := eq_true p179; replace q179 := eq_true q179; have ea_ := Option.some.inj (hx177_2.symm.trans hx179_2); injection ea_ with ea_ en_ ec_; subst ea_; subst ec_; clear en_))
       go_roundg k1
       case measure => have := HK1.out; omega
       case rel => exact ⟨(wrap64 (x3_1 + 1)), (by first | rfl | (simp; done) | (simp [*]; done)), H', ⟨by have := HK1.out; omega⟩, by repeat (first | exact Drawn0.refl _ | apply Drawn0.step)⟩
     ·
      replace c5 := Bool.eq_false_iff.mpr c5; subst c5; have H1 : (some false) = some r := by rw [if_neg (show ¬ (false = true) by decide)] at H; exact H
      clear H; have H := H1; clear H1; obtain rfl := Option.some.inj H; have p177 : 0 ≤ (x3_1 : Int) := of_decide_eq_true (by first | (with_reducible assumption) | assumption); have q177 : x3_1 < (l0.length : Int) := of_decide_eq_true (by first | (with_reducible assumption) | assumption); obtain ⟨ad177, A177_2, c177_2, e177, hx177_0, hx177_1, hx177_2, hx177_3, hl177_2, hi177_2⟩ := at_T27 HR0.out x3_1 p177 q177; cases e177; have HR177_2 := Aside0.mk hi177_2; have HC177_2 := Aside0.mk hl177_2; clear hi177_2 hl177_2; replace p177 := eq_true p177; replace q177 := eq_true q177; go_wp2_with (first | ((with_reducible refine gate_callee (f := 32) rfl ?_); refine goesL_ (some 15) rfl rfl Tryd.func32 (by kernel_rfl) rfl #[.slice A177_2 ((rd_T27 l0 x3_1).f2).length c177_2] rfl (by (try simp only [List.map_toArray, List.map_cons, List.map_nil]); first | done | rfl | (simp only [List.length_drop, List.length_take]; rfl)) ?_; (with_reducible refine (spileref08_Few.calls _ _ ((rd_T27 l0 x3_1).f2) false _ ?side1 ?side2 A4.out).mono ?_); (case side1 => repeat (first | exact HR177_2.out | (with_reducible refine Kd.C_alloc ?_ _) | (with_reducible refine Kd.C_drewN ?_ _) | (with_reducible refine Kd.C_drew ?_))); (case side2 => exact HC177_2.out); rintro e w' ⟨rfl, ⟨nd, rfl⟩⟩; refine ⟨_, rfl, ?_⟩))
      go_ret
      exact ⟨by first | rfl | (simp; done) | (simp [*]; done), by repeat (first | exact Drawn0.refl _ | apply Drawn0.step)⟩
    · rw [if_neg c3] at H; exact absurd H (by simp)
   ·
    rw [if_neg c2] at H; have c2b0 : decide (x3_1 < (l0.length : Int)) = false := decide_eq_false c2; clear c2; obtain rfl := Option.some.inj H; go_wp2; go_ret
    exact ⟨by first | rfl | (simp; done) | (simp [*]; done), by repeat (first | exact Drawn0.refl _ | apply Drawn0.step)⟩
def spileref09_Copy.l0 : Nat → List (S27) → List (S27) → Int → Option ((List (S27)))
 | 0, _, _, _ => none
 | k + 1, x0, x3, x4 => if x4 < (x0.length : Int) then (if 0 ≤ x4 then ((some (([] : List (S46)) : List (S46))).bind fun y182 => (if y182.length + ((rd_T27 x0 x4).f2).length < 8796093022208 then (if x3.length < 2513169434916 then (spileref09_Copy.l0 k x0 (x3 ++ [(⟨(rd_T27 x0 x4).f0, (rd_T27 x0 x4).f1, (y182 ++ ((rd_T27 x0 x4).f2)), (rd_T27 x0 x4).f3⟩ : S27)]) (wrap64 (x4 + 1))) else (none)) else (none))) else (none)) else (some x3)
def spileref09_Copy.f (k : Nat) (l0 : List (S27)) : Option ((List (S27))) := spileref09_Copy.l0 k l0 ([] : List (S27)) 0
set_option maxHeartbeats 8000000 in
set_option maxRecDepth 100000 in
theorem spileref09_Copy.calls (k : Nat) (A0 : Option Addr) (c0 : Nat) (l0 : List (S27)) (r : List (S27)) (w : World) (hr0 : Kd.C k27 w A0 l0.length l0) (hc0 : l0.length ≤ c0) (h : spileref09_Copy.f k l0 = some r) :
  Calls Tryd.prog 13 #[.slice A0 l0.length c0] w fun e w' => ∃ v0_ : Value, e = .returned (v0_) ∧ Kd.S k27 27 w' w.heap.size (fun _ => True) v0_ r ∧ Below w.heap.size w w' := by
 have hu27 := Tryd.underlying27; have HR0 := Aside0.mk hr0; have HC0 := Aside0.mk hc0; clear hr0 hc0; have HB := Aside0.mk (Below.refl w.heap.size w); have H : (spileref09_Copy.l0 k l0 ([] : List (S27)) 0) = some r := h; clear h; have H' := Aside0.mk H; clear H; go_enter Tryd.func13, Tryd.ntmps13
 go_wp2; go_loopg [3, 4] k (fun kq v3 v4 w' => ∃ (x3_1 : List (S27)) (x4_1 : Int), v4 = .int .i64 x4_1 ∧ Aside0 (spileref09_Copy.l0 kq l0 x3_1 x4_1 = some r) ∧ Aside0 (kq ≤ k) ∧ Aside0 (Kd.S k27 27 w' w.heap.size (fun _ => True) v3 x3_1) ∧ Aside0 (Below w.heap.size w w'))
 case atStart => exact ⟨(([] : List (S27))), (0), (by first | rfl | (simp; done) | (simp [*]; done)), H', ⟨Nat.le_refl _⟩, ⟨by first | exact Kd.S_nil _ _ _ _ _ | exact Kd.N_nil _ _ _ _ _ | exact Kd.V_nil _ _ _ _ _ | exact Kd.Q_nil _ _ _ _ _ | exact Kd.R_nil _ _ _ _ _⟩, ⟨by repeat (first | (with_reducible first | exact HB.out | apply below_alloc | apply pw_below_drewN | apply below_drew1) | exact HB.out)⟩⟩
 case round =>
  clear H'; try clear c1
  obtain ⟨x3_1, x4_1, rfl, HA, HK1, HO_3, HB⟩ := hrel
  cases gk with
  | zero => exact absurd HA.out (by simp [spileref09_Copy.l0])
  | succ k1 =>
   have H := HA.out; clear HA; simp only [spileref09_Copy.l0] at H; by_cases c2 : x4_1 < (l0.length : Int)
   ·
    rw [if_pos c2] at H; have c2b0 : decide (x4_1 < (l0.length : Int)) = true := decide_eq_true c2; clear c2; by_cases c3 : 0 ≤ x4_1
    ·
     rw [if_pos c3] at H; have c3b0 : decide (0 ≤ x4_1) = true := decide_eq_true c3; clear c3; obtain ⟨y182, hy182⟩ : ∃ y_ : List (S46), y_ = (([] : List (S46))) := ⟨_, rfl⟩; replace H : (if y182.length + ((rd_T27 l0 x4_1).f2).length < 8796093022208 then (if x3_1.length < 2513169434916 then (spileref09_Copy.l0 k1 l0 (x3_1 ++ [(⟨(rd_T27 l0 x4_1).f0, (rd_T27 l0 x4_1).f1, (y182 ++ ((rd_T27 l0 x4_1).f2)), (rd_T27 l0 x4_1).f3⟩ : S27)]) (wrap64 (x4_1 + 1))) else (none)) else (none)) = some r := by first | (rw [hy182]; with_reducible exact H) | (have H2_ := (Option.bind_some _ _).symm.trans H; rw [hy182]; with_reducible exact H2_) | (have H2_ := (Option.bind_some _ _).symm.trans H; with_reducible exact H2_) | with_reducible exact H | (rw [hy182]; exact H) | exact H
     have Ny182 := Aside0.mk hy182; clear hy182; by_cases c4 : y182.length + ((rd_T27 l0 x4_1).f2).length < 8796093022208
     ·
      rw [if_pos c4] at H; have LMc4 := Aside0.mk c4; clear c4; obtain ⟨y185, hy185⟩ : ∃ y_ : List (S46), y_ = (y182 ++ ((rd_T27 l0 x4_1).f2)) := ⟨_, rfl⟩; replace H : (if x3_1.length < 2513169434916 then (spileref09_Copy.l0 k1 l0 (x3_1 ++ [(⟨(rd_T27 l0 x4_1).f0, (rd_T27 l0 x4_1).f1, y185, (rd_T27 l0 x4_1).f3⟩ : S27)]) (wrap64 (x4_1 + 1))) else (none)) = some r := by first | (rw [hy185]; with_reducible exact H) | (have H2_ := (Option.bind_some _ _).symm.trans H; rw [hy185]; with_reducible exact H2_) | (have H2_ := (Option.bind_some _ _).symm.trans H; with_reducible exact H2_) | with_reducible exact H | (rw [hy185]; exact H) | exact H
      have Ny185 := Aside0.mk hy185; clear hy185; by_cases c5 : x3_1.length < 2513169434916
      ·
       rw [if_pos c5] at H; have LMc5 := Aside0.mk c5; clear c5; obtain ⟨y188, hy188⟩ : ∃ y_ : List (S27), y_ = (x3_1 ++ [(⟨(rd_T27 l0 x4_1).f0, (rd_T27 l0 x4_1).f1, y185, (rd_T27 l0 x4_1).f3⟩ : S27)]) := ⟨_, rfl⟩; replace H : (spileref09_Copy.l0 k1 l0 y188 (wrap64 (x4_1 + 1))) = some r := by first | (rw [hy188]; with_reducible exact H) | (have H2_ := (Option.bind_some _ _).symm.trans H; rw [hy188]; with_reducible exact H2_) | (have H2_ := (Option.bind_some _ _).symm.trans H; with_reducible exact H2_) | with_reducible exact H | (rw [hy188]; exact H) | exact H
       have Ny188 := Aside0.mk hy188; clear hy188; have H' := Aside0.mk H; clear H; have p180 : 0 ≤ (x4_1 : Int) := of_decide_eq_true (by first | (with_reducible assumption) | assumption); have q180 : x4_1 < (l0.length : Int) := of_decide_eq_true (by first | (with_reducible assumption) | assumption); obtain ⟨ad180, A180_2, c180_2, e180, hx180_0, hx180_1, hx180_2, hx180_3, hl180_2, hi180_2⟩ := at_T27 HR0.out x4_1 p180 q180; cases e180; replace hx180_0 := (HB.out.cell (World.block_lt_of_cell? w _ hx180_0)).trans hx180_0; replace hx180_1 := (HB.out.cell (World.block_lt_of_cell? w _ hx180_1)).trans hx180_1; replace hx180_2 := (HB.out.cell (World.block_lt_of_cell? w _ hx180_2)).trans hx180_2; replace hx180_3 := (HB.out.cell (World.block_lt_of_cell? w _ hx180_3)).trans hx180_3; have HR180_2 := Aside0.mk hi180_2; have HC180_2 := Aside0.mk hl180_2; clear hi180_2 hl180_2; replace p180 := eq_true p180; replace q180 := eq_true q180; go_wp2_with (first | ((with_reducible refine gate_dst (N := 5) rfl ?_); refine box_event ?hg (N := 5) ?hd (cs := #[.string (⟨#[]⟩ : ByteArray), .int .i64 0, .slice none 0 0, .int .i64 0]) (t := 27) ?hr ?_; (case hd => rfl); (case hg => rfl); (case hr => first | (go_simp; done) | (go_simp; rfl)); intro gb181 hg w6 hbox hb; have n0_ := Aside0.mk (Kd.S_below (Kd.S_elderB (by (with_reducible repeat (first | apply Kd.S_alloc | apply Kd.S_drewN | apply Kd.S_drew)); exact HO_3.out) gb181 (Nat.le_of_eq hg.symm)) hb); have n1_ := Aside0.mk (below_step (by repeat (first | (with_reducible first | exact HB.out | apply below_alloc | apply pw_below_drewN | apply below_drew1) | exact HB.out)) hb); have n2_ := Aside0.mk (hbox); have n3_ := Aside0.mk ((by rw [hg]; exact (below_size (by repeat (first | (with_reducible first | exact HB.out | apply below_alloc | apply pw_below_drewN | apply below_drew1) | exact HB.out))) : w.heap.size ≤ gb181)); have n4_ := Aside0.mk ((by rw [hg]; exact (below_size (by repeat (first | (with_reducible first | exact HB.out | apply below_alloc | apply pw_below_drewN | apply below_drew1) | exact HB.out))) : w.heap.size ≤ gb181)); clear HO_3; clear HB; have HO_3 := n0_; have HB := n1_; have BK181 := n2_; have GW181 := n3_; have GE181 := n4_; clear n0_ n1_ n2_ n3_ n4_; clear hb hbox hg; have hcz7_0 : w6.cell? ⟨gb181, 0, none⟩ = some (.string (⟨#[]⟩ : ByteArray)) := (blk_cell BK181.out 0).trans rfl; have hcz7_1 : w6.cell? ⟨gb181, 1, none⟩ = some (.int .i64 0) := (blk_cell BK181.out 1).trans rfl; have hcz7_2 : w6.cell? ⟨gb181, 2, none⟩ = some (.slice none 0 0) := (blk_cell BK181.out 2).trans rfl; have hcz7_3 : w6.cell? ⟨gb181, 3, none⟩ = some (.int .i64 0) := (blk_cell BK181.out 3).trans rfl; have hfz7_0 := blk_frozen BK181.out 0; have hfz7_1 := blk_frozen BK181.out 1; have hfz7_2 := blk_frozen BK181.out 2; have hfz7_3 := blk_frozen BK181.out 3) | ((with_reducible refine gate_dst (N := 16) rfl ?_); refine Kd.R_lit k46 _ 46 ?hg (N := 16) ?hd (xs := ([] : List (S46))) (inner := []) (ok := fun _ => True) (okp := fun _ => True) ?hr ?hp (fun _ hk => hk) trivial (Below.refl _ _) (Nat.le_refl _) (by simp) ?_; (case hd => rfl); (case hg => rfl); (case hr => first | (go_simp; done) | (go_simp; rfl)); (case hp => exact (Reps.none _ _)); intro v183 w8 ho9 hb hg_ hnew_; clear hg_ hnew_; (first | rw [← Ny182.out] at ho9 | (simp only [Int.reduceToNat] at ho9; rw [← Ny182.out] at ho9)); have n0_ := Aside0.mk (Kd.S_elder' (by (with_reducible repeat (first | apply Kd.S_alloc | apply Kd.S_drewN | apply Kd.S_drew)); exact (Kd.S_mono (Kd.S_far (p := ⟨gb181, 3, none⟩) (Kd.S_far (p := ⟨gb181, 2, none⟩) (Kd.S_far (p := ⟨gb181, 1, none⟩) (Kd.S_far (p := ⟨gb181, 0, none⟩) (Kd.S_mono HO_3.out (fun k_ hk => (⟨hk, hk.2⟩ : _ ∧ k_ ≠ gb181))) (fun _ hk => hk.2) (.string ((rd_T27 l0 x4_1).f0))) (fun _ hk => hk.2) (.int .i64 ((rd_T27 l0 x4_1).f1))) (fun _ hk => hk.2) (.slice A180_2 ((rd_T27 l0 x4_1).f2).length c180_2)) (fun _ hk => hk.2) (.int .i64 ((rd_T27 l0 x4_1).f3))) (fun _ h_ => h_.1))) (Kd.R_base ho9) hb); have n1_ := Aside0.mk (Kd.R_lower ho9 (below_size (by repeat (first | (with_reducible first | exact HB.out | apply below_alloc | apply pw_below_drewN | apply below_drew1 | refine below_set ?_ GE181.out) | exact HB.out)))); have n2_ := Aside0.mk (blk_below (g := gb181) (o := .cells #[.string ((rd_T27 l0 x4_1).f0), .int .i64 ((rd_T27 l0 x4_1).f1), .slice A180_2 ((rd_T27 l0 x4_1).f2).length c180_2, .int .i64 ((rd_T27 l0 x4_1).f3)] 27 (0, 0)) (by (with_reducible repeat (first | refine blk_drewN ?_ _ | refine blk_drew ?_ | refine blk_alloc ?_ _)); refine blk_put (cs := #[.string ((rd_T27 l0 x4_1).f0), .int .i64 ((rd_T27 l0 x4_1).f1), .slice A180_2 ((rd_T27 l0 x4_1).f2).length c180_2, .int .i64 0]) ?_ 3 _ rfl; (with_reducible repeat (first | refine blk_drewN ?_ _ | refine blk_drew ?_ | refine blk_alloc ?_ _)); refine blk_put (cs := #[.string ((rd_T27 l0 x4_1).f0), .int .i64 ((rd_T27 l0 x4_1).f1), .slice none 0 0, .int .i64 0]) ?_ 2 _ rfl; (with_reducible repeat (first | refine blk_drewN ?_ _ | refine blk_drew ?_ | refine blk_alloc ?_ _)); refine blk_put (cs := #[.string ((rd_T27 l0 x4_1).f0), .int .i64 0, .slice none 0 0, .int .i64 0]) ?_ 1 _ rfl; (with_reducible repeat (first | refine blk_drewN ?_ _ | refine blk_drew ?_ | refine blk_alloc ?_ _)); refine blk_put (cs := #[.string (⟨#[]⟩ : ByteArray), .int .i64 0, .slice none 0 0, .int .i64 0]) ?_ 0 _ rfl; (with_reducible repeat (first | refine blk_drewN ?_ _ | refine blk_drew ?_ | refine blk_alloc ?_ _)); exact BK181.out) hb); have n3_ := Aside0.mk (below_step (by repeat (first | (with_reducible first | exact HB.out | apply below_alloc | apply pw_below_drewN | apply below_drew1 | refine below_set ?_ GE181.out) | exact HB.out)) hb); clear HO_3; clear BK181; clear HB; have HO_3 := n0_; have HO184 := n1_; have BK181 := n2_; have HB := n3_; clear n0_ n1_ n2_ n3_; clear hb ho9; have hcz10_0 : w8.cell? ⟨gb181, 0, none⟩ = some (.string ((rd_T27 l0 x4_1).f0)) := (blk_cell BK181.out 0).trans rfl; have hcz10_1 : w8.cell? ⟨gb181, 1, none⟩ = some (.int .i64 ((rd_T27 l0 x4_1).f1)) := (blk_cell BK181.out 1).trans rfl; have hcz10_2 : w8.cell? ⟨gb181, 2, none⟩ = some (.slice A180_2 ((rd_T27 l0 x4_1).f2).length c180_2) := (blk_cell BK181.out 2).trans rfl; have hcz10_3 : w8.cell? ⟨gb181, 3, none⟩ = some (.int .i64 ((rd_T27 l0 x4_1).f3)) := (blk_cell BK181.out 3).trans rfl; have hfz10_0 := blk_frozen BK181.out 0; have hfz10_1 := blk_frozen BK181.out 1; have hfz10_2 := blk_frozen BK181.out 2; have hfz10_3 := blk_frozen BK181.out 3) | ((with_reducible refine gate_builtin (b := .append) (xs := #[.tmp 16, .tmp 18]) rfl ?_); at_builtin; refine Kd.R_append_rows k46 (w0 := w) w.heap.size rfl (.tmp 16) (.tmp 18) 25 46 (.agg #[(.int .i64 0), (.int .i64 0)]) 16 rfl Tryd.underlying25 info46 rfl (by decide) (by omega) v183 y182 ((rd_T27 l0 x4_1).f2) _ _ _ (fun _ => True) (fun _ => False) rfl rfl ?aO ?aR (fun _ _ h => h) (fun _ h => h.elim) ?aF ?aB ?aS ?aL ?_; (case aR => repeat (first | exact (Kd.C_below HR180_2.out HB.out) | (with_reducible refine Kd.C_alloc ?_ _) | (with_reducible refine Kd.C_drewN ?_ _) | (with_reducible refine Kd.C_drew ?_))); (case aB => exact (by repeat (first | (with_reducible first | exact HB.out | apply below_alloc | apply pw_below_drewN | apply below_drew1 | refine below_set ?_ GE181.out) | exact HB.out))); (case aF => exact (fun _ _ => trivial)); (case aO => exact (by (with_reducible repeat (first | apply Kd.R_alloc | apply Kd.R_drewN | apply Kd.R_drew)); exact HO184.out)); (case aS => exact (below_size (by repeat (first | (with_reducible first | exact HB.out | apply below_alloc | apply pw_below_drewN | apply below_drew1 | refine below_set ?_ GE181.out) | exact HB.out)))); (case aL => have := LMc4.out; omega); intro v186 w11 ho hb hg hat; rw [← Ny185.out] at ho; have n0_ := Aside0.mk (Kd.S_after (ok := (fun k_ => k_ ≠ gb181)) (by (with_reducible repeat (first | apply Kd.S_alloc | apply Kd.S_drewN | apply Kd.S_drew)); exact Kd.S_mono HO_3.out (fun _ hk => ⟨hk.1.2, hk.2⟩)) hg hat); have n1_ := Aside0.mk (blk_grown (g := gb181) (o := .cells #[.string ((rd_T27 l0 x4_1).f0), .int .i64 ((rd_T27 l0 x4_1).f1), .slice A180_2 ((rd_T27 l0 x4_1).f2).length c180_2, .int .i64 ((rd_T27 l0 x4_1).f3)] 27 (0, 0)) (by (with_reducible repeat (first | refine blk_drewN ?_ _ | refine blk_drew ?_ | refine blk_alloc ?_ _)); exact BK181.out) hg (Kd.R_ne HO184.out BK181.out (by decide))); have n2_ := Aside0.mk (hb); have n3_ := Aside0.mk (ho); clear HO_3; clear BK181; clear HB; clear HO184; have HO_3 := n0_; have BK181 := n1_; have HB := n2_; have HO187 := n3_; clear n0_ n1_ n2_ n3_; clear ho hb hg hat; obtain ⟨Ao12, co12, eo12⟩ := Kd.R_slice HO187.out; subst eo12; have hcz13_0 : w11.cell? ⟨gb181, 0, none⟩ = some (.string ((rd_T27 l0 x4_1).f0)) := (blk_cell BK181.out 0).trans rfl; have hcz13_1 : w11.cell? ⟨gb181, 1, none⟩ = some (.int .i64 ((rd_T27 l0 x4_1).f1)) := (blk_cell BK181.out 1).trans rfl; have hcz13_2 : w11.cell? ⟨gb181, 2, none⟩ = some (.slice A180_2 ((rd_T27 l0 x4_1).f2).length c180_2) := (blk_cell BK181.out 2).trans rfl; have hcz13_3 : w11.cell? ⟨gb181, 3, none⟩ = some (.int .i64 ((rd_T27 l0 x4_1).f3)) := (blk_cell BK181.out 3).trans rfl; have hfz13_0 := blk_frozen BK181.out 0; have hfz13_1 := blk_frozen BK181.out 1; have hfz13_2 := blk_frozen BK181.out 2; have hfz13_3 := blk_frozen BK181.out 3) | ((with_reducible refine gate_store (t := 25) (p := 20) rfl ?_); refine store_event (t := 25) (p := 20) (v := ?vo_w14) (w1 := (w11.setCell ⟨gb181, 2, none⟩ (.slice Ao12 y185.length co12))) ?hg ?ho ?hn ?hr ?_; (case ho => rfl); (case hg => rfl); (case hn => rfl); (case hr => first | (go_simp; done) | (go_simp; rfl)); intro w14 hw; have n0_ : Aside0 (Kd.S k27 27 w14 w.heap.size (fun k_ => some k_ ≠ (.slice Ao12 y185.length co12 : Value).ownBlock ∧ k_ ≠ gb181) u3 x3_1) := ⟨(by rw [hw]; exact (by (with_reducible repeat (first | apply Kd.S_alloc | apply Kd.S_drewN | apply Kd.S_drew)); exact Kd.S_mono (Kd.S_far (p := ⟨gb181, 2, none⟩) (Kd.S_mono HO_3.out (fun k_ hk => (⟨hk, hk.1⟩ : _ ∧ k_ ≠ gb181))) (fun _ hk => hk.2) (.slice Ao12 y185.length co12)) (fun _ hk => ⟨hk.1.2, hk.1.1⟩)))⟩; have n1_ : Aside0 (Kd.R k46 46 w14 w.heap.size (fun _ => True) (.slice Ao12 y185.length co12) y185) := ⟨(by rw [hw]; exact (by (with_reducible repeat (first | apply Kd.R_alloc | apply Kd.R_drewN | apply Kd.R_drew)); exact Kd.R_mono (Kd.R_far (p := ⟨gb181, 2, none⟩) (Kd.R_types HO187.out BK181.out (by decide)) (fun _ hk => hk.2) (.slice Ao12 y185.length co12)) (fun _ hk => trivial)))⟩; have n2_ : Aside0 (w14.heap[gb181]? = some (.cells #[.string ((rd_T27 l0 x4_1).f0), .int .i64 ((rd_T27 l0 x4_1).f1), .slice Ao12 y185.length co12, .int .i64 ((rd_T27 l0 x4_1).f3)] 27 (0, 0))) := ⟨(by rw [hw]; exact (by (with_reducible repeat (first | refine blk_drewN ?_ _ | refine blk_drew ?_ | refine blk_alloc ?_ _)); refine blk_put (cs := #[.string ((rd_T27 l0 x4_1).f0), .int .i64 ((rd_T27 l0 x4_1).f1), .slice A180_2 ((rd_T27 l0 x4_1).f2).length c180_2, .int .i64 ((rd_T27 l0 x4_1).f3)]) ?_ 2 _ rfl; (with_reducible repeat (first | refine blk_drewN ?_ _ | refine blk_drew ?_ | refine blk_alloc ?_ _)); exact BK181.out))⟩; have n3_ : Aside0 (Below w.heap.size w w14) := ⟨(by rw [hw]; exact (by repeat (first | (with_reducible first | exact HB.out | apply below_alloc | apply pw_below_drewN | apply below_drew1 | refine below_set ?_ GE181.out) | exact HB.out)))⟩; clear hw; clear HO_3; clear HO187; clear BK181; clear HB; have HO_3 := n0_; have HO187 := n1_; have BK181 := n2_; have HB := n3_; clear n0_ n1_ n2_ n3_; have hcz15_0 : w14.cell? ⟨gb181, 0, none⟩ = some (.string ((rd_T27 l0 x4_1).f0)) := (blk_cell BK181.out 0).trans rfl; have hcz15_1 : w14.cell? ⟨gb181, 1, none⟩ = some (.int .i64 ((rd_T27 l0 x4_1).f1)) := (blk_cell BK181.out 1).trans rfl; have hcz15_2 : w14.cell? ⟨gb181, 2, none⟩ = some (.slice Ao12 y185.length co12) := (blk_cell BK181.out 2).trans rfl; have hcz15_3 : w14.cell? ⟨gb181, 3, none⟩ = some (.int .i64 ((rd_T27 l0 x4_1).f3)) := (blk_cell BK181.out 3).trans rfl; have hfz15_0 := blk_frozen BK181.out 0; have hfz15_1 := blk_frozen BK181.out 1; have hfz15_2 := blk_frozen BK181.out 2; have hfz15_3 := blk_frozen BK181.out 3) | ((with_reducible refine gate_builtin (b := .append) (xs := #[.tmp 21, .tmp 23]) rfl ?_); at_builtin; refine Kd.S_append k27 (w0 := w) w.heap.size rfl (.tmp 21) (.tmp 23) 22 27 (.agg #[(.string ⟨#[]⟩), (.int .i64 0), (.slice none 0 0), (.int .i64 0)]) 56 rfl Tryd.underlying22 info27 rfl (by decide) (by omega) u3 x3_1 (⟨(rd_T27 l0 x4_1).f0, (rd_T27 l0 x4_1).f1, y185, (rd_T27 l0 x4_1).f3⟩ : S27) [.string ((rd_T27 l0 x4_1).f0), .int .i64 ((rd_T27 l0 x4_1).f1), .slice Ao12 y185.length co12, .int .i64 ((rd_T27 l0 x4_1).f3)] (fun k_ => k_ ≠ gb181) (fun k_ => some k_ = (.slice Ao12 y185.length co12 : Value).ownBlock) rfl rfl ?aP (fun k_ hk_ => ((Kd.R_mono (ok' := fun k_ => ((fun k_ => k_ ≠ gb181)) k_ ∧ some k_ ≠ (u3 : Value).ownBlock) (Kd.R_types (Kd.R_apart' (HO187.out) (Kd.S_typed HO_3.out) (by decide)) BK181.out (by decide)) (fun k_ hk => ⟨hk.2, hk.1.2⟩))).1 k_ hk_.symm) ?aF ?aO ?aB ?aS ?aL ?_; (case aP => exact k27_mkM _ _ _ (⟨(rd_T27 l0 x4_1).f0, (rd_T27 l0 x4_1).f1, y185, (rd_T27 l0 x4_1).f3⟩ : S27) (Kd.R_mono (Kd.R_tight rfl (Kd.R_mono (ok' := fun k_ => ((fun k_ => k_ ≠ gb181)) k_ ∧ some k_ ≠ (u3 : Value).ownBlock) (Kd.R_types (Kd.R_apart' (HO187.out) (Kd.S_typed HO_3.out) (by decide)) BK181.out (by decide)) (fun k_ hk => ⟨hk.2, hk.1.2⟩))) (fun _ h_ => h_))); (case aB => exact (by repeat (first | (with_reducible first | exact HB.out | apply below_alloc | apply pw_below_drewN | apply below_drew1 | refine below_set ?_ GE181.out) | exact HB.out))); (case aF => exact (fun k_ hk => Kd.freshB (g := gb181) (o := .cells #[.string ((rd_T27 l0 x4_1).f0), .int .i64 ((rd_T27 l0 x4_1).f1), .slice Ao12 y185.length co12, .int .i64 ((rd_T27 l0 x4_1).f3)] 27 (0, 0)) (by (with_reducible repeat (first | refine blk_drewN ?_ _ | refine blk_drew ?_ | refine blk_alloc ?_ _)); exact BK181.out) k_ hk)); (case aO => exact (by (with_reducible repeat (first | apply Kd.S_alloc | apply Kd.S_drewN | apply Kd.S_drew)); exact Kd.S_mono HO_3.out (fun k_ hk => ⟨hk.2, fun e_ => hk.1 e_⟩))); (case aS => exact (below_size (by repeat (first | (with_reducible first | exact HB.out | apply below_alloc | apply pw_below_drewN | apply below_drew1 | refine below_set ?_ GE181.out) | exact HB.out)))); (case aL => have := LMc5.out; omega); intro v189 w16 ho hb hg hat; rw [← Ny188.out] at ho; have n0_ := Aside0.mk (blk_grown (g := gb181) (o := .cells #[.string ((rd_T27 l0 x4_1).f0), .int .i64 ((rd_T27 l0 x4_1).f1), .slice Ao12 y185.length co12, .int .i64 ((rd_T27 l0 x4_1).f3)] 27 (0, 0)) (by (with_reducible repeat (first | refine blk_drewN ?_ _ | refine blk_drew ?_ | refine blk_alloc ?_ _)); exact BK181.out) hg (Kd.S_away HO_3.out (fun _ hk => hk.2))); have n1_ := Aside0.mk (hb); have n2_ := Aside0.mk (ho); clear BK181; clear HB; clear HO_3; clear HO187; have BK181 := n0_; have HB := n1_; have HO190 := n2_; clear n0_ n1_ n2_; clear ho hb hg hat))
       go_roundg k1
       case measure => have := HK1.out; omega
       case rel => exact ⟨(y188), (wrap64 (x4_1 + 1)), (by first | rfl | (simp; done) | (simp [*]; done)), H', ⟨by have := HK1.out; omega⟩, ⟨by (with_reducible repeat (first | apply Kd.S_alloc | apply Kd.S_drewN | apply Kd.S_drew)); exact Kd.S_mono HO190.out (fun _ hk => trivial)⟩, ⟨by repeat (first | (with_reducible first | exact HB.out | apply below_alloc | apply pw_below_drewN | apply below_drew1 | refine below_set ?_ GE181.out) | exact HB.out)⟩⟩
      · rw [if_neg c5] at H; exact absurd H (by simp)
     · rw [if_neg c4] at H; exact absurd H (by simp)
    · rw [if_neg c3] at H; exact absurd H (by simp)
   ·
    rw [if_neg c2] at H; have c2b0 : decide (x4_1 < (l0.length : Int)) = false := decide_eq_false c2; clear c2; obtain rfl := Option.some.inj H; go_wp2; go_ret
    exact ⟨_, by first | rfl | (simp [errW_none, errW_some] <;> rfl) | (simp [*, errW_none, errW_some] <;> rfl), by (with_reducible repeat (first | apply Kd.S_alloc | apply Kd.S_drewN | apply Kd.S_drew)); exact HO_3.out, by repeat (first | (with_reducible first | exact HB.out | apply below_alloc | apply pw_below_drewN | apply below_drew1) | exact HB.out)⟩
end Go.Proofs.YtnhmlneebnkjcaaDoor.Pr
namespace Go.Proofs.YtnhmlneebnkjcaaDoor.Pr
open Go.RowKit Go.Proofs.YtnhmlneebnkjcaaDoorW.PrintWords Go.Proofs.YtnhmlneebnkjcaaDoorW.PrintLast Go.Proofs.YtnhmlneebnkjcaaDoorW.PrintMore Go.Proofs.YtnhmlneebnkjcaaDoor.X
attribute [local go_sem] max2_int min2_int max_two min_two max_three min_three max_four min_four   -- for this text's walks alone
set_option linter.unusedVariables false
set_option linter.unusedSimpArgs false
def spileref09_IsName.l0 : Nat → ByteArray → Int → Option (Bool)
 | 0, _, _ => none
 | k + 1, x0, x3 => if x3 < (x0.size : Int) then (if 0 ≤ x3 then (if (bt x0 x3) ≥ 97 then (if (bt x0 x3) ≤ 122 then (spileref09_IsName.l0 k x0 (wrap64 (x3 + 1))) else (if (bt x0 x3) ≥ 65 then (if (bt x0 x3) ≤ 90 then (spileref09_IsName.l0 k x0 (wrap64 (x3 + 1))) else (if (bt x0 x3) ≥ 48 then (if (bt x0 x3) ≤ 57 then (spileref09_IsName.l0 k x0 (wrap64 (x3 + 1))) else (if (bt x0 x3) = 45 then (spileref09_IsName.l0 k x0 (wrap64 (x3 + 1))) else (if ((bt x0 x3) = 46) then (spileref09_IsName.l0 k x0 (wrap64 (x3 + 1))) else (some false)))) else (if (bt x0 x3) = 45 then (spileref09_IsName.l0 k x0 (wrap64 (x3 + 1))) else (if ((bt x0 x3) = 46) then (spileref09_IsName.l0 k x0 (wrap64 (x3 + 1))) else (some false))))) else (if (bt x0 x3) ≥ 48 then (if (bt x0 x3) ≤ 57 then (spileref09_IsName.l0 k x0 (wrap64 (x3 + 1))) else (if (bt x0 x3) = 45 then (spileref09_IsName.l0 k x0 (wrap64 (x3 + 1))) else (if ((bt x0 x3) = 46) then (spileref09_IsName.l0 k x0 (wrap64 (x3 + 1))) else (some false)))) else (if (bt x0 x3) = 45 then (spileref09_IsName.l0 k x0 (wrap64 (x3 + 1))) else (if ((bt x0 x3) = 46) then (spileref09_IsName.l0 k x0 (wrap64 (x3 + 1))) else (some false)))))) else (if (bt x0 x3) ≥ 65 then (if (bt x0 x3) ≤ 90 then (spileref09_IsName.l0 k x0 (wrap64 (x3 + 1))) else (if (bt x0 x3) ≥ 48 then (if (bt x0 x3) ≤ 57 then (spileref09_IsName.l0 k x0 (wrap64 (x3 + 1))) else (if (bt x0 x3) = 45 then (spileref09_IsName.l0 k x0 (wrap64 (x3 + 1))) else (if ((bt x0 x3) = 46) then (spileref09_IsName.l0 k x0 (wrap64 (x3 + 1))) else (some false)))) else (if (bt x0 x3) = 45 then (spileref09_IsName.l0 k x0 (wrap64 (x3 + 1))) else (if ((bt x0 x3) = 46) then (spileref09_IsName.l0 k x0 (wrap64 (x3 + 1))) else (some false))))) else (if (bt x0 x3) ≥ 48 then (if (bt x0 x3) ≤ 57 then (spileref09_IsName.l0 k x0 (wrap64 (x3 + 1))) else (if (bt x0 x3) = 45 then (spileref09_IsName.l0 k x0 (wrap64 (x3 + 1))) else (if ((bt x0 x3) = 46) then (spileref09_IsName.l0 k x0 (wrap64 (x3 + 1))) else (some false)))) else (if (bt x0 x3) = 45 then (spileref09_IsName.l0 k x0 (wrap64 (x3 + 1))) else (if ((bt x0 x3) = 46) then (spileref09_IsName.l0 k x0 (wrap64 (x3 + 1))) else (some false)))))) else (none)) else (if (x0.size : Int) ≥ 1 then (some (decide ((x0.size : Int) ≤ 64))) else (some false))
def spileref09_IsName.f (k : Nat) (a0 : ByteArray) : Option (Bool) := spileref09_IsName.l0 k a0 0
def spileref08_isLength.f (a0 : Int) : Option (Bool) := if a0 ≥ 0 then (some (decide (a0 ≤ 100000))) else (some false)
end Go.Proofs.YtnhmlneebnkjcaaDoor.Pr
namespace Go.Proofs.YtnhmlneebnkjcaaDoor.Pr
open Go.RowKit Go.Proofs.YtnhmlneebnkjcaaDoorW.PrintWords Go.Proofs.YtnhmlneebnkjcaaDoorW.PrintLast Go.Proofs.YtnhmlneebnkjcaaDoorW.PrintMore Go.Proofs.YtnhmlneebnkjcaaDoor.X
attribute [local go_sem] max2_int min2_int max_two min_two max_three min_three max_four min_four   -- for this text's walks alone
set_option linter.unusedVariables false
set_option linter.unusedSimpArgs false
mutual
def spileref08_Check.l0 : Nat → List (S46) → Int → Option (Int)
 | 0, _, _ => none
 | k + 1, x0, x3 => if x3 < (x0.length : Int) then (if 0 ≤ x3 then ((spileref08_isLength.f ((rd_T46 x0 x3).f0)).bind fun t192 => (if t192 = true then ((spileref08_isLength.f ((rd_T46 x0 x3).f1)).bind fun t194 => (if t194 = true then (spileref08_Check.l0 k x0 (wrap64 (x3 + 1))) else (some 2))) else (some 2))) else (none)) else (spileref08_Check.l1 k x0 0)
def spileref08_Check.l1 : Nat → List (S46) → Int → Option (Int)
 | 0, _, _ => none
 | k + 1, x0, x4 => if x4 < (x0.length : Int) then (if x4 = 0 then (if 0 ≤ x4 then (if ((rd_T46 x0 x4).f0) = 0 then (if x4 > 0 then (if 0 ≤ (wrap64 (x4 - 1)) then (if (wrap64 (x4 - 1)) < (x0.length : Int) then (if ((rd_T46 x0 (wrap64 (x4 - 1))).f0) ≥ ((rd_T46 x0 x4).f0) then (some 5) else (spileref08_Check.l1 k x0 (wrap64 (x4 + 1)))) else (none)) else (none)) else (spileref08_Check.l1 k x0 (wrap64 (x4 + 1)))) else (some 5)) else (none)) else (if x4 > 0 then (if 0 ≤ (wrap64 (x4 - 1)) then (if (wrap64 (x4 - 1)) < (x0.length : Int) then (if 0 ≤ x4 then (if ((rd_T46 x0 (wrap64 (x4 - 1))).f0) ≥ ((rd_T46 x0 x4).f0) then (some 5) else (spileref08_Check.l1 k x0 (wrap64 (x4 + 1)))) else (none)) else (none)) else (none)) else (spileref08_Check.l1 k x0 (wrap64 (x4 + 1))))) else (spileref08_Check.l2 k x0 0)
def spileref08_Check.l2 : Nat → List (S46) → Int → Option (Int)
 | 0, _, _ => none
 | k + 1, x0, x5 => if x5 < (x0.length : Int) then (if 0 ≤ x5 then (if ((rd_T46 x0 x5).f1) = 0 then (some 16) else (spileref08_Check.l2 k x0 (wrap64 (x5 + 1)))) else (none)) else (spileref08_Check.l3 k x0 false 1)
def spileref08_Check.l3 : Nat → List (S46) → Bool → Int → Option (Int)
 | 0, _, _, _ => none
 | k + 1, x0, x6, x7 => if x7 < (x0.length : Int) then (if x6 = true then (if 0 ≤ x7 then (if 0 ≤ (wrap64 (x7 - 1)) then (if (wrap64 (x7 - 1)) < (x0.length : Int) then (if ((rd_T46 x0 x7).f1) > ((rd_T46 x0 (wrap64 (x7 - 1))).f1) then (some 10) else (spileref08_Check.l3 k x0 true (wrap64 (x7 + 1)))) else (none)) else (none)) else (none)) else (if 0 ≤ x7 then (if 0 ≤ (wrap64 (x7 - 1)) then (if (wrap64 (x7 - 1)) < (x0.length : Int) then (spileref08_Check.l3 k x0 (decide (((rd_T46 x0 x7).f1) < ((rd_T46 x0 (wrap64 (x7 - 1))).f1))) (wrap64 (x7 + 1))) else (none)) else (none)) else (none))) else (some 0)
end
def spileref08_Check.f (k : Nat) (l0 : List (S46)) : Option (Int) := if (l0.length : Int) < 2 then (some 9) else (if (l0.length : Int) > 32 then (some 8) else (spileref08_Check.l0 k l0 0))
end Go.Proofs.YtnhmlneebnkjcaaDoor.Pr
namespace Go.Proofs.YtnhmlneebnkjcaaDoor.Pr
open Go.RowKit Go.Proofs.YtnhmlneebnkjcaaDoorW.PrintWords Go.Proofs.YtnhmlneebnkjcaaDoorW.PrintLast Go.Proofs.YtnhmlneebnkjcaaDoorW.PrintMore Go.Proofs.YtnhmlneebnkjcaaDoor.X
attribute [local go_sem] max2_int min2_int max_two min_two max_three min_three max_four min_four   -- for this text's walks alone
set_option linter.unusedVariables false
set_option linter.unusedSimpArgs false
def spileref09_Check.f (k : Nat) (a0_0 : ByteArray) (a0_1 : Int) (l0_2 : List (S46)) (a0_3 : Int) : Option (Int) := (spileref09_IsName.f k a0_0).bind fun t206 => (if t206 = true then (if a0_1 = 1 then (if a0_3 < 0 then (some 2) else (if a0_3 > 1073741824 then (some 2) else ((spileref08_Check.f k l0_2).bind fun t207 => (some t207)))) else (if a0_1 = 2 then (if a0_3 < 0 then (some 2) else (if a0_3 > 1073741824 then (some 2) else ((spileref08_Check.f k l0_2).bind fun t208 => (some t208)))) else (some 2))) else (some 4))
mutual
def spileref09_List.l0 : Nat → List (S27) → Int → Option (Int)
 | 0, _, _ => none
 | k + 1, x0, x3 => if x3 < (x0.length : Int) then (if 0 ≤ x3 then ((spileref09_Check.f k ((rd_T27 x0 x3).f0) ((rd_T27 x0 x3).f1) ((rd_T27 x0 x3).f2) ((rd_T27 x0 x3).f3)).bind fun t210 => (if t210 = 0 then (spileref09_List.l0 k x0 (wrap64 (x3 + 1))) else (some t210))) else (none)) else (spileref09_List.l1 k x0 0)
def spileref09_List.l1 : Nat → List (S27) → Int → Option (Int)
 | 0, _, _ => none
 | k + 1, x0, x5 => if x5 < (x0.length : Int) then (spileref09_List.l2 k x0 x5 0) else (some 0)
def spileref09_List.l2 : Nat → List (S27) → Int → Int → Option (Int)
 | 0, _, _, _ => none
 | k + 1, x0, x5, x6 => if x6 < x5 then (if 0 ≤ x5 then (if x5 < (x0.length : Int) then (if 0 ≤ x6 then (if x6 < (x0.length : Int) then (if ((rd_T27 x0 x5).f0).toList = ((rd_T27 x0 x6).f0).toList then (some 6) else (spileref09_List.l2 k x0 x5 (wrap64 (x6 + 1)))) else (none)) else (none)) else (none)) else (none)) else (spileref09_List.l1 k x0 (wrap64 (x5 + 1)))
end
def spileref09_List.f (k : Nat) (l0 : List (S27)) : Option (Int) := if (l0.length : Int) > 32 then (some 8) else (spileref09_List.l0 k l0 0)
end Go.Proofs.YtnhmlneebnkjcaaDoor.Pr
namespace Go.Proofs.YtnhmlneebnkjcaaDoor.Pr
open Go.RowKit Go.Proofs.YtnhmlneebnkjcaaDoorW.PrintWords Go.Proofs.YtnhmlneebnkjcaaDoorW.PrintLast Go.Proofs.YtnhmlneebnkjcaaDoorW.PrintMore Go.Proofs.YtnhmlneebnkjcaaDoor.X
attribute [local go_sem] max2_int min2_int max_two min_two max_three min_three max_four min_four   -- for this text's walks alone
set_option linter.unusedVariables false
set_option linter.unusedSimpArgs false
def spileref09_word.f (a0 : Int) : Option (ByteArray) := if a0 = 1 then (some (⟨#[108, 121, 105, 110, 103]⟩ : ByteArray)) else (some (⟨#[115, 116, 97, 110, 100, 105, 110, 103]⟩ : ByteArray))
mutual
def spileref09_Print.l0 : Nat → List (S27) → ByteArray → Int → Option (ByteArray × Int)
 | 0, _, _, _ => none
 | k + 1, x0, x5, x6 => if x6 < (x0.length : Int) then (if 0 ≤ x6 then (if 5 + ((rd_T27 x0 x6).f0).size ≤ 9223372036854775807 then (if ((⟨#[99, 97, 115, 107, 32]⟩ : ByteArray) ++ ((rd_T27 x0 x6).f0)).size + 1 ≤ 9223372036854775807 then ((spileref09_word.f ((rd_T27 x0 x6).f1)).bind fun t276 => (if (((⟨#[99, 97, 115, 107, 32]⟩ : ByteArray) ++ ((rd_T27 x0 x6).f0)) ++ (⟨#[32]⟩ : ByteArray)).size + t276.size ≤ 9223372036854775807 then (if ((((⟨#[99, 97, 115, 107, 32]⟩ : ByteArray) ++ ((rd_T27 x0 x6).f0)) ++ (⟨#[32]⟩ : ByteArray)) ++ t276).size + 10 ≤ 9223372036854775807 then ((strconv_Itoa.f ((rd_T27 x0 x6).f3)).bind fun t277 => (if (((((⟨#[99, 97, 115, 107, 32]⟩ : ByteArray) ++ ((rd_T27 x0 x6).f0)) ++ (⟨#[32]⟩ : ByteArray)) ++ t276) ++ (⟨#[32, 100, 101, 99, 108, 97, 114, 101, 100, 32]⟩ : ByteArray)).size + t277.size ≤ 9223372036854775807 then (if ((((((⟨#[99, 97, 115, 107, 32]⟩ : ByteArray) ++ ((rd_T27 x0 x6).f0)) ++ (⟨#[32]⟩ : ByteArray)) ++ t276) ++ (⟨#[32, 100, 101, 99, 108, 97, 114, 101, 100, 32]⟩ : ByteArray)) ++ t277).size + 1 ≤ 9223372036854775807 then (if x5.size + (((((((⟨#[99, 97, 115, 107, 32]⟩ : ByteArray) ++ ((rd_T27 x0 x6).f0)) ++ (⟨#[32]⟩ : ByteArray)) ++ t276) ++ (⟨#[32, 100, 101, 99, 108, 97, 114, 101, 100, 32]⟩ : ByteArray)) ++ t277) ++ (⟨#[10]⟩ : ByteArray)).size ≤ 9223372036854775807 then (spileref09_Print.l1 k x0 (x5 ++ (((((((⟨#[99, 97, 115, 107, 32]⟩ : ByteArray) ++ ((rd_T27 x0 x6).f0)) ++ (⟨#[32]⟩ : ByteArray)) ++ t276) ++ (⟨#[32, 100, 101, 99, 108, 97, 114, 101, 100, 32]⟩ : ByteArray)) ++ t277) ++ (⟨#[10]⟩ : ByteArray))) x6 0 ((rd_T27 x0 x6).f0) ((rd_T27 x0 x6).f1) ((rd_T27 x0 x6).f2) ((rd_T27 x0 x6).f3)) else (none)) else (none)) else (none))) else (none)) else (none))) else (none)) else (none)) else (none)) else (some (x5, 0))
def spileref09_Print.l1 : Nat → List (S27) → ByteArray → Int → Int → ByteArray → Int → List (S46) → Int → Option (ByteArray × Int)
 | 0, _, _, _, _, _, _, _, _ => none
 | k + 1, x0, x5, x6, x8, x276000, x276001, x276002, x276003 => if x8 < (x276002.length : Int) then (if 0 ≤ x8 then ((strconv_Itoa.f ((rd_T46 x276002 x8).f0)).bind fun t279 => (if 3 + t279.size ≤ 9223372036854775807 then (if ((⟨#[97, 116, 32]⟩ : ByteArray) ++ t279).size + 8 ≤ 9223372036854775807 then ((strconv_Itoa.f ((rd_T46 x276002 x8).f1)).bind fun t281 => (if (((⟨#[97, 116, 32]⟩ : ByteArray) ++ t279) ++ (⟨#[32, 114, 97, 100, 105, 117, 115, 32]⟩ : ByteArray)).size + t281.size ≤ 9223372036854775807 then (if ((((⟨#[97, 116, 32]⟩ : ByteArray) ++ t279) ++ (⟨#[32, 114, 97, 100, 105, 117, 115, 32]⟩ : ByteArray)) ++ t281).size + 1 ≤ 9223372036854775807 then (if x5.size + (((((⟨#[97, 116, 32]⟩ : ByteArray) ++ t279) ++ (⟨#[32, 114, 97, 100, 105, 117, 115, 32]⟩ : ByteArray)) ++ t281) ++ (⟨#[10]⟩ : ByteArray)).size ≤ 9223372036854775807 then (spileref09_Print.l1 k x0 (x5 ++ (((((⟨#[97, 116, 32]⟩ : ByteArray) ++ t279) ++ (⟨#[32, 114, 97, 100, 105, 117, 115, 32]⟩ : ByteArray)) ++ t281) ++ (⟨#[10]⟩ : ByteArray))) x6 (wrap64 (x8 + 1)) x276000 x276001 x276002 x276003) else (none)) else (none)) else (none))) else (none)) else (none))) else (none)) else (if x5.size + 4 ≤ 9223372036854775807 then (spileref09_Print.l0 k x0 (x5 ++ (⟨#[101, 110, 100, 10]⟩ : ByteArray)) (wrap64 (x6 + 1))) else (none))
end
def spileref09_Print.f (k : Nat) (l0 : List (S27)) : Option (ByteArray × Int) := (spileref09_List.f k l0).bind fun t273 => (if t273 = 0 then (spileref09_Print.l0 k l0 (⟨#[]⟩ : ByteArray) 0) else (some ((⟨#[]⟩ : ByteArray), t273)))
end Go.Proofs.YtnhmlneebnkjcaaDoor.Pr
namespace Go.Proofs.YtnhmlneebnkjcaaDoor.Pr
open Go.RowKit Go.Proofs.YtnhmlneebnkjcaaDoorW.PrintWords Go.Proofs.YtnhmlneebnkjcaaDoorW.PrintLast Go.Proofs.YtnhmlneebnkjcaaDoorW.PrintMore Go.Proofs.YtnhmlneebnkjcaaDoor.X
attribute [local go_sem] max2_int min2_int max_two min_two max_three min_three max_four min_four   -- for this text's walks alone
set_option linter.unusedVariables false
set_option linter.unusedSimpArgs false
def spilelaw09_CaskJoined.f (k : Nat) (l0 : List (S27)) (a1 : Int) : Option (Bool) := (spilelaw09_awake.f).bind fun t382 => (if t382 = true then ((spileref09_Few.f k l0).bind fun t383 => (if t383 = true then ((spileref09_Copy.f k l0).bind fun t384 => ((cask_Print.f k t384).bind fun bt387 => (if bt387.2 = 0 then (if (wrap64 ((l0.length : Int) + 1)) = 0 then (none) else (if 0 ≤ (Int.tmod (wrap64 (a1)) (wrap64 ((l0.length : Int) + 1))) then (if (Int.tmod (wrap64 (a1)) (wrap64 ((l0.length : Int) + 1))) ≤ (l0.length : Int) then ((spileref09_Copy.f k (l0.take ((Int.tmod (wrap64 (a1)) (wrap64 ((l0.length : Int) + 1))) : Int).toNat)).bind fun t393 => ((cask_Print.f k t393).bind fun bt396 => ((spileref09_Copy.f k (l0.drop ((Int.tmod (wrap64 (a1)) (wrap64 ((l0.length : Int) + 1))) : Int).toNat)).bind fun t402 => ((cask_Print.f k t402).bind fun bt405 => (if bt396.2 = 0 then (if bt405.2 = 0 then (if bt396.1.size + bt405.1.size ≤ 9223372036854775807 then (some ((bt396.1 ++ bt405.1).toList == bt387.1.toList)) else (none)) else (none)) else (none)))))) else (none)) else (none))) else (some (bt387.1.toList == ([] : List UInt8)))))) else (some true))) else (none))
set_option maxHeartbeats 8000000 in
set_option maxRecDepth 100000 in
theorem spilelaw09_CaskJoined.calls (k : Nat) (A0 : Option Addr) (c0 : Nat) (l0 : List (S27)) (a1 : Int) (r : Bool) (w : World) (hr0 : Kd.C k27 w A0 l0.length l0) (hc0 : l0.length ≤ c0) (hG : GI w) (hr_ : r = true) (h : spilelaw09_CaskJoined.f k l0 a1 = some r) :
  Calls Tryd.prog 8 #[.slice A0 l0.length c0, .int .u8 a1] w fun e w' => e = .returned (.bool r) ∧ Below w.heap.size w w' := by
 have HR0 := Aside0.mk hr0; have HC0 := Aside0.mk hc0; clear hr0 hc0; have HG := Aside0.mk hG; clear hG; have HB := Aside0.mk (Below.refl w.heap.size w); have H : ((spilelaw09_awake.f).bind fun t382 => (if t382 = true then ((spileref09_Few.f k l0).bind fun t383 => (if t383 = true then ((spileref09_Copy.f k l0).bind fun t384 => ((cask_Print.f k t384).bind fun bt387 => (if bt387.2 = 0 then (if (wrap64 ((l0.length : Int) + 1)) = 0 then (none) else (if 0 ≤ (Int.tmod (wrap64 (a1)) (wrap64 ((l0.length : Int) + 1))) then (if (Int.tmod (wrap64 (a1)) (wrap64 ((l0.length : Int) + 1))) ≤ (l0.length : Int) then ((spileref09_Copy.f k (l0.take ((Int.tmod (wrap64 (a1)) (wrap64 ((l0.length : Int) + 1))) : Int).toNat)).bind fun t393 => ((cask_Print.f k t393).bind fun bt396 => ((spileref09_Copy.f k (l0.drop ((Int.tmod (wrap64 (a1)) (wrap64 ((l0.length : Int) + 1))) : Int).toNat)).bind fun t402 => ((cask_Print.f k t402).bind fun bt405 => (if bt396.2 = 0 then (if bt405.2 = 0 then (if bt396.1.size + bt405.1.size ≤ 9223372036854775807 then (some ((bt396.1 ++ bt405.1).toList == bt387.1.toList)) else (none)) else (none)) else (none)))))) else (none)) else (none))) else (some (bt387.1.toList == ([] : List UInt8)))))) else (some true))) else (none))) = some r := h; clear h; replace H := Option.bind_eq_some_iff.mp H; obtain ⟨t382, A30, H⟩ := H; replace H : (if t382 = true then ((spileref09_Few.f k l0).bind fun t383 => (if t383 = true then ((spileref09_Copy.f k l0).bind fun t384 => ((cask_Print.f k t384).bind fun bt387 => (if bt387.2 = 0 then (if (wrap64 ((l0.length : Int) + 1)) = 0 then (none) else (if 0 ≤ (Int.tmod (wrap64 (a1)) (wrap64 ((l0.length : Int) + 1))) then (if (Int.tmod (wrap64 (a1)) (wrap64 ((l0.length : Int) + 1))) ≤ (l0.length : Int) then ((spileref09_Copy.f k (l0.take ((Int.tmod (wrap64 (a1)) (wrap64 ((l0.length : Int) + 1))) : Int).toNat)).bind fun t393 => ((cask_Print.f k t393).bind fun bt396 => ((spileref09_Copy.f k (l0.drop ((Int.tmod (wrap64 (a1)) (wrap64 ((l0.length : Int) + 1))) : Int).toNat)).bind fun t402 => ((cask_Print.f k t402).bind fun bt405 => (if bt396.2 = 0 then (if bt405.2 = 0 then (if bt396.1.size + bt405.1.size ≤ 9223372036854775807 then (some ((bt396.1 ++ bt405.1).toList == bt387.1.toList)) else (none)) else (none)) else (none)))))) else (none)) else (none))) else (some (bt387.1.toList == ([] : List UInt8)))))) else (some true))) else (none)) = some r := H; have A3 := Aside0.mk A30; clear A30; by_cases c4 : t382 = true
 ·
  subst c4; have H1 : ((spileref09_Few.f k l0).bind fun t383 => (if t383 = true then ((spileref09_Copy.f k l0).bind fun t384 => ((cask_Print.f k t384).bind fun bt387 => (if bt387.2 = 0 then (if (wrap64 ((l0.length : Int) + 1)) = 0 then (none) else (if 0 ≤ (Int.tmod (wrap64 (a1)) (wrap64 ((l0.length : Int) + 1))) then (if (Int.tmod (wrap64 (a1)) (wrap64 ((l0.length : Int) + 1))) ≤ (l0.length : Int) then ((spileref09_Copy.f k (l0.take ((Int.tmod (wrap64 (a1)) (wrap64 ((l0.length : Int) + 1))) : Int).toNat)).bind fun t393 => ((cask_Print.f k t393).bind fun bt396 => ((spileref09_Copy.f k (l0.drop ((Int.tmod (wrap64 (a1)) (wrap64 ((l0.length : Int) + 1))) : Int).toNat)).bind fun t402 => ((cask_Print.f k t402).bind fun bt405 => (if bt396.2 = 0 then (if bt405.2 = 0 then (if bt396.1.size + bt405.1.size ≤ 9223372036854775807 then (some ((bt396.1 ++ bt405.1).toList == bt387.1.toList)) else (none)) else (none)) else (none)))))) else (none)) else (none))) else (some (bt387.1.toList == ([] : List UInt8)))))) else (some true))) = some r := by rw [if_pos rfl] at H; exact H
  clear H; have H := H1; clear H1; replace H := Option.bind_eq_some_iff.mp H; obtain ⟨t383, A50, H⟩ := H; replace H : (if t383 = true then ((spileref09_Copy.f k l0).bind fun t384 => ((cask_Print.f k t384).bind fun bt387 => (if bt387.2 = 0 then (if (wrap64 ((l0.length : Int) + 1)) = 0 then (none) else (if 0 ≤ (Int.tmod (wrap64 (a1)) (wrap64 ((l0.length : Int) + 1))) then (if (Int.tmod (wrap64 (a1)) (wrap64 ((l0.length : Int) + 1))) ≤ (l0.length : Int) then ((spileref09_Copy.f k (l0.take ((Int.tmod (wrap64 (a1)) (wrap64 ((l0.length : Int) + 1))) : Int).toNat)).bind fun t393 => ((cask_Print.f k t393).bind fun bt396 => ((spileref09_Copy.f k (l0.drop ((Int.tmod (wrap64 (a1)) (wrap64 ((l0.length : Int) + 1))) : Int).toNat)).bind fun t402 => ((cask_Print.f k t402).bind fun bt405 => (if bt396.2 = 0 then (if bt405.2 = 0 then (if bt396.1.size + bt405.1.size ≤ 9223372036854775807 then (some ((bt396.1 ++ bt405.1).toList == bt387.1.toList)) else (none)) else (none)) else (none)))))) else (none)) else (none))) else (some (bt387.1.toList == ([] : List UInt8)))))) else (some true)) = some r := H; have A5 := Aside0.mk A50; clear A50; by_cases c6 : t383 = true
  ·
   subst c6; have H1 : ((spileref09_Copy.f k l0).bind fun t384 => ((cask_Print.f k t384).bind fun bt387 => (if bt387.2 = 0 then (if (wrap64 ((l0.length : Int) + 1)) = 0 then (none) else (if 0 ≤ (Int.tmod (wrap64 (a1)) (wrap64 ((l0.length : Int) + 1))) then (if (Int.tmod (wrap64 (a1)) (wrap64 ((l0.length : Int) + 1))) ≤ (l0.length : Int) then ((spileref09_Copy.f k (l0.take ((Int.tmod (wrap64 (a1)) (wrap64 ((l0.length : Int) + 1))) : Int).toNat)).bind fun t393 => ((cask_Print.f k t393).bind fun bt396 => ((spileref09_Copy.f k (l0.drop ((Int.tmod (wrap64 (a1)) (wrap64 ((l0.length : Int) + 1))) : Int).toNat)).bind fun t402 => ((cask_Print.f k t402).bind fun bt405 => (if bt396.2 = 0 then (if bt405.2 = 0 then (if bt396.1.size + bt405.1.size ≤ 9223372036854775807 then (some ((bt396.1 ++ bt405.1).toList == bt387.1.toList)) else (none)) else (none)) else (none)))))) else (none)) else (none))) else (some (bt387.1.toList == ([] : List UInt8)))))) = some r := by rw [if_pos rfl] at H; exact H
   clear H; have H := H1; clear H1; replace H := Option.bind_eq_some_iff.mp H; obtain ⟨t384, A70, H⟩ := H; replace H : ((cask_Print.f k t384).bind fun bt387 => (if bt387.2 = 0 then (if (wrap64 ((l0.length : Int) + 1)) = 0 then (none) else (if 0 ≤ (Int.tmod (wrap64 (a1)) (wrap64 ((l0.length : Int) + 1))) then (if (Int.tmod (wrap64 (a1)) (wrap64 ((l0.length : Int) + 1))) ≤ (l0.length : Int) then ((spileref09_Copy.f k (l0.take ((Int.tmod (wrap64 (a1)) (wrap64 ((l0.length : Int) + 1))) : Int).toNat)).bind fun t393 => ((cask_Print.f k t393).bind fun bt396 => ((spileref09_Copy.f k (l0.drop ((Int.tmod (wrap64 (a1)) (wrap64 ((l0.length : Int) + 1))) : Int).toNat)).bind fun t402 => ((cask_Print.f k t402).bind fun bt405 => (if bt396.2 = 0 then (if bt405.2 = 0 then (if bt396.1.size + bt405.1.size ≤ 9223372036854775807 then (some ((bt396.1 ++ bt405.1).toList == bt387.1.toList)) else (none)) else (none)) else (none)))))) else (none)) else (none))) else (some (bt387.1.toList == ([] : List UInt8))))) = some r := H; have A7 := Aside0.mk A70; clear A70; replace H := Option.bind_eq_some_iff.mp H; obtain ⟨⟨t387, t388⟩, A80, H⟩ := H; replace H : (if t388 = 0 then (if (wrap64 ((l0.length : Int) + 1)) = 0 then (none) else (if 0 ≤ (Int.tmod (wrap64 (a1)) (wrap64 ((l0.length : Int) + 1))) then (if (Int.tmod (wrap64 (a1)) (wrap64 ((l0.length : Int) + 1))) ≤ (l0.length : Int) then ((spileref09_Copy.f k (l0.take ((Int.tmod (wrap64 (a1)) (wrap64 ((l0.length : Int) + 1))) : Int).toNat)).bind fun t393 => ((cask_Print.f k t393).bind fun bt396 => ((spileref09_Copy.f k (l0.drop ((Int.tmod (wrap64 (a1)) (wrap64 ((l0.length : Int) + 1))) : Int).toNat)).bind fun t402 => ((cask_Print.f k t402).bind fun bt405 => (if bt396.2 = 0 then (if bt405.2 = 0 then (if bt396.1.size + bt405.1.size ≤ 9223372036854775807 then (some ((bt396.1 ++ bt405.1).toList == t387.toList)) else (none)) else (none)) else (none)))))) else (none)) else (none))) else (some (t387.toList == ([] : List UInt8)))) = some r := H; have A8 := Aside0.mk A80; clear A80; by_cases c9 : t388 = 0
   ·
    rw [if_pos c9] at H; have c9b0 : (t388 == 0) = true := beq_iff_eq.mpr c9; have c9b1 : (t388 != 0) = false := bne_eq_false_iff_eq.mpr c9; clear c9; by_cases c10 : (wrap64 ((l0.length : Int) + 1)) = 0
    · rw [if_pos c10] at H; exact absurd H (by simp)
    ·
     rw [if_neg c10] at H; have c10b0 : ((wrap64 ((l0.length : Int) + 1)) == 0) = false := beq_eq_false_iff_ne.mpr c10; have c10b1 : ((wrap64 ((l0.length : Int) + 1)) != 0) = true := bne_iff_ne.mpr c10; obtain ⟨ji11, hji11⟩ : ∃ j_ : Int, (Int.tmod (wrap64 (a1)) (wrap64 ((l0.length : Int) + 1))) = j_ := ⟨_, rfl⟩; replace H : (if 0 ≤ (ji11) then (if (ji11) ≤ (l0.length : Int) then ((spileref09_Copy.f k (l0.take ((ji11) : Int).toNat)).bind fun t393 => ((cask_Print.f k t393).bind fun bt396 => ((spileref09_Copy.f k (l0.drop ((ji11) : Int).toNat)).bind fun t402 => ((cask_Print.f k t402).bind fun bt405 => (if bt396.2 = 0 then (if bt405.2 = 0 then (if bt396.1.size + bt405.1.size ≤ 9223372036854775807 then (some ((bt396.1 ++ bt405.1).toList == t387.toList)) else (none)) else (none)) else (none)))))) else (none)) else (none)) = some r := by first | (rw [hji11] at H; exact H) | (simp only [hji11] at H ⊢; exact H)
     (try rw [hji11] at A3)
     (try rw [hji11] at A5)
     (try rw [hji11] at A7)
     (try rw [hji11] at A8)
     by_cases c12 : 0 ≤ (ji11)
     ·
      rw [if_pos c12] at H; have c12b0 := eq_true c12; have c12b1 : decide (0 ≤ (ji11)) = true := decide_eq_true c12; clear c12; by_cases c13 : (ji11) ≤ (l0.length : Int)
      ·
       rw [if_pos c13] at H; have c13b0 := eq_true c13; have c13b1 : decide ((ji11) ≤ (l0.length : Int)) = true := decide_eq_true c13; clear c13; obtain ⟨y389, hy389⟩ : ∃ y_ : List (S27), y_ = (l0.take ((ji11) : Int).toNat) := ⟨_, rfl⟩; replace H : ((spileref09_Copy.f k y389).bind fun t393 => ((cask_Print.f k t393).bind fun bt396 => ((spileref09_Copy.f k (l0.drop ((ji11) : Int).toNat)).bind fun t402 => ((cask_Print.f k t402).bind fun bt405 => (if bt396.2 = 0 then (if bt405.2 = 0 then (if bt396.1.size + bt405.1.size ≤ 9223372036854775807 then (some ((bt396.1 ++ bt405.1).toList == t387.toList)) else (none)) else (none)) else (none)))))) = some r := by first | (rw [hy389]; with_reducible exact H) | (have H2_ := (Option.bind_some _ _).symm.trans H; rw [hy389]; with_reducible exact H2_) | (have H2_ := (Option.bind_some _ _).symm.trans H; with_reducible exact H2_) | with_reducible exact H | (rw [hy389]; exact H) | exact H
       have Ny389 := Aside0.mk hy389; clear hy389; replace H := Option.bind_eq_some_iff.mp H; obtain ⟨t393, A140, H⟩ := H; replace H : ((cask_Print.f k t393).bind fun bt396 => ((spileref09_Copy.f k (l0.drop ((ji11) : Int).toNat)).bind fun t402 => ((cask_Print.f k t402).bind fun bt405 => (if bt396.2 = 0 then (if bt405.2 = 0 then (if bt396.1.size + bt405.1.size ≤ 9223372036854775807 then (some ((bt396.1 ++ bt405.1).toList == t387.toList)) else (none)) else (none)) else (none))))) = some r := H; have A14 := Aside0.mk A140; clear A140; replace H := Option.bind_eq_some_iff.mp H; obtain ⟨⟨t396, t397⟩, A150, H⟩ := H; replace H : ((spileref09_Copy.f k (l0.drop ((ji11) : Int).toNat)).bind fun t402 => ((cask_Print.f k t402).bind fun bt405 => (if t397 = 0 then (if bt405.2 = 0 then (if t396.size + bt405.1.size ≤ 9223372036854775807 then (some ((t396 ++ bt405.1).toList == t387.toList)) else (none)) else (none)) else (none)))) = some r := H; have A15 := Aside0.mk A150; clear A150; have c16b0 := eq_true (of_decide_eq_true (by first | (with_reducible assumption) | assumption) : 0 ≤ (ji11)); have c17b0 := eq_true (of_decide_eq_true (by first | (with_reducible assumption) | assumption) : (ji11) ≤ (l0.length : Int)); obtain ⟨y398, hy398⟩ : ∃ y_ : List (S27), y_ = (l0.drop ((ji11) : Int).toNat) := ⟨_, rfl⟩; replace H : ((spileref09_Copy.f k y398).bind fun t402 => ((cask_Print.f k t402).bind fun bt405 => (if t397 = 0 then (if bt405.2 = 0 then (if t396.size + bt405.1.size ≤ 9223372036854775807 then (some ((t396 ++ bt405.1).toList == t387.toList)) else (none)) else (none)) else (none)))) = some r := by first | (rw [hy398]; with_reducible exact H) | (have H2_ := (Option.bind_some _ _).symm.trans H; rw [hy398]; with_reducible exact H2_) | (have H2_ := (Option.bind_some _ _).symm.trans H; with_reducible exact H2_) | with_reducible exact H | (rw [hy398]; exact H) | exact H
       have Ny398 := Aside0.mk hy398; clear hy398; replace H := Option.bind_eq_some_iff.mp H; obtain ⟨t402, A180, H⟩ := H; replace H : ((cask_Print.f k t402).bind fun bt405 => (if t397 = 0 then (if bt405.2 = 0 then (if t396.size + bt405.1.size ≤ 9223372036854775807 then (some ((t396 ++ bt405.1).toList == t387.toList)) else (none)) else (none)) else (none))) = some r := H; have A18 := Aside0.mk A180; clear A180; replace H := Option.bind_eq_some_iff.mp H; obtain ⟨⟨t405, t406⟩, A190, H⟩ := H; replace H : (if t397 = 0 then (if t406 = 0 then (if t396.size + t405.size ≤ 9223372036854775807 then (some ((t396 ++ t405).toList == t387.toList)) else (none)) else (none)) else (none)) = some r := H; have A19 := Aside0.mk A190; clear A190; by_cases c20 : t397 = 0
       ·
        rw [if_pos c20] at H; have c20b0 : (t397 == 0) = true := beq_iff_eq.mpr c20; have c20b1 : (t397 != 0) = false := bne_eq_false_iff_eq.mpr c20; clear c20; by_cases c21 : t406 = 0
        ·
         rw [if_pos c21] at H; have c21b0 : (t406 == 0) = true := beq_iff_eq.mpr c21; have c21b1 : (t406 != 0) = false := bne_eq_false_iff_eq.mpr c21; clear c21; by_cases c22 : t396.size + t405.size ≤ 9223372036854775807
         ·
          rw [if_pos c22] at H; have c22b0 := eq_true c22; have c22b1 : decide (t396.size + t405.size ≤ 9223372036854775807) = true := decide_eq_true c22; try have c22b2 : (9223372036854775807 < t396.size + t405.size) = False := eq_false (Nat.not_lt.2 c22)
          obtain rfl := Option.some.inj H; go_enter Tryd.func8, Tryd.ntmps8
          go_wp2_with (first | ((with_reducible refine gate_callee (f := 10) rfl ?_); refine goesL_ (some 12) rfl rfl Tryd.func10 (by kernel_rfl) rfl #[] rfl (by (try simp only [List.map_toArray, List.map_cons, List.map_nil]); first | done | rfl | (simp only [List.length_drop, List.length_take]; rfl)) ?_; (with_reducible refine (spilelaw09_awake.calls  true _ ?side1 A3.out).mono ?_); (case side1 => exact GI.below HG.out (by repeat (first | (with_reducible first | exact HB.out | apply below_alloc | apply pw_below_drewN | apply below_drew1) | exact HB.out))); rintro e w23 ⟨rfl, hb⟩; refine ⟨_, rfl, ?_⟩; have n0_ := Aside0.mk (below_step (by repeat (first | (with_reducible first | exact HB.out | apply below_alloc | apply pw_below_drewN | apply below_drew1) | exact HB.out)) hb); clear HB; have HB := n0_; clear n0_; (try clear hb); (try clear hb2); (try clear hk); (try clear hi)) | ((with_reducible refine gate_callee (f := 11) rfl ?_); refine goesL_ (some 15) rfl rfl Tryd.func11 (by kernel_rfl) rfl #[.slice A0 l0.length c0] rfl (by (try simp only [List.map_toArray, List.map_cons, List.map_nil]); first | done | rfl | (simp only [List.length_drop, List.length_take]; rfl)) ?_; (with_reducible refine (spileref09_Few.calls k _ _ l0 true _ ?side1 ?side2 A5.out).mono ?_); (case side1 => repeat (first | exact (Kd.C_below HR0.out HB.out) | (with_reducible refine Kd.C_alloc ?_ _) | (with_reducible refine Kd.C_drewN ?_ _) | (with_reducible refine Kd.C_drew ?_))); (case side2 => exact HC0.out); rintro e w' ⟨rfl, ⟨nd, rfl⟩⟩; refine ⟨_, rfl, ?_⟩) | ((with_reducible refine gate_callee (f := 13) rfl ?_); refine goesL_ (some 19) rfl rfl Tryd.func13 (by kernel_rfl) rfl #[.slice A0 l0.length c0] rfl (by (try simp only [List.map_toArray, List.map_cons, List.map_nil]); first | done | rfl | (simp only [List.length_drop, List.length_take]; rfl)) ?_; (with_reducible refine (spileref09_Copy.calls k _ _ l0 t384 _ ?side1 ?side2 A7.out).mono ?_); (case side1 => repeat (first | exact (Kd.C_below HR0.out (by repeat (first | (with_reducible first | exact HB.out | apply below_alloc | apply pw_below_drewN | apply below_drew1) | exact HB.out))) | (with_reducible refine Kd.C_alloc ?_ _) | (with_reducible refine Kd.C_drewN ?_ _) | (with_reducible refine Kd.C_drew ?_))); (case side2 => exact HC0.out); rintro e w24 ⟨v385, rfl, ho0, hb⟩; refine ⟨_, rfl, ?_⟩; have n0_ := Aside0.mk (Kd.S_lower ho0 (below_size (by repeat (first | (with_reducible first | exact HB.out | apply below_alloc | apply pw_below_drewN | apply below_drew1) | exact HB.out)))); have n1_ := Aside0.mk (below_step (by repeat (first | (with_reducible first | exact HB.out | apply below_alloc | apply pw_below_drewN | apply below_drew1) | exact HB.out)) hb); clear HB; have HO386 := n0_; have HB := n1_; clear n0_ n1_; (try clear hb); (try clear hb2); (try clear hk); (try clear hi); (try clear ho0); obtain ⟨Ao25, co25, eo25⟩ := Kd.S_slice HO386.out; subst eo25) | ((with_reducible refine gate_callee (f := 22) rfl ?_); refine goesL_ (some 20) rfl rfl Tryd.func22 (by kernel_rfl) rfl #[.slice Ao25 t384.length co25] rfl (by (try simp only [List.map_toArray, List.map_cons, List.map_nil]); first | done | rfl | (simp only [List.length_drop, List.length_take]; rfl)) ?_; (with_reducible refine (cask_Print.calls k _ _ t384 t387 t388 _ ?side1 ?side2 ?side3 A8.out).mono ?_); (case side1 => repeat (first | exact (Kd.S_reads' HO386.out).2.2 | (with_reducible refine Kd.C_alloc ?_ _) | (with_reducible refine Kd.C_drewN ?_ _) | (with_reducible refine Kd.C_drew ?_))); (case side2 => exact (Kd.S_reads' HO386.out).2.1); (case side3 => exact GI.below HG.out (by repeat (first | (with_reducible first | exact HB.out | apply below_alloc | apply pw_below_drewN | apply below_drew1) | exact HB.out))); rintro e w26 ⟨rfl, hb⟩; refine ⟨_, rfl, ?_⟩; have n0_ := Aside0.mk (Kd.S_below (by (with_reducible repeat (first | apply Kd.S_alloc | apply Kd.S_drewN | apply Kd.S_drew)); exact HO386.out) hb); have n1_ := Aside0.mk (below_step (by repeat (first | (with_reducible first | exact HB.out | apply below_alloc | apply pw_below_drewN | apply below_drew1) | exact HB.out)) hb); clear HO386; clear HB; have HO386 := n0_; have HB := n1_; clear n0_ n1_; (try clear hb); (try clear hb2); (try clear hk); (try clear hi); have q27 : ((ji11) : Int) ≤ ((l0.length : Int) : Int) := of_decide_eq_true (by first | (with_reducible assumption) | assumption); obtain ⟨i027, hi027, _, hsz27, _⟩ := info_parts info27; have hroom27 : l0.length ≤ c0 := HC0.out; have hC27 : Kd.C k27 _ A0 l0.length l0 := HR0.out; have hcut27 := cut_to (P := Tryd.prog) 22 27 .i64 Tryd.underlying22 hi027 A0 l0.length c0 (ji11) (of_decide_eq_true (by first | (with_reducible assumption) | assumption)) q27 hroom27; have hr27 := Kd.C_take (m := ((ji11) : Int).toNat) hC27 (by omega); have hy27 : y389.length = ((ji11) : Int).toNat := (by rw [Ny389.out, List.length_take]; omega); rw [← Ny389.out] at hr27; rw [← hy27] at hcut27; have HR392 := Aside0.mk hr27; have HC392 := Aside0.mk (show y389.length ≤ c0 from by omega); clear hr27 hC27 hroom27 hi027 hsz27; have KY27 := Aside0.mk hy27; clear hy27; replace q27 := eq_true q27) | ((with_reducible refine gate_callee (f := 13) rfl ?_); refine goesL_ (some 37) rfl rfl Tryd.func13 (by kernel_rfl) rfl #[.slice A0 y389.length c0] rfl (by (try simp only [List.map_toArray, List.map_cons, List.map_nil]); first | done | rfl | (simp only [List.length_drop, List.length_take]; rfl)) ?_; (with_reducible refine (spileref09_Copy.calls k _ _ y389 t393 _ ?side1 ?side2 A14.out).mono ?_); (case side1 => repeat (first | exact (Kd.C_below HR392.out HB.out) | (with_reducible refine Kd.C_alloc ?_ _) | (with_reducible refine Kd.C_drewN ?_ _) | (with_reducible refine Kd.C_drew ?_))); (case side2 => exact HC392.out); rintro e w28 ⟨v394, rfl, ho0, hb⟩; refine ⟨_, rfl, ?_⟩; have n0_ := Aside0.mk (Kd.S_elder' (by (with_reducible repeat (first | apply Kd.S_alloc | apply Kd.S_drewN | apply Kd.S_drew)); exact HO386.out) (Kd.S_base ho0) hb); have n1_ := Aside0.mk (Kd.S_lower (Kd.S_new' ho0 (Kd.S_lt (by (with_reducible repeat (first | apply Kd.S_alloc | apply Kd.S_drewN | apply Kd.S_drew)); exact HO386.out))) (below_size (by repeat (first | (with_reducible first | exact HB.out | apply below_alloc | apply pw_below_drewN | apply below_drew1) | exact HB.out)))); have n2_ := Aside0.mk (below_step (by repeat (first | (with_reducible first | exact HB.out | apply below_alloc | apply pw_below_drewN | apply below_drew1) | exact HB.out)) hb); clear HO386; clear HB; have HO386 := n0_; have HO395 := n1_; have HB := n2_; clear n0_ n1_ n2_; (try clear hb); (try clear hb2); (try clear hk); (try clear hi); (try clear ho0); obtain ⟨Ao29, co29, eo29⟩ := Kd.S_slice HO395.out; subst eo29) | ((with_reducible refine gate_callee (f := 22) rfl ?_); refine goesL_ (some 38) rfl rfl Tryd.func22 (by kernel_rfl) rfl #[.slice Ao29 t393.length co29] rfl (by (try simp only [List.map_toArray, List.map_cons, List.map_nil]); first | done | rfl | (simp only [List.length_drop, List.length_take]; rfl)) ?_; (with_reducible refine (cask_Print.calls k _ _ t393 t396 t397 _ ?side1 ?side2 ?side3 A15.out).mono ?_); (case side1 => repeat (first | exact (Kd.S_reads' HO395.out).2.2 | (with_reducible refine Kd.C_alloc ?_ _) | (with_reducible refine Kd.C_drewN ?_ _) | (with_reducible refine Kd.C_drew ?_))); (case side2 => exact (Kd.S_reads' HO395.out).2.1); (case side3 => exact GI.below HG.out (by repeat (first | (with_reducible first | exact HB.out | apply below_alloc | apply pw_below_drewN | apply below_drew1) | exact HB.out))); rintro e w30 ⟨rfl, hb⟩; refine ⟨_, rfl, ?_⟩; have n0_ := Aside0.mk (Kd.S_below (by (with_reducible repeat (first | apply Kd.S_alloc | apply Kd.S_drewN | apply Kd.S_drew)); exact HO386.out) hb); have n1_ := Aside0.mk (Kd.S_below (by (with_reducible repeat (first | apply Kd.S_alloc | apply Kd.S_drewN | apply Kd.S_drew)); exact HO395.out) hb); have n2_ := Aside0.mk (below_step (by repeat (first | (with_reducible first | exact HB.out | apply below_alloc | apply pw_below_drewN | apply below_drew1) | exact HB.out)) hb); clear HO386; clear HO395; clear HB; have HO386 := n0_; have HO395 := n1_; have HB := n2_; clear n0_ n1_ n2_; (try clear hb); (try clear hb2); (try clear hk); (try clear hi); have q31 : ((ji11) : Int) ≤ ((l0.length : Int) : Int) := of_decide_eq_true (by first | (with_reducible assumption) | assumption); obtain ⟨i031, hi031, _, hsz31, _⟩ := info_parts info27; have hroom31 : l0.length ≤ c0 := HC0.out; have hC31 : Kd.C k27 _ A0 l0.length l0 := HR0.out; have q031 : (0 : Int) ≤ ((ji11) : Int) := of_decide_eq_true (by first | (with_reducible assumption) | assumption); have hcut31 := cut_from (P := Tryd.prog) 22 27 .i64 Tryd.underlying22 hi031 4 hsz31 A0 l0.length c0 (ji11) q031 q31; have hr31 := Kd.C_drop (m := ((ji11) : Int).toNat) (c := c0) hC31 (by omega) hroom31; obtain ⟨A31, hA31⟩ : ∃ A1, A1 = (if c0 = ((ji11) : Int).toNat then A0 else (A0 : Option Addr).map (·.add (((ji11) : Int).toNat * 4))) := ⟨_, rfl⟩; obtain ⟨c31, hc31⟩ : ∃ c1, c1 = c0 - ((ji11) : Int).toNat := ⟨_, rfl⟩; have hy31 : y398.length = l0.length - ((ji11) : Int).toNat := (by rw [Ny398.out, List.length_drop] <;> omega); rw [show (l0).drop ((ji11) : Int).toNat = y398 from Ny398.out.symm] at hr31; replace hr31 : Kd.C k27 _ A31 y398.length y398 := (by rw [hA31]; exact hr31); rw [← hy31, ← hA31, ← hc31] at hcut31; have HR401 := Aside0.mk hr31; have HC401 := Aside0.mk (show y398.length ≤ c31 from by rw [hy31, hc31]; exact Nat.sub_le_sub_right hroom31 _); clear hr31 hC31 hroom31 hi031 hsz31 hc31; have KY31 := Aside0.mk hy31; have KA31 := Aside0.mk hA31; clear hy31 hA31; replace q31 := eq_true q31) | ((with_reducible refine gate_callee (f := 13) rfl ?_); refine goesL_ (some 45) rfl rfl Tryd.func13 (by kernel_rfl) rfl #[.slice A31 y398.length c31] rfl (by (try simp only [List.map_toArray, List.map_cons, List.map_nil]); first | done | rfl | (simp only [List.length_drop, List.length_take]; rfl)) ?_; (with_reducible refine (spileref09_Copy.calls k _ _ y398 t402 _ ?side1 ?side2 A18.out).mono ?_); (case side1 => repeat (first | exact (Kd.C_below HR401.out HB.out) | (with_reducible refine Kd.C_alloc ?_ _) | (with_reducible refine Kd.C_drewN ?_ _) | (with_reducible refine Kd.C_drew ?_))); (case side2 => exact HC401.out); rintro e w32 ⟨v403, rfl, ho0, hb⟩; refine ⟨_, rfl, ?_⟩; have n0_ := Aside0.mk (Kd.S_elder' (by (with_reducible repeat (first | apply Kd.S_alloc | apply Kd.S_drewN | apply Kd.S_drew)); exact HO386.out) (Kd.S_base ho0) hb); have n1_ := Aside0.mk (Kd.S_elder' (by (with_reducible repeat (first | apply Kd.S_alloc | apply Kd.S_drewN | apply Kd.S_drew)); exact HO395.out) (Kd.S_base ho0) hb); have n2_ := Aside0.mk (Kd.S_lower (Kd.S_new' (Kd.S_new' ho0 (Kd.S_lt (by (with_reducible repeat (first | apply Kd.S_alloc | apply Kd.S_drewN | apply Kd.S_drew)); exact HO386.out))) (Kd.S_lt (by (with_reducible repeat (first | apply Kd.S_alloc | apply Kd.S_drewN | apply Kd.S_drew)); exact HO395.out))) (below_size (by repeat (first | (with_reducible first | exact HB.out | apply below_alloc | apply pw_below_drewN | apply below_drew1) | exact HB.out)))); have n3_ := Aside0.mk (below_step (by repeat (first | (with_reducible first | exact HB.out | apply below_alloc | apply pw_below_drewN | apply below_drew1) | exact HB.out)) hb); clear HO386; clear HO395; clear HB; have HO386 := n0_; have HO395 := n1_; have HO404 := n2_; have HB := n3_; clear n0_ n1_ n2_ n3_; (try clear hb); (try clear hb2); (try clear hk); (try clear hi); (try clear ho0); obtain ⟨Ao33, co33, eo33⟩ := Kd.S_slice HO404.out; subst eo33) | ((with_reducible refine gate_callee (f := 22) rfl ?_); refine goesL_ (some 46) rfl rfl Tryd.func22 (by kernel_rfl) rfl #[.slice Ao33 t402.length co33] rfl (by (try simp only [List.map_toArray, List.map_cons, List.map_nil]); first | done | rfl | (simp only [List.length_drop, List.length_take]; rfl)) ?_; (with_reducible refine (cask_Print.calls k _ _ t402 t405 t406 _ ?side1 ?side2 ?side3 A19.out).mono ?_); (case side1 => repeat (first | exact (Kd.S_reads' HO404.out).2.2 | (with_reducible refine Kd.C_alloc ?_ _) | (with_reducible refine Kd.C_drewN ?_ _) | (with_reducible refine Kd.C_drew ?_))); (case side2 => exact (Kd.S_reads' HO404.out).2.1); (case side3 => exact GI.below HG.out (by repeat (first | (with_reducible first | exact HB.out | apply below_alloc | apply pw_below_drewN | apply below_drew1) | exact HB.out))); rintro e w34 ⟨rfl, hb⟩; refine ⟨_, rfl, ?_⟩; have n0_ := Aside0.mk (Kd.S_below (by (with_reducible repeat (first | apply Kd.S_alloc | apply Kd.S_drewN | apply Kd.S_drew)); exact HO386.out) hb); have n1_ := Aside0.mk (Kd.S_below (by (with_reducible repeat (first | apply Kd.S_alloc | apply Kd.S_drewN | apply Kd.S_drew)); exact HO395.out) hb); have n2_ := Aside0.mk (Kd.S_below (by (with_reducible repeat (first | apply Kd.S_alloc | apply Kd.S_drewN | apply Kd.S_drew)); exact HO404.out) hb); have n3_ := Aside0.mk (below_step (by repeat (first | (with_reducible first | exact HB.out | apply below_alloc | apply pw_below_drewN | apply below_drew1) | exact HB.out)) hb); clear HO386; clear HO395; clear HO404; clear HB; have HO386 := n0_; have HO395 := n1_; have HO404 := n2_; have HB := n3_; clear n0_ n1_ n2_ n3_; (try clear hb); (try clear hb2); (try clear hk); (try clear hi)))
          go_ret
          exact ⟨by first | rfl | (simp [errW_none, errW_some] <;> rfl) | (simp only [← hji11]; first | rfl | (simp [errW_none, errW_some] <;> rfl)) | (simp [*, errW_none, errW_some] <;> rfl), by repeat (first | (with_reducible first | exact HB.out | apply below_alloc | apply pw_below_drewN | apply below_drew1) | exact HB.out)⟩
         · rw [if_neg c22] at H; exact absurd H (by simp)
        · rw [if_neg c21] at H; have c21b0 : (t406 == 0) = false := beq_eq_false_iff_ne.mpr c21; have c21b1 : (t406 != 0) = true := bne_iff_ne.mpr c21; subst hr_; exact absurd H (by simp)
       · rw [if_neg c20] at H; have c20b0 : (t397 == 0) = false := beq_eq_false_iff_ne.mpr c20; have c20b1 : (t397 != 0) = true := bne_iff_ne.mpr c20; subst hr_; exact absurd H (by simp)
      · rw [if_neg c13] at H; exact absurd H (by simp)
     · rw [if_neg c12] at H; exact absurd H (by simp)
   ·
    rw [if_neg c9] at H; have c9b0 : (t388 == 0) = false := beq_eq_false_iff_ne.mpr c9; have c9b1 : (t388 != 0) = true := bne_iff_ne.mpr c9; obtain rfl := Option.some.inj H; go_enter Tryd.func8, Tryd.ntmps8
    go_wp2_with (first | ((with_reducible refine gate_callee (f := 10) rfl ?_); refine goesL_ (some 12) rfl rfl Tryd.func10 (by kernel_rfl) rfl #[] rfl (by (try simp only [List.map_toArray, List.map_cons, List.map_nil]); first | done | rfl | (simp only [List.length_drop, List.length_take]; rfl)) ?_; (with_reducible refine (spilelaw09_awake.calls  true _ ?side1 A3.out).mono ?_); (case side1 => exact GI.below HG.out (by repeat (first | (with_reducible first | exact HB.out | apply below_alloc | apply pw_below_drewN | apply below_drew1) | exact HB.out))); rintro e w35 ⟨rfl, hb⟩; refine ⟨_, rfl, ?_⟩; have n0_ := Aside0.mk (below_step (by repeat (first | (with_reducible first | exact HB.out | apply below_alloc | apply pw_below_drewN | apply below_drew1) | exact HB.out)) hb); clear HB; have HB := n0_; clear n0_; (try clear hb); (try clear hb2); (try clear hk); (try clear hi)) | ((with_reducible refine gate_callee (f := 11) rfl ?_); refine goesL_ (some 15) rfl rfl Tryd.func11 (by kernel_rfl) rfl #[.slice A0 l0.length c0] rfl (by (try simp only [List.map_toArray, List.map_cons, List.map_nil]); first | done | rfl | (simp only [List.length_drop, List.length_take]; rfl)) ?_; (with_reducible refine (spileref09_Few.calls k _ _ l0 true _ ?side1 ?side2 A5.out).mono ?_); (case side1 => repeat (first | exact (Kd.C_below HR0.out HB.out) | (with_reducible refine Kd.C_alloc ?_ _) | (with_reducible refine Kd.C_drewN ?_ _) | (with_reducible refine Kd.C_drew ?_))); (case side2 => exact HC0.out); rintro e w' ⟨rfl, ⟨nd, rfl⟩⟩; refine ⟨_, rfl, ?_⟩) | ((with_reducible refine gate_callee (f := 13) rfl ?_); refine goesL_ (some 19) rfl rfl Tryd.func13 (by kernel_rfl) rfl #[.slice A0 l0.length c0] rfl (by (try simp only [List.map_toArray, List.map_cons, List.map_nil]); first | done | rfl | (simp only [List.length_drop, List.length_take]; rfl)) ?_; (with_reducible refine (spileref09_Copy.calls k _ _ l0 t384 _ ?side1 ?side2 A7.out).mono ?_); (case side1 => repeat (first | exact (Kd.C_below HR0.out (by repeat (first | (with_reducible first | exact HB.out | apply below_alloc | apply pw_below_drewN | apply below_drew1) | exact HB.out))) | (with_reducible refine Kd.C_alloc ?_ _) | (with_reducible refine Kd.C_drewN ?_ _) | (with_reducible refine Kd.C_drew ?_))); (case side2 => exact HC0.out); rintro e w36 ⟨v385, rfl, ho0, hb⟩; refine ⟨_, rfl, ?_⟩; have n0_ := Aside0.mk (Kd.S_lower ho0 (below_size (by repeat (first | (with_reducible first | exact HB.out | apply below_alloc | apply pw_below_drewN | apply below_drew1) | exact HB.out)))); have n1_ := Aside0.mk (below_step (by repeat (first | (with_reducible first | exact HB.out | apply below_alloc | apply pw_below_drewN | apply below_drew1) | exact HB.out)) hb); clear HB; have HO386 := n0_; have HB := n1_; clear n0_ n1_; (try clear hb); (try clear hb2); (try clear hk); (try clear hi); (try clear ho0); obtain ⟨Ao37, co37, eo37⟩ := Kd.S_slice HO386.out; subst eo37) | ((with_reducible refine gate_callee (f := 22) rfl ?_); refine goesL_ (some 20) rfl rfl Tryd.func22 (by kernel_rfl) rfl #[.slice Ao37 t384.length co37] rfl (by (try simp only [List.map_toArray, List.map_cons, List.map_nil]); first | done | rfl | (simp only [List.length_drop, List.length_take]; rfl)) ?_; (with_reducible refine (cask_Print.calls k _ _ t384 t387 t388 _ ?side1 ?side2 ?side3 A8.out).mono ?_); (case side1 => repeat (first | exact (Kd.S_reads' HO386.out).2.2 | (with_reducible refine Kd.C_alloc ?_ _) | (with_reducible refine Kd.C_drewN ?_ _) | (with_reducible refine Kd.C_drew ?_))); (case side2 => exact (Kd.S_reads' HO386.out).2.1); (case side3 => exact GI.below HG.out (by repeat (first | (with_reducible first | exact HB.out | apply below_alloc | apply pw_below_drewN | apply below_drew1) | exact HB.out))); rintro e w38 ⟨rfl, hb⟩; refine ⟨_, rfl, ?_⟩; have n0_ := Aside0.mk (Kd.S_below (by (with_reducible repeat (first | apply Kd.S_alloc | apply Kd.S_drewN | apply Kd.S_drew)); exact HO386.out) hb); have n1_ := Aside0.mk (below_step (by repeat (first | (with_reducible first | exact HB.out | apply below_alloc | apply pw_below_drewN | apply below_drew1) | exact HB.out)) hb); clear HO386; clear HB; have HO386 := n0_; have HB := n1_; clear n0_ n1_; (try clear hb); (try clear hb2); (try clear hk); (try clear hi)))
    go_ret
    exact ⟨by first | rfl | (simp [errW_none, errW_some] <;> rfl) | (simp [*, errW_none, errW_some] <;> rfl), by repeat (first | (with_reducible first | exact HB.out | apply below_alloc | apply pw_below_drewN | apply below_drew1) | exact HB.out)⟩
  ·
   replace c6 := Bool.eq_false_iff.mpr c6; subst c6; have H1 : (some true) = some r := by rw [if_neg (show ¬ (false = true) by decide)] at H; exact H
   clear H; have H := H1; clear H1; obtain rfl := Option.some.inj H; go_enter Tryd.func8, Tryd.ntmps8
   go_wp2_with (first | ((with_reducible refine gate_callee (f := 10) rfl ?_); refine goesL_ (some 12) rfl rfl Tryd.func10 (by kernel_rfl) rfl #[] rfl (by (try simp only [List.map_toArray, List.map_cons, List.map_nil]); first | done | rfl | (simp only [List.length_drop, List.length_take]; rfl)) ?_; (with_reducible refine (spilelaw09_awake.calls  true _ ?side1 A3.out).mono ?_); (case side1 => exact GI.below HG.out (by repeat (first | (with_reducible first | exact HB.out | apply below_alloc | apply pw_below_drewN | apply below_drew1) | exact HB.out))); rintro e w39 ⟨rfl, hb⟩; refine ⟨_, rfl, ?_⟩; have n0_ := Aside0.mk (below_step (by repeat (first | (with_reducible first | exact HB.out | apply below_alloc | apply pw_below_drewN | apply below_drew1) | exact HB.out)) hb); clear HB; have HB := n0_; clear n0_; (try clear hb); (try clear hb2); (try clear hk); (try clear hi)) | ((with_reducible refine gate_callee (f := 11) rfl ?_); refine goesL_ (some 15) rfl rfl Tryd.func11 (by kernel_rfl) rfl #[.slice A0 l0.length c0] rfl (by (try simp only [List.map_toArray, List.map_cons, List.map_nil]); first | done | rfl | (simp only [List.length_drop, List.length_take]; rfl)) ?_; (with_reducible refine (spileref09_Few.calls k _ _ l0 false _ ?side1 ?side2 A5.out).mono ?_); (case side1 => repeat (first | exact (Kd.C_below HR0.out HB.out) | (with_reducible refine Kd.C_alloc ?_ _) | (with_reducible refine Kd.C_drewN ?_ _) | (with_reducible refine Kd.C_drew ?_))); (case side2 => exact HC0.out); rintro e w' ⟨rfl, ⟨nd, rfl⟩⟩; refine ⟨_, rfl, ?_⟩))
   go_ret
   exact ⟨by first | rfl | (simp [errW_none, errW_some] <;> rfl) | (simp [*, errW_none, errW_some] <;> rfl), by repeat (first | (with_reducible first | exact HB.out | apply below_alloc | apply pw_below_drewN | apply below_drew1) | exact HB.out)⟩
 ·
  replace c4 := Bool.eq_false_iff.mpr c4; subst c4; have H1 : (none) = some r := by rw [if_neg (show ¬ (false = true) by decide)] at H; exact H
  clear H; have H := H1; clear H1; subst hr_; exact absurd H (by simp)
end Go.Proofs.YtnhmlneebnkjcaaDoor.Pr
namespace Go.Proofs.YtnhmlneebnkjcaaDoor.Opn
open Go Go.RowKit Go.Proofs.YtnhmlneebnkjcaaDoorW.PrintWords Go.Proofs.YtnhmlneebnkjcaaDoor.O Go.Proofs.YtnhmlneebnkjcaaDoor.Pr
theorem opens9 : Opens Tryd.prog 9 Kd.string (fun x => x.size ≤ maxLen) := opens_string Tryd.underlying9 (by kernel_rfl)
theorem opens3 : Opens Tryd.prog 3 (Kd.int .i64) (fun x => (Lit.int .i64 x).wf = true) := opens_int Tryd.underlying3 (by kernel_rfl)
def ok46 (x : S46) : Prop := (Lit.int .i64 x.f0).wf = true ∧ (Lit.int .i64 x.f1).wf = true
theorem opens46 : Opens Tryd.prog 46 k46 ok46 :=
  ⟨by kernel_rfl, fun H enc w base sp held fuel cs x h => by
    obtain ⟨xs, n, _, _, hl, hx, hf⟩ := DataW.trod_struct Tryd.underlying46 h
    have hc_ : Tryd.prog.cellsOf 46 = 2 := by kernel_rfl
    rw [hc_] at hl
    obtain ⟨c0, c1, rfl⟩ : ∃ c0 c1, cs = [c0, c1] := by
      clear h hf hx
      rcases cs with _ | ⟨c0, _ | ⟨c1, _ | ⟨_, _⟩⟩⟩
      all_goals first | exact ⟨_, _, rfl⟩ | (simp at hl)
    obtain ⟨y0, hy0⟩ : ∃ y, xs[0]? = some y := ⟨xs[0]'(by rw [hx]; decide), List.getElem?_eq_getElem _⟩
    have e0 : DataW.trod enc Tryd.prog w base sp held n 3 ((List.drop 0 [c0, c1]).take (Tryd.prog.cellsOf 3)) = xs[0]? := hf 0 _ rfl
    rw [hy0, show Tryd.prog.cellsOf 3 = 1 from by kernel_rfl] at e0
    obtain ⟨v0, K0, o0⟩ := opens3.2 H enc w base sp held n _ _ e0
    replace K0 : (Kd.int .i64).K w v0 [c0] := K0
    obtain ⟨y1, hy1⟩ : ∃ y, xs[1]? = some y := ⟨xs[1]'(by rw [hx]; decide), List.getElem?_eq_getElem _⟩
    have e1 : DataW.trod enc Tryd.prog w base sp held n 3 ((List.drop 1 [c0, c1]).take (Tryd.prog.cellsOf 3)) = xs[1]? := hf 1 _ rfl
    rw [hy1, show Tryd.prog.cellsOf 3 = 1 from by kernel_rfl] at e1
    obtain ⟨v1, K1, o1⟩ := opens3.2 H enc w base sp held n _ _ e1
    replace K1 : (Kd.int .i64).K w v1 [c1] := K1
    obtain rfl : c0 = _ := List.singleton_inj.1 K0
    obtain rfl : c1 = _ := List.singleton_inj.1 K1
    refine ⟨⟨v0, v1⟩, ?_, o0, o1⟩
    exact k46_mk w ⟨v0, v1⟩ ⟩
theorem opens25 : Opens Tryd.prog 25 (Kd.slice 46 k46) (fun x => (x.length ≤ maxLen ∧ ∀ x0_, x0_ ∈ x → ok46 x0_)) := opens_slice (P := Tryd.prog) (t := 25) (e := 46) Tryd.underlying25 (by kernel_rfl) opens46
def ok27 (x : S27) : Prop := x.f0.size ≤ maxLen ∧ (Lit.int .i64 x.f1).wf = true ∧ (x.f2.length ≤ maxLen ∧ ∀ x0_, x0_ ∈ x.f2 → ok46 x0_) ∧ (Lit.int .i64 x.f3).wf = true
theorem opens27 : Opens Tryd.prog 27 k27 ok27 :=
  ⟨by kernel_rfl, fun H enc w base sp held fuel cs x h => by
    obtain ⟨xs, n, _, _, hl, hx, hf⟩ := DataW.trod_struct Tryd.underlying27 h
    have hc_ : Tryd.prog.cellsOf 27 = 4 := by kernel_rfl
    rw [hc_] at hl
    obtain ⟨c0, c1, c2, c3, rfl⟩ : ∃ c0 c1 c2 c3, cs = [c0, c1, c2, c3] := by
      clear h hf hx
      rcases cs with _ | ⟨c0, _ | ⟨c1, _ | ⟨c2, _ | ⟨c3, _ | ⟨_, _⟩⟩⟩⟩⟩
      all_goals first | exact ⟨_, _, _, _, rfl⟩ | (simp at hl)
    obtain ⟨y0, hy0⟩ : ∃ y, xs[0]? = some y := ⟨xs[0]'(by rw [hx]; decide), List.getElem?_eq_getElem _⟩
    have e0 : DataW.trod enc Tryd.prog w base sp held n 9 ((List.drop 0 [c0, c1, c2, c3]).take (Tryd.prog.cellsOf 9)) = xs[0]? := hf 0 _ rfl
    rw [hy0, show Tryd.prog.cellsOf 9 = 1 from by kernel_rfl] at e0
    obtain ⟨v0, K0, o0⟩ := opens9.2 H enc w base sp held n _ _ e0
    replace K0 : Kd.string.K w v0 [c0] := K0
    obtain ⟨y1, hy1⟩ : ∃ y, xs[1]? = some y := ⟨xs[1]'(by rw [hx]; decide), List.getElem?_eq_getElem _⟩
    have e1 : DataW.trod enc Tryd.prog w base sp held n 3 ((List.drop 1 [c0, c1, c2, c3]).take (Tryd.prog.cellsOf 3)) = xs[1]? := hf 1 _ rfl
    rw [hy1, show Tryd.prog.cellsOf 3 = 1 from by kernel_rfl] at e1
    obtain ⟨v1, K1, o1⟩ := opens3.2 H enc w base sp held n _ _ e1
    replace K1 : (Kd.int .i64).K w v1 [c1] := K1
    obtain ⟨y2, hy2⟩ : ∃ y, xs[2]? = some y := ⟨xs[2]'(by rw [hx]; decide), List.getElem?_eq_getElem _⟩
    have e2 : DataW.trod enc Tryd.prog w base sp held n 25 ((List.drop 2 [c0, c1, c2, c3]).take (Tryd.prog.cellsOf 25)) = xs[2]? := hf 2 _ rfl
    rw [hy2, show Tryd.prog.cellsOf 25 = 1 from by kernel_rfl] at e2
    obtain ⟨v2, K2, o2⟩ := opens25.2 H enc w base sp held n _ _ e2
    replace K2 : (Kd.slice 46 k46).K w v2 [c2] := K2
    obtain ⟨y3, hy3⟩ : ∃ y, xs[3]? = some y := ⟨xs[3]'(by rw [hx]; decide), List.getElem?_eq_getElem _⟩
    have e3 : DataW.trod enc Tryd.prog w base sp held n 3 ((List.drop 3 [c0, c1, c2, c3]).take (Tryd.prog.cellsOf 3)) = xs[3]? := hf 3 _ rfl
    rw [hy3, show Tryd.prog.cellsOf 3 = 1 from by kernel_rfl] at e3
    obtain ⟨v3, K3, o3⟩ := opens3.2 H enc w base sp held n _ _ e3
    replace K3 : (Kd.int .i64).K w v3 [c3] := K3
    obtain rfl : c0 = _ := List.singleton_inj.1 K0
    obtain rfl : c1 = _ := List.singleton_inj.1 K1
    obtain ⟨A2, q2, w2, m2, g2⟩ := K2
    obtain rfl : c2 = _ := List.singleton_inj.1 w2
    obtain rfl : c3 = _ := List.singleton_inj.1 K3
    refine ⟨⟨v0, v1, v2, v3⟩, ?_, o0, o1, o2, o3⟩
    exact k27_mk w ⟨v0, v1, v2, v3⟩ m2 g2⟩
theorem opens22 : Opens Tryd.prog 22 (Kd.slice 27 k27) (fun x => (x.length ≤ maxLen ∧ ∀ x0_, x0_ ∈ x → ok27 x0_)) := opens_slice (P := Tryd.prog) (t := 22) (e := 27) Tryd.underlying22 (by kernel_rfl) opens27
end Go.Proofs.YtnhmlneebnkjcaaDoor.Opn
namespace Go.Proofs.YtnhmlneebnkjcaaDoor.Pure
open Go Go.RowKit Go.Proofs.YtnhmlneebnkjcaaDoor.Pr Go.Proofs.YtnhmlneebnkjcaaDoor.Opn
def caskJoinedPure : Prop := ∀ (l0 : (List S27)) (a1 : Int), (l0.length ≤ maxLen ∧ ∀ x0_, x0_ ∈ l0 → ok27 x0_) → (Lit.int .u8 a1).wf = true → ∃ k, spilelaw09_CaskJoined.f k l0 a1 = some true
end Go.Proofs.YtnhmlneebnkjcaaDoor.Pure
namespace Go.Proofs.YtnhmlneebnkjcaaDoor.PL
open Go Go.RowKit Go.Proofs.YtnhmlneebnkjcaaDoorW.PrintWords Go.Proofs.YtnhmlneebnkjcaaDoorW.PrintLast Go.Proofs.YtnhmlneebnkjcaaDoorW.PrintMore
theorem evp {α : Type} {c : Prop} [Decidable c] {g h : Nat → Option α} {r : α} (hc : c) (k : Ev g r) : Ev (fun n => if c then g n else h n) r :=
  Ev.congr (fun n => if_pos hc) k
theorem evn {α : Type} {c : Prop} [Decidable c] {g h : Nat → Option α} {r : α} (hc : ¬ c) (k : Ev h r) : Ev (fun n => if c then g n else h n) r :=
  Ev.congr (fun n => if_neg hc) k
theorem evb {α β : Type} {g : Nat → Option α} {f : Nat → α → Option β} {a : α} {r : β} (h : Ev g a) (k : Ev (fun n => f n a) r) : Ev (fun n => (g n).bind (f n)) r := Ev.bind h k
theorem evr {α : Type} {a r : α} (h : a = r) : Ev (fun _ => some a) r := by subst h; exact Ev.now _
theorem evc {α : Type} {g : Nat → Option α} {r : α} {o : Option α} (hg : ∀ n, g n = o) (h : o = some r) : Ev g r := by
  subst h
  exact Ev.congr hg (Ev.now _)
/-- A loop that counts upwards to n. -/
theorem count_up (a n : Int) (P : Int → Prop) (hend : P n) (hround : ∀ i, a ≤ i → i < n → P (i + 1) → P i) : ∀ i, a ≤ i → i ≤ n → P i := by
  intro i h0 h1
  obtain ⟨d, hd⟩ : ∃ d : Nat, n - i = d := ⟨(n - i).toNat, by omega⟩
  induction d generalizing i with
  | zero =>
    obtain rfl : i = n := by omega
    exact hend
  | succ d ih => exact hround i h0 (by omega) (ih (i + 1) (by omega) (by omega) (by omega))
theorem w64 {x : Int} (h0 : -9223372036854775808 ≤ x) (h1 : x ≤ 9223372036854775807) : wrap64 x = x := by
  unfold wrap64
  omega
theorem w64_succ {i n : Int} (h0 : 0 ≤ i) (h : i < n) (hn : n ≤ 9223372036854775807) : wrap64 (i + 1) = i + 1 := w64 (by omega) (by omega)
theorem len_le {α : Type} {l : List α} (h : l.length ≤ maxLen) : (l.length : Int) ≤ 9223372036854775807 := by
  have : l.length ≤ 9223372036854775807 := by simpa [maxLen] using h
  omega
/-- A test that comes to true where P holds, and else to false. -/
def EvB (g : Nat → Option Bool) (P : Prop) : Prop := (P → Ev g true) ∧ (¬ P → Ev g false)
theorem EvB.get {g : Nat → Option Bool} {P : Prop} (h : EvB g P) : ∃ b, Ev g b ∧ (b = true ↔ P) := by
  by_cases hp : P
  · exact ⟨true, h.1 hp, by simp [hp]⟩
  · exact ⟨false, h.2 hp, by simp [hp]⟩
theorem EvB.map {g : Nat → Option Bool} {f : Nat → Bool → Option Bool} {P Q : Prop} (h : EvB g P) (ht : P → EvB (fun n => f n true) Q) (hf : ¬ P → EvB (fun n => f n false) Q) : EvB (fun n => (g n).bind (f n)) Q := by
  by_cases hp : P
  · exact ⟨fun q => Ev.bind (h.1 hp) ((ht hp).1 q), fun q => Ev.bind (h.1 hp) ((ht hp).2 q)⟩
  · exact ⟨fun q => Ev.bind (h.2 hp) ((hf hp).1 q), fun q => Ev.bind (h.2 hp) ((hf hp).2 q)⟩
theorem evB_all (a n : Int) (Q : Int → Prop) (L : Int → Nat → Option Bool) (hend : Ev (L n) true) (hno : ∀ i, a ≤ i → i < n → ¬ Q i → Ev (L i) false)
    (hyes : ∀ i, a ≤ i → i < n → Q i → ∀ b, Ev (L (i + 1)) b → Ev (L i) b) : ∀ i, a ≤ i → i ≤ n → EvB (L i) (∀ j, i ≤ j → j < n → Q j) := by
  refine count_up a n _ ⟨fun _ => hend, fun h => absurd (fun j h1 h2 => absurd h2 (by omega)) h⟩ ?_
  intro i h0 h1 ih
  by_cases hq : Q i
  · refine ⟨fun h => hyes i h0 h1 hq _ (ih.1 fun j hj hn => h j (by omega) hn), fun h => hyes i h0 h1 hq _ (ih.2 fun h2 => h fun j hj hn => ?_)⟩
    by_cases e : j = i
    · subst e; exact hq
    · exact h2 j (by omega) hn
  · exact ⟨fun h => absurd (h i (by omega) h1) hq, fun _ => hno i h0 h1 hq⟩
theorem index_ev (n : Int) (Q : Int → Prop) (L : Int → Nat → Option Int) (hend : Ev (L n) (-1)) (hyes : ∀ i, 0 ≤ i → i < n → Q i → Ev (L i) i)
    (hno : ∀ i, 0 ≤ i → i < n → ¬ Q i → ∀ r, Ev (L (i + 1)) r → Ev (L i) r) : ∀ i, 0 ≤ i → i ≤ n →
    ∃ r, Ev (L i) r ∧ ((0 ≤ r ∧ i ≤ r ∧ r < n ∧ Q r ∧ ∀ j, i ≤ j → j < r → ¬ Q j) ∨ (r = -1 ∧ ∀ j, i ≤ j → j < n → ¬ Q j)) := by
  refine count_up 0 n _ ⟨-1, hend, .inr ⟨rfl, fun j h1 h2 => absurd h2 (by omega)⟩⟩ ?_
  intro i h0 h1 ih
  by_cases hq : Q i
  · exact ⟨i, hyes i h0 h1 hq, .inl ⟨h0, by omega, h1, hq, fun j h2 h3 => absurd h3 (by omega)⟩⟩
  · obtain ⟨r, hr, h⟩ := ih
    refine ⟨r, hno i h0 h1 hq _ hr, ?_⟩
    have ext : ∀ b, (∀ j, i + 1 ≤ j → j < b → ¬ Q j) → ∀ j, i ≤ j → j < b → ¬ Q j := fun b h2 j hj hb => by
      by_cases e : j = i
      · subst e; exact hq
      · exact h2 j (by omega) hb
    rcases h with ⟨a, b, c, d, e⟩ | ⟨a, b⟩
    · exact .inl ⟨a, by omega, c, d, ext r e⟩
    · exact .inr ⟨a, ext n b⟩
end Go.Proofs.YtnhmlneebnkjcaaDoor.PL
namespace Go.Proofs.YtnhmlneebnkjcaaDoor.PL
open Go Go.RowKit Go.Proofs.YtnhmlneebnkjcaaDoorW.PrintWords Go.Proofs.YtnhmlneebnkjcaaDoorW.PrintLast Go.Proofs.YtnhmlneebnkjcaaDoorW.PrintMore Go.Proofs.YtnhmlneebnkjcaaDoor.Pr Go.Proofs.YtnhmlneebnkjcaaDoor.TX Go.Proofs.YtnhmlneebnkjcaaDoor.X
def ba (l : List UInt8) : ByteArray := ⟨l.toArray⟩
theorem ba_data (s : ByteArray) : ba s.data.toList = s := by obtain ⟨⟨l⟩⟩ := s; rfl
theorem ba_toList (l : List UInt8) : (ba l).toList = l := by rw [Lib.toList_data]; rfl
theorem ba_size (l : List UInt8) : (ba l).size = l.length := rfl
theorem size_data (s : ByteArray) : s.data.toList.length = s.size := Array.length_toList
theorem ba_app (a b : List UInt8) : ba a ++ ba b = ba (a ++ b) := by
  rw [← ba_data (ba a ++ ba b)]
  congr 1
theorem itoa_f {n : Int} (h0 : -9223372036854775808 ≤ n) (h1 : n ≤ 9223372036854775807) : strconv_Itoa.f n = some (ba (Lib.itoa n)) := by
  unfold strconv_Itoa.f
  rw [if_pos h0, if_pos h1]
  rfl
end Go.Proofs.YtnhmlneebnkjcaaDoor.PL
namespace Go.Proofs.YtnhmlneebnkjcaaDoor.PL
open Go Go.RowKit Go.Proofs.YtnhmlneebnkjcaaDoorW.PrintWords Go.Proofs.YtnhmlneebnkjcaaDoorW.PrintLast Go.Proofs.YtnhmlneebnkjcaaDoorW.PrintMore Go.Proofs.YtnhmlneebnkjcaaDoor.Pr Go.Proofs.YtnhmlneebnkjcaaDoor.Opn Go.Proofs.YtnhmlneebnkjcaaDoor.X
def okB (b : Int) : Prop := (97 ≤ b ∧ b ≤ 122) ∨ (65 ≤ b ∧ b ≤ 90) ∨ (48 ≤ b ∧ b ≤ 57) ∨ b = 45 ∨ b = 46
instance (b : Int) : Decidable (okB b) := by unfold okB; infer_instance
def NameP (s : ByteArray) : Prop := 1 ≤ s.size ∧ s.size ≤ 64 ∧ ∀ i, 0 ≤ i → i < (s.size : Int) → okB (bt s i)
theorem named_step (k : Nat) (s : ByteArray) {i : Int} (h0 : 0 ≤ i) (h1 : i < (s.size : Int)) : cask_named.l0 (k + 1) s (s.size : Int) i = if okB (bt s i) then cask_named.l0 k s (s.size : Int) (wrap64 (i + 1)) else some false := by
  rw [cask_named.l0.eq_2, if_pos h1, if_pos h0, if_pos h1]
  by_cases c : okB (bt s i)
  · rw [if_pos c]
    unfold okB at c
    (repeat' split) <;> first | rfl | (exfalso; omega)
  · rw [if_neg c]
    unfold okB at c
    (repeat' split) <;> first | rfl | (exfalso; omega)
theorem isname_step (k : Nat) (s : ByteArray) {i : Int} (h0 : 0 ≤ i) (h1 : i < (s.size : Int)) : spileref09_IsName.l0 (k + 1) s i = if okB (bt s i) then spileref09_IsName.l0 k s (wrap64 (i + 1)) else some false := by
  rw [spileref09_IsName.l0.eq_2, if_pos h1, if_pos h0]
  by_cases c : okB (bt s i)
  · rw [if_pos c]
    unfold okB at c
    (repeat' split) <;> first | rfl | (exfalso; omega)
  · rw [if_neg c]
    unfold okB at c
    (repeat' split) <;> first | rfl | (exfalso; omega)
theorem name_both (s : ByteArray) (hs : (s.size : Int) ≤ 9223372036854775807) : ∃ b, Ev (fun k => cask_named.f k s) b ∧ Ev (fun k => spileref09_IsName.f k s) b ∧ (b = true ↔ NameP s) := by
  have L1 : ∀ i, 0 ≤ i → i ≤ (s.size : Int) → EvB (fun k => cask_named.l0 k s (s.size : Int) i) (∀ j, i ≤ j → j < (s.size : Int) → okB (bt s j)) := by
    refine evB_all 0 (s.size : Int) (fun j => okB (bt s j)) (fun i k => cask_named.l0 k s (s.size : Int) i) ?_ ?_ ?_
    · exact Ev.step (fun k => cask_named.l0.eq_2 ..) (evn (by omega) (Ev.now _))
    · intro i h0 h1 hq
      exact Ev.step (fun k => named_step k s h0 h1) (evn hq (Ev.now _))
    · intro i h0 h1 hq b hb
      rw [← w64_succ h0 h1 hs] at hb
      exact Ev.step (fun k => named_step k s h0 h1) (evp hq hb)
  have L2 : ∀ i, 0 ≤ i → i ≤ (s.size : Int) → ∃ b, Ev (fun k => spileref09_IsName.l0 k s i) b ∧ (b = true ↔ (1 ≤ s.size ∧ s.size ≤ 64 ∧ ∀ j, i ≤ j → j < (s.size : Int) → okB (bt s j))) := by
    refine count_up 0 (s.size : Int) _ ?_ ?_
    · by_cases c : (s.size : Int) ≥ 1
      · exact ⟨_, Ev.step (fun k => spileref09_IsName.l0.eq_2 ..) (evn (by omega) (evp c (Ev.now _))), by rw [decide_eq_true_eq]; exact ⟨fun h => ⟨by omega, by omega, fun j _ _ => by omega⟩, fun h => by omega⟩⟩
      · exact ⟨_, Ev.step (fun k => spileref09_IsName.l0.eq_2 ..) (evn (by omega) (evn c (Ev.now _))), by simp; omega⟩
    · intro i h0 h1 ih
      by_cases hq : okB (bt s i)
      · obtain ⟨b, hb, hi⟩ := ih
        rw [← w64_succ h0 h1 hs] at hb
        refine ⟨b, Ev.step (fun k => isname_step k s h0 h1) (evp hq hb), hi.trans ⟨fun h => ⟨h.1, h.2.1, fun j h2 h3 => ?_⟩, fun h => ⟨h.1, h.2.1, fun j h2 h3 => h.2.2 j (by omega) h3⟩⟩⟩
        by_cases e : j = i
        · rw [e]; exact hq
        · exact h.2.2 j (by omega) h3
      · exact ⟨false, Ev.step (fun k => isname_step k s h0 h1) (evn hq (Ev.now _)), by simp only [Bool.false_eq_true, false_iff]; exact fun h => hq (h.2.2 i (Int.le_refl _) h1)⟩
  obtain ⟨b2, hb2, hi2⟩ := L2 0 (by omega) (by omega)
  have N2 : b2 = true ↔ NameP s := hi2
  by_cases c1 : (s.size : Int) < 1
  · have hb : b2 = false := by
      rw [Bool.eq_false_iff]
      intro q
      have := (N2.1 q).1
      omega
    subst hb
    exact ⟨false, evp c1 (Ev.step (fun k => cask_named.j0.eq_2 ..) (evp rfl (Ev.now _))), hb2, N2⟩
  by_cases c2 : (s.size : Int) > 64
  · have hb : b2 = false := by
      rw [Bool.eq_false_iff]
      intro q
      have := (N2.1 q).2.1
      omega
    subst hb
    exact ⟨false, evn c1 (Ev.step (fun k => cask_named.j0.eq_2 ..) (evp (decide_eq_true c2) (Ev.now _))), hb2, N2⟩
  obtain ⟨b, hb, hi⟩ := (L1 0 (by omega) (by omega)).get
  have e : b = b2 := by
    have : b = true ↔ b2 = true := hi.trans ⟨fun h => N2.2 ⟨by omega, by omega, h⟩, fun h => (N2.1 h).2.2⟩
    cases b <;> cases b2 <;> simp_all
  subst e
  exact ⟨b, evn c1 (Ev.step (fun k => cask_named.j0.eq_2 ..) (evn (by simp; omega) hb)), hb2, N2⟩
def LenP (x : Int) : Prop := 0 ≤ x ∧ x ≤ 100000
instance (x : Int) : Decidable (LenP x) := by unfold LenP; infer_instance
theorem measure_f (x : Int) : profile_measure.f x = some (decide (LenP x)) := by
  unfold profile_measure.f LenP
  by_cases c : x ≥ 0
  · rw [if_pos c]
    exact congrArg some (decide_eq_decide.2 ⟨fun h => ⟨c, h⟩, fun h => h.2⟩)
  · rw [if_neg c]
    exact congrArg some (decide_eq_false (fun h => c h.1)).symm
theorem isLength_f (x : Int) : spileref08_isLength.f x = some (decide (LenP x)) := by
  unfold spileref08_isLength.f LenP
  by_cases c : x ≥ 0
  · rw [if_pos c]
    exact congrArg some (decide_eq_decide.2 ⟨fun h => ⟨c, h⟩, fun h => h.2⟩)
  · rw [if_neg c]
    exact congrArg some (decide_eq_false (fun h => c h.1)).symm
def PtP (p : S46) : Prop := LenP p.f0 ∧ LenP p.f1
theorem check1_f (p : S46) : ∃ b, profile_Check_1.f p.f0 p.f1 = some b ∧ (b = true ↔ ¬ PtP p) := by
  unfold profile_Check_1.f PtP
  rw [measure_f, measure_f]
  by_cases c : LenP p.f0
  · refine ⟨_, by rw [Option.bind_some, if_pos (decide_eq_true c)]; rfl, ?_⟩
    by_cases d : LenP p.f1 <;> simp [c, d]
  · exact ⟨true, by rw [Option.bind_some, if_neg (by simp [c])], by simp [c]⟩
def AllP (l : List S46) : Prop := ∀ j, 0 ≤ j → j < (l.length : Int) → PtP (rd_T46 l j)
def NonZ (l : List S46) : Prop := ∀ j, 0 ≤ j → j < (l.length : Int) → (rd_T46 l j).f1 ≠ 0
theorem contains56 (l : List S46) (hl : (l.length : Int) ≤ 9223372036854775807) : ∃ b, Ev (fun k => api_Point_55_at_56.f k l) b ∧ (b = true ↔ ¬ AllP l) := by
  obtain ⟨r, hr, h⟩ := index_ev (l.length : Int) (fun i => ¬ PtP (rd_T46 l i)) (fun i k => api_Point_70_at_56.l0 k l (l.length : Int) i)
    (Ev.step (fun k => api_Point_70_at_56.l0.eq_2 ..) (evn (by omega) (Ev.now _)))
    (fun i h0 h1 hq => by
      obtain ⟨b, e, hb⟩ := check1_f (rd_T46 l i)
      exact Ev.step (fun k => api_Point_70_at_56.l0.eq_2 ..) (evp h1 (evp h0 (evp h1 (evb (evc (fun _ => rfl) e) (evp (hb.2 hq) (Ev.now _)))))))
    (fun i h0 h1 hq r hr => by
      obtain ⟨b, e, hb⟩ := check1_f (rd_T46 l i)
      rw [← w64_succ h0 h1 hl] at hr
      exact Ev.step (fun k => api_Point_70_at_56.l0.eq_2 ..) (evp h1 (evp h0 (evp h1 (evb (evc (fun _ => rfl) e) (evn (fun q => hq (hb.1 q)) hr)))))) 0 (by omega) (by omega)
  refine ⟨decide (r ≥ 0), evb hr (Ev.now _), ?_⟩
  rw [decide_eq_true_eq]
  rcases h with ⟨a, _, c, d, _⟩ | ⟨a, b⟩
  · exact ⟨fun _ q => d (q r a c), fun _ => a⟩
  · exact ⟨fun q => by omega, fun q => absurd (fun j h0 h1 => Classical.byContradiction (fun z => b j h0 h1 z)) q⟩
theorem contains59 (l : List S46) (hl : (l.length : Int) ≤ 9223372036854775807) : ∃ b, Ev (fun k => api_Point_55_at_59.f k l) b ∧ (b = true ↔ ¬ NonZ l) := by
  obtain ⟨r, hr, h⟩ := index_ev (l.length : Int) (fun i => (rd_T46 l i).f1 = 0) (fun i k => api_Point_70_at_59.l0 k l (l.length : Int) i)
    (Ev.step (fun k => api_Point_70_at_59.l0.eq_2 ..) (evn (by omega) (Ev.now _)))
    (fun i h0 h1 hq => Ev.step (fun k => api_Point_70_at_59.l0.eq_2 ..) (evp h1 (evp h0 (evp h1 (evb (evc (fun _ => rfl) (show profile_Check_2.f (rd_T46 l i).f0 (rd_T46 l i).f1 = some ((rd_T46 l i).f1 == 0) from rfl)) (evp (beq_iff_eq.2 hq) (Ev.now _)))))))
    (fun i h0 h1 hq r hr => by
      rw [← w64_succ h0 h1 hl] at hr
      exact Ev.step (fun k => api_Point_70_at_59.l0.eq_2 ..) (evp h1 (evp h0 (evp h1 (evb (evc (fun _ => rfl) (show profile_Check_2.f (rd_T46 l i).f0 (rd_T46 l i).f1 = some ((rd_T46 l i).f1 == 0) from rfl)) (evn (by simpa using hq) hr)))))) 0 (by omega) (by omega)
  refine ⟨decide (r ≥ 0), evb hr (Ev.now _), ?_⟩
  rw [decide_eq_true_eq]
  rcases h with ⟨a, _, c, d, _⟩ | ⟨a, b⟩
  · exact ⟨fun _ q => q r a c d, fun _ => a⟩
  · exact ⟨fun q => by omega, fun q => absurd (fun j h0 h1 => b j h0 h1) q⟩
theorem nbs_drop {l : List S46} {i : Int} (h0 : 1 ≤ i) (h1 : i < (l.length : Int)) : (nbs l).drop (i - 1).toNat = (rd_T46 l (i - 1), rd_T46 l i) :: (nbs l).drop i.toNat := by
  have h : (i - 1).toNat < (nbs l).length := by rw [nbs_len]; omega
  rw [List.drop_eq_getElem_cons h, show (i - 1).toNat + 1 = i.toNat from by omega]
  congr 1
  have g : (nbs l)[(i - 1).toNat]? = some (rd_T46 l (i - 1), rd_T46 l i) := by
    unfold nbs
    rw [List.getElem?_zip_eq_some]
    constructor
    · unfold rd_T46
      rw [List.getD_eq_getElem?_getD, List.getElem?_eq_getElem (show (i - 1).toNat < l.length by omega)]
      rfl
    · unfold rd_T46
      show l.tail[(i - 1).toNat]? = some (l.getD i.toNat z46)
      rw [List.getElem?_tail, List.getD_eq_getElem?_getD, show (i - 1).toNat + 1 = i.toNat from by omega, List.getElem?_eq_getElem (show i.toNat < l.length by omega)]
      rfl
  exact Option.some.inj ((List.getElem?_eq_getElem h).symm.trans g)
theorem nbs_end (l : List S46) {i : Int} (h : (l.length : Int) ≤ i) : (nbs l).drop (i - 1).toNat = [] := List.drop_eq_nil_of_le (by rw [nbs_len]; omega)
theorem falls_or : ∀ t l, profile_Check.falls t l = 0 ∨ profile_Check.falls t l = 10
  | _, [] => .inl rfl
  | t, x :: r => by
    unfold profile_Check.falls
    split
    · exact .inr rfl
    · exact falls_or _ r
theorem ref_falls (l : List S46) (hl : (l.length : Int) ≤ 9223372036854775807) : ∀ i, 1 ≤ i → ∀ t, (i ≤ (l.length : Int) ∨ l.length = 0) → Ev (fun k => spileref08_Check.l3 k l t i) (profile_Check.falls t ((nbs l).drop (i - 1).toNat)) := by
  intro i h0 t hi
  by_cases c : i ≤ (l.length : Int)
  case neg =>
    rw [nbs_end l (by omega)]
    exact Ev.step (fun k => spileref08_Check.l3.eq_2 ..) (evn (by omega) (Ev.now _))
  refine count_up 1 (l.length : Int) (fun i => ∀ t, Ev (fun k => spileref08_Check.l3 k l t i) (profile_Check.falls t ((nbs l).drop (i - 1).toNat))) ?_ ?_ i h0 c t
  · intro t
    rw [nbs_end l (Int.le_refl _)]
    exact Ev.step (fun k => spileref08_Check.l3.eq_2 ..) (evn (by omega) (Ev.now _))
  · intro i h0 h1 ih t
    have w0 : wrap64 (i - 1) = i - 1 := w64 (by omega) (by omega)
    have w1 : wrap64 (i + 1) = i + 1 := w64 (by omega) (by omega)
    rw [nbs_drop h0 h1]
    unfold profile_Check.falls
    rw [show i + 1 - 1 = i from by omega] at ih
    refine Ev.step (fun k => spileref08_Check.l3.eq_2 ..) (evp h1 ?_)
    rw [w0, w1]
    cases t with
    | true =>
      refine evp rfl (evp (by omega) (evp (by omega) (evp (by omega) ?_)))
      by_cases q : (rd_T46 l i).f1 > (rd_T46 l (i - 1)).f1
      · rw [if_pos ⟨rfl, q⟩]
        exact evp q (Ev.now _)
      · rw [if_neg (fun z => q z.2)]
        exact evn q (by simpa using ih true)
    | false =>
      rw [if_neg (fun z => by cases z.1)]
      exact evn (by decide) (evp (by omega) (evp (by omega) (evp (by omega) (by simpa using ih (decide ((rd_T46 l i).f1 < (rd_T46 l (i - 1)).f1))))))
theorem ref_zero (l : List S46) (hl : (l.length : Int) ≤ 9223372036854775807) (r3 : Int) (h3 : Ev (fun k => spileref08_Check.l3 k l false 1) r3) : ∀ i, 0 ≤ i → i ≤ (l.length : Int) → ∃ e, Ev (fun k => spileref08_Check.l2 k l i) e ∧ ((∀ j, i ≤ j → j < (l.length : Int) → (rd_T46 l j).f1 ≠ 0) → e = r3) ∧ (¬ (∀ j, i ≤ j → j < (l.length : Int) → (rd_T46 l j).f1 ≠ 0) → e = 16) := by
  refine count_up 0 (l.length : Int) _ ?_ ?_
  · exact ⟨r3, Ev.step (fun k => spileref08_Check.l2.eq_2 ..) (evn (by omega) h3), fun _ => rfl, fun h => absurd (fun j a b => by omega) h⟩
  · intro i h0 h1 ih
    by_cases c : (rd_T46 l i).f1 = 0
    · exact ⟨16, Ev.step (fun k => spileref08_Check.l2.eq_2 ..) (evp h1 (evp h0 (evp c (Ev.now _)))), fun h => absurd c (h i (Int.le_refl _) h1), fun _ => rfl⟩
    · obtain ⟨e, he, a, b⟩ := ih
      rw [← w64_succ h0 h1 hl] at he
      refine ⟨e, Ev.step (fun k => spileref08_Check.l2.eq_2 ..) (evp h1 (evp h0 (evn c he))), fun h => a (fun j x y => h j (by omega) y), fun h => b (fun z => h (fun j x y => ?_))⟩
      by_cases q : j = i
      · rw [q]; exact c
      · exact z j (by omega) y
theorem ref_steps (l : List S46) (hl : (l.length : Int) ≤ 9223372036854775807) (r2 : Int) (h2 : Ev (fun k => spileref08_Check.l2 k l 0) r2) : ∀ i, 1 ≤ i → i ≤ (l.length : Int) → Ev (fun k => spileref08_Check.l1 k l i) (if profile_Check.steps ((nbs l).drop (i - 1).toNat) = 0 then r2 else 5) := by
  refine count_up 1 (l.length : Int) _ ?_ ?_
  · rw [nbs_end l (Int.le_refl _)]
    exact Ev.step (fun k => spileref08_Check.l1.eq_2 ..) (evn (by omega) h2)
  · intro i h0 h1 ih
    have w0 : wrap64 (i - 1) = i - 1 := w64 (by omega) (by omega)
    have w1 : wrap64 (i + 1) = i + 1 := w64 (by omega) (by omega)
    rw [show i + 1 - 1 = i from by omega] at ih
    rw [nbs_drop h0 h1]
    unfold profile_Check.steps
    refine Ev.step (fun k => spileref08_Check.l1.eq_2 ..) (evp h1 ?_)
    rw [w0, w1]
    refine evn (by omega) (evp (by omega) (evp (by omega) (evp (by omega) (evp (by omega) ?_))))
    by_cases q : (rd_T46 l (i - 1)).f0 ≥ (rd_T46 l i).f0
    · rw [if_pos q, if_neg (by decide)]
      exact evp q (Ev.now _)
    · rw [if_neg q]
      exact evn q ih
theorem ref_all (l : List S46) (hl : (l.length : Int) ≤ 9223372036854775807) (r1 : Int) (h1 : Ev (fun k => spileref08_Check.l1 k l 0) r1) : ∀ i, 0 ≤ i → i ≤ (l.length : Int) → ∃ e, Ev (fun k => spileref08_Check.l0 k l i) e ∧ ((∀ j, i ≤ j → j < (l.length : Int) → PtP (rd_T46 l j)) → e = r1) ∧ (¬ (∀ j, i ≤ j → j < (l.length : Int) → PtP (rd_T46 l j)) → e = 2) := by
  refine count_up 0 (l.length : Int) _ ?_ ?_
  · exact ⟨r1, Ev.step (fun k => spileref08_Check.l0.eq_2 ..) (evn (by omega) h1), fun _ => rfl, fun h => absurd (fun j a b => by omega) h⟩
  · intro i h0 h1 ih
    by_cases c : LenP (rd_T46 l i).f0
    · by_cases d : LenP (rd_T46 l i).f1
      · obtain ⟨e, he, a, b⟩ := ih
        rw [← w64_succ h0 h1 hl] at he
        refine ⟨e, Ev.step (fun k => spileref08_Check.l0.eq_2 ..) (evp h1 (evp h0 (evb (evc (fun _ => rfl) (isLength_f _)) (evp (decide_eq_true c) (evb (evc (fun _ => rfl) (isLength_f _)) (evp (decide_eq_true d) he)))))), fun h => a (fun j x y => h j (by omega) y), fun h => b (fun z => h (fun j x y => ?_))⟩
        by_cases q : j = i
        · rw [q]; exact ⟨c, d⟩
        · exact z j (by omega) y
      · exact ⟨2, Ev.step (fun k => spileref08_Check.l0.eq_2 ..) (evp h1 (evp h0 (evb (evc (fun _ => rfl) (isLength_f _)) (evp (decide_eq_true c) (evb (evc (fun _ => rfl) (isLength_f _)) (evn (by simp [d]) (Ev.now _))))))), fun h => absurd (h i (Int.le_refl _) h1).2 d, fun _ => rfl⟩
    · exact ⟨2, Ev.step (fun k => spileref08_Check.l0.eq_2 ..) (evp h1 (evp h0 (evb (evc (fun _ => rfl) (isLength_f _)) (evn (by simp [c]) (Ev.now _))))), fun h => absurd (h i (Int.le_refl _) h1).1 c, fun _ => rfl⟩
def OKP (l : List S46) : Prop := 2 ≤ (l.length : Int) ∧ (l.length : Int) ≤ 32 ∧ AllP l ∧ (rd_T46 l 0).f0 = 0 ∧ profile_Check.steps (nbs l) = 0 ∧ NonZ l ∧ profile_Check.falls false (nbs l) = 0
theorem prof_both (l : List S46) (hl : (l.length : Int) ≤ 9223372036854775807) : ∃ e, Ev (fun k => profile_Check.f k l) e ∧ Ev (fun k => spileref08_Check.f k l) e ∧ (e = 0 ↔ OKP l) ∧ e ≠ 3 := by
  by_cases c1 : (l.length : Int) < 2
  · exact ⟨9, evp c1 (Ev.now _), evp c1 (Ev.now _), ⟨fun h => absurd h (by decide), fun h => by have := h.1; omega⟩, by decide⟩
  by_cases c2 : (l.length : Int) > 32
  · exact ⟨8, evn c1 (evp c2 (Ev.now _)), evn c1 (evp c2 (Ev.now _)), ⟨fun h => absurd h (by decide), fun h => by have := h.2.1; omega⟩, by decide⟩
  obtain ⟨b1, hb1, hi1⟩ := contains56 l hl
  obtain ⟨b2, hb2, hi2⟩ := contains59 l hl
  have h3 := ref_falls l hl 1 (by omega) false (.inl (by omega))
  rw [show ((1 : Int) - 1).toNat = 0 from rfl, List.drop_zero] at h3
  obtain ⟨r2, h2, a2, z2⟩ := ref_zero l hl _ h3 0 (by omega) (by omega)
  have h1 := ref_steps l hl r2 h2 1 (by omega) (by omega)
  rw [show ((1 : Int) - 1).toNat = 0 from rfl, List.drop_zero] at h1
  have h10 : Ev (fun k => spileref08_Check.l1 k l 0) (if (rd_T46 l 0).f0 = 0 then (if profile_Check.steps (nbs l) = 0 then r2 else 5) else 5) := by
    refine Ev.step (fun k => spileref08_Check.l1.eq_2 ..) (evp (by omega) (evp rfl (evp (by omega) ?_)))
    by_cases q : (rd_T46 l 0).f0 = 0
    · rw [if_pos q]
      exact evp q (evn (by omega) (by rw [show wrap64 ((0 : Int) + 1) = 1 from w64 (by omega) (by omega)]; exact h1))
    · rw [if_neg q]
      exact evn q (Ev.now _)
  obtain ⟨e, he, ea, ez⟩ := ref_all l hl _ h10 0 (by omega) (by omega)
  have hE2 : Ev (fun k => spileref08_Check.f k l) e := evn c1 (evn c2 he)
  by_cases ha : AllP l
  case neg =>
    obtain rfl := ez ha
    exact ⟨2, evn c1 (evn c2 (evb hb1 (evp (hi1.2 ha) (Ev.now _)))), hE2, ⟨fun h => absurd h (by decide), fun h => absurd h.2.2.1 ha⟩, by decide⟩
  have hb1f : ¬ b1 = true := fun q => hi1.1 q ha
  have he1 := ea ha
  by_cases h0 : (rd_T46 l 0).f0 = 0
  case neg =>
    rw [if_neg h0] at he1
    subst he1
    exact ⟨5, evn c1 (evn c2 (evb hb1 (evn hb1f (evn h0 (Ev.now _))))), hE2, ⟨fun h => absurd h (by decide), fun h => absurd h.2.2.2.1 h0⟩, by decide⟩
  rw [if_pos h0] at he1
  by_cases hs : profile_Check.steps (nbs l) = 0
  case neg =>
    rw [if_neg hs] at he1
    subst he1
    exact ⟨5, evn c1 (evn c2 (evb hb1 (evn hb1f (evp h0 (evn hs (Ev.now _)))))), hE2, ⟨fun h => absurd h (by decide), fun h => absurd h.2.2.2.2.1 hs⟩, by decide⟩
  rw [if_pos hs] at he1
  by_cases hz : NonZ l
  case neg =>
    have := z2 hz
    subst he1
    subst this
    exact ⟨16, evn c1 (evn c2 (evb hb1 (evn hb1f (evp h0 (evp hs (evb hb2 (evp (hi2.2 hz) (Ev.now _)))))))), hE2, ⟨fun h => absurd h (by decide), fun h => absurd h.2.2.2.2.2.1 hz⟩, by decide⟩
  have := a2 hz
  subst he1
  subst this
  refine ⟨_, evn c1 (evn c2 (evb hb1 (evn hb1f (evp h0 (evp hs (evb hb2 (evn (fun q => hi2.1 q hz) (Ev.now _)))))))), hE2, ⟨fun h => ⟨by omega, by omega, ha, h0, hs, hz, h⟩, fun h => h.2.2.2.2.2.2⟩, ?_⟩
  rcases falls_or false (nbs l) with q | q <;> rw [q] <;> decide
def OKC (x : S27) : Prop := NameP x.f0 ∧ (x.f1 = 1 ∨ x.f1 = 2) ∧ 0 ≤ x.f3 ∧ x.f3 ≤ 1073741824 ∧ OKP x.f2
/-- Of sizes that a machine can have. -/
def Sm (x : S27) : Prop := x.f0.size < 4294967296 ∧ x.f2.length < 4294967296
theorem check_both (x : S27) (hx : Sm x) : ∃ e, Ev (fun k => cask_Check.f k x.f0 x.f1 x.f2 x.f3) e ∧ Ev (fun k => spileref09_Check.f k x.f0 x.f1 x.f2 x.f3) e ∧ (e = 0 ↔ OKC x) ∧ e ≠ 3 := by
  obtain ⟨b, n1, n2, n3⟩ := name_both x.f0 (by have := hx.1; omega)
  obtain ⟨e, p1, p2, p3, p4⟩ := prof_both x.f2 (by have := hx.2; omega)
  cases b with
  | false =>
    exact ⟨4, evb n1 (evn (by decide) (Ev.now _)), evb n2 (evn (by decide) (Ev.now _)), ⟨fun h => absurd h (by decide), fun h => absurd (n3.2 h.1) (by decide)⟩, by decide⟩
  | true =>
    have hn := n3.1 rfl
    have fin : (x.f1 = 1 ∨ x.f1 = 2) → ∃ e, Ev (fun k => cask_Check.j0 k false x.f0 x.f1 x.f2 x.f3) e ∧ Ev (fun k => if x.f3 < 0 then some 2 else if x.f3 > 1073741824 then some 2 else (spileref08_Check.f k x.f2).bind fun t => some t) e ∧ (e = 0 ↔ OKC x) ∧ e ≠ 3 := by
      intro hpos
      by_cases d1 : x.f3 < 0
      · exact ⟨2, Ev.step (fun k => cask_Check.j0.eq_2 ..) (evn (by decide) (evp d1 (Ev.now _))), evp d1 (Ev.now _), ⟨fun h => absurd h (by decide), fun h => by have := h.2.2.1; omega⟩, by decide⟩
      by_cases d2 : x.f3 > 1073741824
      · exact ⟨2, Ev.step (fun k => cask_Check.j0.eq_2 ..) (evn (by decide) (evn d1 (evp d2 (Ev.now _)))), evn d1 (evp d2 (Ev.now _)), ⟨fun h => absurd h (by decide), fun h => by have := h.2.2.2.1; omega⟩, by decide⟩
      exact ⟨e, Ev.step (fun k => cask_Check.j0.eq_2 ..) (evn (by decide) (evn d1 (evn d2 (evb p1 (Ev.now _))))), evn d1 (evn d2 (evb p2 (Ev.now _))), p3.trans ⟨fun h => ⟨hn, hpos, by omega, by omega, h⟩, fun h => h.2.2.2.2⟩, p4⟩
    by_cases c1 : x.f1 = 1
    · obtain ⟨e, a, b, c, d⟩ := fin (.inl c1)
      exact ⟨e, evb n1 (evp rfl (evp c1 a)), evb n2 (evp rfl (evp c1 b)), c, d⟩
    · by_cases c2 : x.f1 = 2
      · obtain ⟨e, a, b, c, d⟩ := fin (.inr c2)
        exact ⟨e, evb n1 (evp rfl (evn c1 (by rw [show (x.f1 != 2) = false from by simp [c2]]; exact a))), evb n2 (evp rfl (evn c1 (evp c2 b))), c, d⟩
      · refine ⟨2, evb n1 (evp rfl (evn c1 (Ev.step (fun k => cask_Check.j0.eq_2 ..) (evp (by simp [c2]) (Ev.now _))))), evb n2 (evp rfl (evn c1 (evn c2 (Ev.now _)))), ⟨fun h => absurd h (by decide), fun h => ?_⟩, by decide⟩
        rcases h.2.1 with q | q
        · exact absurd q c1
        · exact absurd q c2
def SmL (l : List S27) : Prop := l.length < 4294967296 ∧ ∀ x, x ∈ l → Sm x
theorem rd27_mem {l : List S27} {i : Int} (h0 : 0 ≤ i) (h : i < (l.length : Int)) : rd_T27 l i ∈ l := by
  unfold rd_T27
  rw [List.getD_eq_getElem?_getD, List.getElem?_eq_getElem (by omega)]
  exact List.getElem_mem _
theorem drop27 {l : List S27} {i : Int} (h0 : 0 ≤ i) (h1 : i < (l.length : Int)) : l.drop i.toNat = rd_T27 l i :: l.drop (i + 1).toNat := by
  have hl : i.toNat < l.length := by omega
  have g : rd_T27 l i = l[i.toNat] := by
    unfold rd_T27
    simp [List.getD_eq_getElem?_getD, List.getElem?_eq_getElem hl]
  rw [g, show (i + 1).toNat = i.toNat + 1 from by omega, ← List.drop_eq_getElem_cons hl]
theorem drop46 {l : List S46} {i : Int} (h0 : 0 ≤ i) (h1 : i < (l.length : Int)) : l.drop i.toNat = rd_T46 l i :: l.drop (i + 1).toNat := by
  have hl : i.toNat < l.length := by omega
  have g : rd_T46 l i = l[i.toNat] := by
    unfold rd_T46
    simp [List.getD_eq_getElem?_getD, List.getElem?_eq_getElem hl]
  rw [g, show (i + 1).toNat = i.toNat + 1 from by omega, ← List.drop_eq_getElem_cons hl]
def nm (x : S27) : List UInt8 := x.f0.data.toList
/-- No name from i on stands ahead of itself. -/
def NoDup (l : List S27) (i : Int) : Prop := ∀ j, i ≤ j → j < (l.length : Int) → ∀ m, 0 ≤ m → m < j → nm (rd_T27 l j) ≠ nm (rd_T27 l m)
theorem tw_ev (l : List S27) (hl : SmL l) : ∀ i, 0 ≤ i → i ≤ (l.length : Int) → ∀ s, (∀ x, x ∈ s ↔ ∃ m, 0 ≤ m ∧ m < i ∧ nm (rd_T27 l m) = x) →
    ∃ e, cask_List.tw s (l.drop i.toNat) = some e ∧ (NoDup l i → e = 0) ∧ (¬ NoDup l i → e = 6) := by
  refine count_up 0 (l.length : Int) _ ?_ ?_
  · intro s hs
    rw [List.drop_eq_nil_of_le (by omega)]
    exact ⟨0, rfl, fun _ => rfl, fun h => absurd (fun j a b => by omega) h⟩
  · intro i h0 h1 ih s hs
    rw [drop27 h0 h1]
    unfold cask_List.tw
    rw [if_pos (hl.2 _ (rd27_mem h0 h1)).1]
    by_cases c : (rd_T27 l i).f0.data.toList ∈ s
    · refine ⟨6, by rw [if_pos c], fun h => ?_, fun _ => rfl⟩
      obtain ⟨m, m0, m1, m2⟩ := (hs _).1 c
      exact absurd m2.symm (h i (Int.le_refl _) h1 m m0 m1)
    · obtain ⟨e, e1, e2, e3⟩ := ih ((rd_T27 l i).f0.data.toList :: s) (fun x => by
        rw [List.mem_cons, hs]
        constructor
        · rintro (q | ⟨m, m0, m1, m2⟩)
          · exact ⟨i, h0, by omega, q.symm⟩
          · exact ⟨m, m0, by omega, m2⟩
        · rintro ⟨m, m0, m1, m2⟩
          by_cases q : m = i
          · subst q; exact .inl m2.symm
          · exact .inr ⟨m, m0, by omega, m2⟩)
      refine ⟨e, by rw [if_neg c]; exact e1, fun h => e2 (fun j a b => h j (by omega) b), fun h => e3 (fun z => h (fun j a b m m0 m1 => ?_))⟩
      by_cases q : j = i
      · subst q
        exact fun z2 => c ((hs _).2 ⟨m, m0, m1, z2.symm⟩)
      · exact z j (by omega) b m m0 m1
theorem toL (s : ByteArray) : s.toList = s.data.toList := Lib.toList_data s
theorem ref_dup (l : List S27) (hl : SmL l) : ∀ i, 0 ≤ i → i ≤ (l.length : Int) → ∃ e, Ev (fun k => spileref09_List.l1 k l i) e ∧ (NoDup l i → e = 0) ∧ (¬ NoDup l i → e = 6) := by
  have hz := hl.1
  refine count_up 0 (l.length : Int) _ ?_ ?_
  · exact ⟨0, Ev.step (fun k => spileref09_List.l1.eq_2 ..) (evn (by omega) (Ev.now _)), fun _ => rfl, fun h => absurd (fun j a b => by omega) h⟩
  · intro i h0 h1 ⟨e, e1, e2, e3⟩
    rw [← w64_succ h0 h1 (by omega)] at e1
    have key : ∀ m, 0 ≤ m → m ≤ i → ∃ e', Ev (fun k => spileref09_List.l2 k l i m) e' ∧ ((∀ q, m ≤ q → q < i → nm (rd_T27 l i) ≠ nm (rd_T27 l q)) → e' = e) ∧ (¬ (∀ q, m ≤ q → q < i → nm (rd_T27 l i) ≠ nm (rd_T27 l q)) → e' = 6) := by
      refine count_up 0 i _ ?_ ?_
      · exact ⟨e, Ev.step (fun k => spileref09_List.l2.eq_2 ..) (evn (by omega) e1), fun _ => rfl, fun h => absurd (fun q a b => by omega) h⟩
      · intro m m0 m1 ⟨f, f1, f2, f3⟩
        by_cases c : ((rd_T27 l i).f0).toList = ((rd_T27 l m).f0).toList
        · exact ⟨6, Ev.step (fun k => spileref09_List.l2.eq_2 ..) (evp m1 (evp h0 (evp h1 (evp m0 (evp (by omega) (evp c (Ev.now _))))))), fun h => absurd (by rw [toL, toL] at c; exact c) (h m (Int.le_refl _) m1), fun _ => rfl⟩
        · rw [← w64_succ m0 m1 (by omega)] at f1
          refine ⟨f, Ev.step (fun k => spileref09_List.l2.eq_2 ..) (evp m1 (evp h0 (evp h1 (evp m0 (evp (by omega) (evn c f1)))))), fun h => f2 (fun q a b => h q (by omega) b), fun h => f3 (fun z => h (fun q a b => ?_))⟩
          by_cases qe : q = m
          · subst qe
            exact fun z2 => c (by rw [toL, toL]; exact z2)
          · exact z q (by omega) b
    obtain ⟨f, f1, f2, f3⟩ := key 0 (by omega) h0
    refine ⟨f, Ev.step (fun k => spileref09_List.l1.eq_2 ..) (evp h1 f1), fun h => ?_, fun h => ?_⟩
    · rw [f2 (fun q a b => h i (Int.le_refl _) h1 q a b)]
      exact e2 (fun j a b => h j (by omega) b)
    · by_cases z : ∀ q, 0 ≤ q → q < i → nm (rd_T27 l i) ≠ nm (rd_T27 l q)
      · rw [f2 z]
        refine e3 (fun y => h (fun j a b m m0 m1 => ?_))
        by_cases q : j = i
        · subst q; exact z m m0 m1
        · exact y j (by omega) b m m0 m1
      · exact f3 z
def OKL (l : List S27) : Prop := (l.length : Int) ≤ 32 ∧ (∀ x, x ∈ l → OKC x) ∧ NoDup l 0
theorem ck_both (l : List S27) (hl : SmL l) (r1 : Int) (h1 : Ev (fun k => spileref09_List.l1 k l 0) r1) : ∀ i, 0 ≤ i → i ≤ (l.length : Int) → ∃ e f, Ev (fun k => cask_List.ck k (l.drop i.toNat)) e ∧ Ev (fun k => spileref09_List.l0 k l i) f ∧ e ≠ 3 ∧
    ((∀ x, x ∈ l.drop i.toNat → OKC x) → e = 0 ∧ f = r1) ∧ (¬ (∀ x, x ∈ l.drop i.toNat → OKC x) → e ≠ 0 ∧ f = e) := by
  have hz := hl.1
  refine count_up 0 (l.length : Int) _ ?_ ?_
  · rw [List.drop_eq_nil_of_le (by omega)]
    exact ⟨0, r1, evr rfl, Ev.step (fun k => spileref09_List.l0.eq_2 ..) (evn (by omega) h1), by decide, fun _ => ⟨rfl, rfl⟩, fun h => absurd (fun x hx => by cases hx) h⟩
  · intro i h0 h1 ⟨e, f, e1, f1, e3, a, b⟩
    obtain ⟨c, c1, c2, c3, c4⟩ := check_both (rd_T27 l i) (hl.2 _ (rd27_mem h0 h1))
    rw [← w64_succ h0 h1 (by omega)] at f1
    rw [drop27 h0 h1]
    by_cases z : c = 0
    · have hok := c3.1 z
      refine ⟨e, f, evb c1 (evp z e1), Ev.step (fun k => spileref09_List.l0.eq_2 ..) (evp h1 (evp h0 (evb c2 (evp z f1)))), e3, fun h => a (fun x hx => h x (List.mem_cons_of_mem _ hx)), fun h => b (fun y => h (fun x hx => ?_))⟩
      rcases List.mem_cons.1 hx with q | q
      · rw [q]; exact hok
      · exact y x q
    · exact ⟨c, c, evb c1 (evn z (Ev.now _)), Ev.step (fun k => spileref09_List.l0.eq_2 ..) (evp h1 (evp h0 (evb c2 (evn z (Ev.now _))))), c4, fun h => absurd (c3.2 (h _ (List.mem_cons_self ..))) z, fun _ => ⟨z, rfl⟩⟩
theorem list_both (l : List S27) (hl : SmL l) : ∃ e, Ev (fun k => cask_List.f k l) e ∧ Ev (fun k => spileref09_List.f k l) e ∧ (e = 0 ↔ OKL l) ∧ e ≠ 3 := by
  by_cases c : (l.length : Int) > 32
  · exact ⟨8, evp c (Ev.now _), evp c (Ev.now _), ⟨fun h => absurd h (by decide), fun h => by have := h.1; omega⟩, by decide⟩
  obtain ⟨t, t1, t2, t3⟩ := tw_ev l hl 0 (by omega) (by omega) [] (fun x => ⟨fun h => (by cases h), fun ⟨m, a, b, _⟩ => (by omega)⟩)
  obtain ⟨d, d1, d2, d3⟩ := ref_dup l hl 0 (by omega) (by omega)
  obtain ⟨e, f, e1, f1, e3, a, b⟩ := ck_both l hl d d1 0 (by omega) (by omega)
  rw [show (0 : Int).toNat = 0 from rfl, List.drop_zero] at t1 e1 a b
  have htd : t = d ∧ (t = 0 ↔ NoDup l 0) ∧ t ≠ 3 := by
    by_cases q : NoDup l 0
    · rw [t2 q, d2 q]; exact ⟨rfl, ⟨fun _ => q, fun _ => rfl⟩, by decide⟩
    · rw [t3 q, d3 q]; exact ⟨rfl, ⟨fun h => absurd h (by decide), fun h => absurd h q⟩, by decide⟩
  by_cases ok : ∀ x, x ∈ l → OKC x
  · obtain ⟨rfl, rfl⟩ := a ok
    refine ⟨t, evn c (evb e1 (evp rfl (evc (fun _ => rfl) t1))), evn c (by rw [htd.1]; exact f1), htd.2.1.trans ⟨fun h => ⟨by omega, ok, h⟩, fun h => h.2.2⟩, htd.2.2⟩
  · obtain ⟨z, rfl⟩ := b ok
    exact ⟨f, evn c (evb e1 (evn z (Ev.now _))), evn c f1, ⟨fun h => absurd h z, fun h => absurd h.2.1 ok⟩, e3⟩
end Go.Proofs.YtnhmlneebnkjcaaDoor.PL
namespace Go.Proofs.YtnhmlneebnkjcaaDoor.PL
open Go Go.RowKit Go.Proofs.YtnhmlneebnkjcaaDoorW.PrintWords Go.Proofs.YtnhmlneebnkjcaaDoorW.PrintLast Go.Proofs.YtnhmlneebnkjcaaDoorW.PrintMore Go.Proofs.YtnhmlneebnkjcaaDoor.Pr Go.Proofs.YtnhmlneebnkjcaaDoor.Opn Go.Proofs.YtnhmlneebnkjcaaDoor.X
def FewP (l : List S27) : Prop := (l.length : Int) ≤ 33 ∧ ∀ x, x ∈ l → x.f2.length ≤ 33 ∧ x.f0.size ≤ 70
theorem FewP.sm {l : List S27} (h : FewP l) : SmL l := ⟨by have := h.1; omega, fun x hx => ⟨by have := (h.2 x hx).2; omega, by have := (h.2 x hx).1; omega⟩⟩
theorem few_ev (l : List S27) (hl : (l.length : Int) ≤ 9223372036854775807) : ∃ b, Ev (fun k => spileref09_Few.f k l) b ∧ (b = true → FewP l) := by
  have key : ∀ i, 0 ≤ i → i ≤ (l.length : Int) → ∃ b, Ev (fun k => spileref09_Few.l0 k l i) b ∧ (b = true → (l.length : Int) ≤ 33 ∧ ∀ x, x ∈ l.drop i.toNat → x.f2.length ≤ 33 ∧ x.f0.size ≤ 70) := by
    refine count_up 0 (l.length : Int) _ ?_ ?_
    · refine ⟨_, Ev.step (fun k => spileref09_Few.l0.eq_2 ..) (evn (by omega) (Ev.now _)), fun h => ⟨of_decide_eq_true h, fun x hx => ?_⟩⟩
      rw [List.drop_eq_nil_of_le (by omega)] at hx
      cases hx
    · intro i h0 h1 ⟨b, hb, hi⟩
      have hf : Ev (fun _ : Nat => spileref08_Few.f (rd_T27 l i).f2) (decide (((rd_T27 l i).f2.length : Int) ≤ 33)) := Ev.now _
      by_cases c : ((rd_T27 l i).f2.length : Int) ≤ 33
      · by_cases d : ((rd_T27 l i).f0.size : Int) > 70
        · exact ⟨false, Ev.step (fun k => spileref09_Few.l0.eq_2 ..) (evp h1 (evp h0 (evb hf (evp (decide_eq_true c) (evp d (Ev.now _)))))), fun h => by cases h⟩
        · rw [← w64_succ h0 h1 hl] at hb
          refine ⟨b, Ev.step (fun k => spileref09_Few.l0.eq_2 ..) (evp h1 (evp h0 (evb hf (evp (decide_eq_true c) (evn d hb))))), fun h => ⟨(hi h).1, fun x hx => ?_⟩⟩
          rw [drop27 h0 h1] at hx
          rcases List.mem_cons.1 hx with q | q
          · rw [q]; exact ⟨by omega, by omega⟩
          · exact (hi h).2 x q
      · exact ⟨false, Ev.step (fun k => spileref09_Few.l0.eq_2 ..) (evp h1 (evp h0 (evb hf (evn (by simpa using c) (Ev.now _))))), fun h => by cases h⟩
  obtain ⟨b, hb, hi⟩ := key 0 (by omega) (by omega)
  exact ⟨b, hb, fun h => by have := hi h; rwa [show (0 : Int).toNat = 0 from rfl, List.drop_zero] at this⟩
theorem copy_ev (l : List S27) (hl : SmL l) : Ev (fun k => spileref09_Copy.f k l) l := by
  have hz := hl.1
  have key : ∀ i, 0 ≤ i → i ≤ (l.length : Int) → Ev (fun k => spileref09_Copy.l0 k l (l.take i.toNat) i) l := by
    refine count_up 0 (l.length : Int) _ ?_ ?_
    · rw [show ((l.length : Int)).toNat = l.length from by omega, List.take_length]
      exact Ev.step (fun k => spileref09_Copy.l0.eq_2 ..) (evn (by omega) (Ev.now _))
    · intro i h0 h1 ih
      have hs := (hl.2 _ (rd27_mem h0 h1)).2
      rw [← w64_succ h0 h1 (by omega)] at ih
      have e : l.take (wrap64 (i + 1)).toNat = l.take i.toNat ++ [(⟨(rd_T27 l i).f0, (rd_T27 l i).f1, ([] : List S46) ++ (rd_T27 l i).f2, (rd_T27 l i).f3⟩ : S27)] := by
        rw [w64_succ h0 h1 (by omega), show (i + 1).toNat = i.toNat + 1 from by omega, List.take_add_one, List.nil_append]
        congr 1
        rw [List.getElem?_eq_getElem (by omega)]
        unfold rd_T27
        rw [List.getD_eq_getElem?_getD, List.getElem?_eq_getElem (by omega)]
        rfl
      rw [e] at ih
      refine Ev.step (fun k => spileref09_Copy.l0.eq_2 ..) (evp h1 (evp h0 (evb (Ev.now ([] : List S46)) (evp (by simp; omega) (evp (by rw [List.length_take]; omega) ih)))))
  have := key 0 (by omega) (by omega)
  rwa [show (0 : Int).toNat = 0 from rfl, List.take_zero] at this
end Go.Proofs.YtnhmlneebnkjcaaDoor.PL
namespace Go.Proofs.YtnhmlneebnkjcaaDoor.PL
open Go Go.RowKit Go.Proofs.YtnhmlneebnkjcaaDoorW.PrintWords Go.Proofs.YtnhmlneebnkjcaaDoorW.PrintLast Go.Proofs.YtnhmlneebnkjcaaDoorW.PrintMore Go.Proofs.YtnhmlneebnkjcaaDoor.Pr Go.Proofs.YtnhmlneebnkjcaaDoor.TX Go.Proofs.YtnhmlneebnkjcaaDoor.X
section
variable {α : Type}
/-- Line by line: the first line that has no such thing, or no line feed, stops it. -/
def run (lineL : List UInt8 → Option α) (e : Bool) : List (List UInt8) → List α → List α × Option Nat
  | [], out => (out, none)
  | l :: r, out => match lineL l with
    | none => ([], some out.length)
    | some x => if r = [] ∧ e = false then ([], some out.length) else run lineL e r (out ++ [x])
def printL (lineT : α → List UInt8) : List α → List UInt8
  | [] => []
  | x :: r => lineT x ++ 10 :: printL lineT r
theorem printL_len {lineT : α → List UInt8} {m : Nat} : ∀ l : List α, (∀ x, x ∈ l → (lineT x).length ≤ m) → (printL lineT l).length ≤ (m + 1) * l.length
  | [], _ => by simp [printL]
  | x :: r, h => by
    have a := h x (by simp)
    have b := printL_len r (fun z hz => h z (by simp [hz]))
    simp only [printL, List.length_append, List.length_cons]
    rw [Nat.mul_add, Nat.mul_one]; omega
end
theorem itoa_dig {n : Int} (h0 : 0 ≤ n) : Lib.itoa n = Lib.decDigits n.toNat := by unfold Lib.itoa; rw [if_neg (by omega)]
theorem itoa_le {n : Int} {m : Nat} (h0 : 0 ≤ n) (h1 : n < 10 ^ m) (hm : 1 ≤ m) : (Lib.itoa n).length ≤ m := by
  rw [itoa_dig h0]
  refine digits_length_le ?_ hm
  have : ((n.toNat : Nat) : Int) < ((10 ^ m : Nat) : Int) := by rw [Int.natCast_pow]; show ((n.toNat : Nat) : Int) < 10 ^ m; omega
  exact Int.ofNat_lt.1 this
end Go.Proofs.YtnhmlneebnkjcaaDoor.PL
namespace Go.Proofs.YtnhmlneebnkjcaaDoor.PL
open Go Go.RowKit Go.Proofs.YtnhmlneebnkjcaaDoorW.PrintWords Go.Proofs.YtnhmlneebnkjcaaDoorW.PrintLast Go.Proofs.YtnhmlneebnkjcaaDoorW.PrintMore Go.Proofs.YtnhmlneebnkjcaaDoor.Pr Go.Proofs.YtnhmlneebnkjcaaDoor.Opn Go.Proofs.YtnhmlneebnkjcaaDoor.TX Go.Proofs.YtnhmlneebnkjcaaDoor.X
def cCask : List UInt8 := [99, 97, 115, 107]
def cDecl : List UInt8 := [100, 101, 99, 108, 97, 114, 101, 100]
def cAt : List UInt8 := [97, 116]
def cRad : List UInt8 := [114, 97, 100, 105, 117, 115]
def cEnd : List UInt8 := [101, 110, 100]
def cLying : List UInt8 := [108, 121, 105, 110, 103]
def cStand : List UInt8 := [115, 116, 97, 110, 100, 105, 110, 103]
def posL (p : List UInt8) : Option Int := if p = cLying then some 1 else if p = cStand then some 2 else none
def outL : List (List UInt8) → Option S27
  | [a, b, c, d, e] => if a = cCask ∧ b ≠ [] ∧ d = cDecl then (match posL c with
    | none => none
    | some p => match numP 10 e with
      | none => none
      | some v => some ⟨ba b, p, [], (v : Int)⟩) else none
  | _ => none
theorem outL5 (a b c d e : List UInt8) : outL [a, b, c, d, e] = if a = cCask ∧ b ≠ [] ∧ d = cDecl then (match posL c with
    | none => none
    | some p => match numP 10 e with
      | none => none
      | some v => some ⟨ba b, p, [], (v : Int)⟩) else none := rfl
theorem outL_len {ws : List (List UInt8)} (h : ws.length ≠ 5) : outL ws = none := by
  unfold outL
  split
  · exact absurd rfl h
  · rfl
theorem five {ws : List (List UInt8)} (h : ws.length = 5) : ∃ a b c d e, ws = [a, b, c, d, e] := by
  match ws, h with
  | [a, b, c, d, e], _ => exact ⟨a, b, c, d, e, rfl⟩
end Go.Proofs.YtnhmlneebnkjcaaDoor.PL
namespace Go.Proofs.YtnhmlneebnkjcaaDoor.PL
open Go Go.RowKit Go.Proofs.YtnhmlneebnkjcaaDoorW.PrintWords Go.Proofs.YtnhmlneebnkjcaaDoorW.PrintLast Go.Proofs.YtnhmlneebnkjcaaDoorW.PrintMore Go.Proofs.YtnhmlneebnkjcaaDoor.Pr Go.Proofs.YtnhmlneebnkjcaaDoor.Opn Go.Proofs.YtnhmlneebnkjcaaDoor.TX Go.Proofs.YtnhmlneebnkjcaaDoor.X
def InvA (acc : List S27) (n : Nat) : Prop := acc.length ≤ n ∧ ∀ x, x ∈ acc → x.f0.size ≤ 70000 ∧ x.f2.length ≤ n
theorem InvA.sm {acc : List S27} {n : Nat} (h : InvA acc n) (hn : n ≤ 200000) : SmL acc := ⟨by have := h.1; omega, fun x hx => ⟨by have := (h.2 x hx).1; omega, by have := (h.2 x hx).2; omega⟩⟩
theorem InvA.up {acc : List S27} {n : Nat} (h : InvA acc n) : InvA acc (n + 1) := ⟨Nat.le_succ_of_le h.1, fun x hx => ⟨(h.2 x hx).1, Nat.le_succ_of_le (h.2 x hx).2⟩⟩
theorem part_le (c : UInt8) : ∀ s p : List UInt8, p ∈ parts c s → p.length ≤ s.length
  | [], p, h => by simp [parts] at h; simp [h]
  | b :: r, p, h => by
    rw [parts_cons] at h
    by_cases e : b = c
    · rw [if_pos e] at h
      rcases List.mem_cons.1 h with h | h
      · simp [h]
      · have := part_le c r p h; simp; omega
    · rw [if_neg e] at h
      cases hp : parts c r with
      | nil => exact absurd hp (parts_ne c r)
      | cons q t =>
        rw [hp] at h
        rcases List.mem_cons.1 h with h | h
        · have := part_le c r q (by rw [hp]; simp)
          rw [h]; simp; omega
        · have := part_le c r p (by rw [hp]; exact List.mem_cons_of_mem _ h); simp; omega
theorem outL_some {ws : List (List UInt8)} {q : S27} (h : outL ws = some q) : ∃ a b c d e v, ws = [a, b, c, d, e] ∧ a = cCask ∧ b ≠ [] ∧ d = cDecl ∧ posL c = some q.f1 ∧ numP 10 e = some v ∧ q = ⟨ba b, q.f1, [], (v : Int)⟩ := by
  by_cases h5 : ws.length = 5
  case neg => rw [outL_len h5] at h; cases h
  obtain ⟨a, b, c, d, e, rfl⟩ := five h5
  rw [outL5] at h
  by_cases hc : a = cCask ∧ b ≠ [] ∧ d = cDecl
  case neg => rw [if_neg hc] at h; cases h
  rw [if_pos hc] at h
  cases hp : posL c with
  | none => rw [hp] at h; cases h
  | some p =>
    rw [hp] at h
    cases hn : numP 10 e with
    | none => rw [hn] at h; cases h
    | some v =>
      rw [hn] at h
      cases h
      exact ⟨a, b, c, d, e, v, rfl, hc.1, hc.2.1, hc.2.2, hp, hn, rfl⟩
theorem InvA.out {acc : List S27} {n : Nat} {l : List UInt8} {q : S27} (h : InvA acc n) (hq : outL (parts 32 l) = some q) (hl : l.length ≤ 70000) : InvA (acc ++ [q]) (n + 1) := by
  obtain ⟨a, b, c, d, e, v, hw, _, _, _, _, _, hq2⟩ := outL_some hq
  have hb := part_le 32 l b (by rw [hw]; simp)
  refine ⟨by rw [List.length_append]; have := h.1; simp; omega, fun x hx => ?_⟩
  rcases List.mem_append.1 hx with hx | hx
  · have := h.2 x hx; exact ⟨this.1, by omega⟩
  · rw [List.mem_singleton] at hx
    rw [hx, hq2]
    exact ⟨by show (ba b).size ≤ _; rw [ba_size]; omega, by simp⟩
end Go.Proofs.YtnhmlneebnkjcaaDoor.PL
namespace Go.Proofs.YtnhmlneebnkjcaaDoor.PL
open Go Go.RowKit Go.Proofs.YtnhmlneebnkjcaaDoorW.PrintWords Go.Proofs.YtnhmlneebnkjcaaDoorW.PrintLast Go.Proofs.YtnhmlneebnkjcaaDoorW.PrintMore Go.Proofs.YtnhmlneebnkjcaaDoor.Pr Go.Proofs.YtnhmlneebnkjcaaDoor.Opn Go.Proofs.YtnhmlneebnkjcaaDoor.TX Go.Proofs.YtnhmlneebnkjcaaDoor.X
def posT (p : Int) : List UInt8 := if p = 2 then cStand else cLying
def headT (x : S27) : List UInt8 := cCask ++ 32 :: (nm x ++ 32 :: (posT x.f1 ++ 32 :: (cDecl ++ 32 :: Lib.itoa x.f3)))
def ptT (p : S46) : List UInt8 := cAt ++ 32 :: (Lib.itoa p.f0 ++ 32 :: (cRad ++ 32 :: Lib.itoa p.f1))
def linesOf (x : S27) : List (List UInt8) := headT x :: (x.f2.map ptT ++ [cEnd])
def tl (ls : List (List UInt8)) : List UInt8 := printL (fun x => x) ls
def castT (l : List S27) : List UInt8 := tl (l.flatMap linesOf)
theorem tl_cons (x : List UInt8) (r : List (List UInt8)) : tl (x :: r) = x ++ 10 :: tl r := rfl
theorem tl_app : ∀ a b, tl (a ++ b) = tl a ++ tl b
  | [], b => rfl
  | x :: r, b => by rw [List.cons_append, tl_cons, tl_cons, tl_app r b]; simp
theorem pos_len (p : Int) : (posT p).length ≤ 8 := by unfold posT; split <;> decide
def Rng (x : S27) : Prop := x.f0.size ≤ 64 ∧ 0 ≤ x.f3 ∧ x.f3 ≤ 1073741824 ∧ (x.f2.length : Int) ≤ 32 ∧ AllP x.f2
theorem OKC.rng {x : S27} (h : OKC x) : Rng x := ⟨h.1.2.1, h.2.2.1, h.2.2.2.1, h.2.2.2.2.2.1, h.2.2.2.2.2.2.1⟩
theorem head_len {x : S27} (h : Rng x) : (headT x).length ≤ 120 := by
  have a := itoa_le (n := x.f3) (m := 10) (by have := h.2.1; omega) (by have := h.2.2.1; omega) (by omega)
  have b := pos_len x.f1
  have c := size_data x.f0
  have d := h.1
  unfold headT nm
  simp only [List.length_append, List.length_cons, cCask, cDecl, List.length_nil]
  omega
theorem pt_len {p : S46} (h : PtP p) : (ptT p).length ≤ 40 := by
  have a := itoa_le (n := p.f0) (m := 10) (by have := h.1.1; omega) (by have := h.1.2; omega) (by omega)
  have b := itoa_le (n := p.f1) (m := 10) (by have := h.2.1; omega) (by have := h.2.2; omega) (by omega)
  unfold ptT
  simp only [List.length_append, List.length_cons, cAt, cRad, List.length_nil]
  omega
theorem lits : (⟨#[99, 97, 115, 107, 32]⟩ : ByteArray) = ba [99, 97, 115, 107, 32] ∧ (⟨#[32]⟩ : ByteArray) = ba [32] ∧ (⟨#[32, 100, 101, 99, 108, 97, 114, 101, 100, 32]⟩ : ByteArray) = ba [32, 100, 101, 99, 108, 97, 114, 101, 100, 32] ∧ (⟨#[10]⟩ : ByteArray) = ba [10] ∧
    (⟨#[97, 116, 32]⟩ : ByteArray) = ba [97, 116, 32] ∧ (⟨#[32, 114, 97, 100, 105, 117, 115, 32]⟩ : ByteArray) = ba [32, 114, 97, 100, 105, 117, 115, 32] ∧ (⟨#[101, 110, 100, 10]⟩ : ByteArray) = ba [101, 110, 100, 10] := ⟨rfl, rfl, rfl, rfl, rfl, rfl, rfl⟩
theorem word_ba (p : Int) : cask_Print.word p = ba (posT p) := by unfold cask_Print.word posT; split <;> rfl
theorem head_eq {x : S27} (h : Rng x) : cask_Print.head x = some (ba (headT x ++ [10])) := by
  have a := itoa_le (n := x.f3) (m := 10) (by have := h.2.1; omega) (by have := h.2.2.1; omega) (by omega)
  have e0 : x.f0 = ba (nm x) := (ba_data _).symm
  unfold cask_Print.head
  rw [itoa_f (by have := h.2.1; omega) (by have := h.2.2.1; omega), Option.bind_some, if_pos ⟨by rw [ba_size]; omega, by have := h.1; omega⟩, lits.1, lits.2.1, lits.2.2.1, lits.2.2.2.1, word_ba]
  refine congrArg some ?_
  rw [show ba [99, 97, 115, 107, 32] ++ x.f0 = ba ([99, 97, 115, 107, 32] ++ nm x) from by rw [← ba_app, ← e0], ba_app, ba_app, ba_app, ba_app, ba_app]
  simp [headT, cCask, cDecl]
theorem part_eq {p : S46} (h : PtP p) : cask_Print.part p = some (ba (ptT p ++ [10])) := by
  have a := itoa_le (n := p.f0) (m := 10) (by have := h.1.1; omega) (by have := h.1.2; omega) (by omega)
  have b := itoa_le (n := p.f1) (m := 10) (by have := h.2.1; omega) (by have := h.2.2; omega) (by omega)
  unfold cask_Print.part
  rw [itoa_f (by have := h.1.1; omega) (by have := h.1.2; omega), itoa_f (by have := h.2.1; omega) (by have := h.2.2; omega), Option.bind_some, Option.bind_some, if_pos ⟨by rw [ba_size]; omega, by rw [ba_size]; omega⟩, lits.2.2.2.1, lits.2.2.2.2.1, lits.2.2.2.2.2.1]
  refine congrArg some ?_
  rw [ba_app, ba_app, ba_app, ba_app]
  simp [ptT, cAt, cRad]
theorem app_eq (acc s : List UInt8) (h : acc.length + s.length ≤ 140737488355328) : cask_Print.app acc (ba s) = some (acc ++ s) := by
  unfold cask_Print.app
  rw [ba_size, if_pos h]
  rfl
theorem print_pts (l : List S27) (i : Int) (h : AllP (rd_T27 l i).f2) (hn : ((rd_T27 l i).f2.length : Int) ≤ 32) : ∀ j, 0 ≤ j → j ≤ ((rd_T27 l i).f2.length : Int) → ∀ acc : List UInt8, (acc.length : Int) + 41 * (((rd_T27 l i).f2.length : Int) - j) ≤ 1000000 →
    ∀ r, Ev (fun k => cask_Print.l0 k l (acc ++ tl (((rd_T27 l i).f2.drop j.toNat).map ptT ++ [cEnd])) (wrap64 (i + 1))) r → Ev (fun k => cask_Print.l1 k l acc i j) r := by
  refine count_up 0 _ _ ?_ ?_
  · intro acc ha r hr
    rw [List.drop_eq_nil_of_le (by omega)] at hr
    refine Ev.step (fun k => cask_Print.l1.eq_2 ..) (evn (by omega) ?_)
    rw [lits.2.2.2.2.2.2, app_eq _ _ (by simp; omega)]
    simp only [Option.bind_some]
    exact hr
  · intro j h0 h1 ih acc ha r hr
    have hp := h j h0 h1
    have hl := pt_len hp
    refine Ev.step (fun k => cask_Print.l1.eq_2 ..) (evp h1 (evp h0 ?_))
    rw [part_eq hp]
    simp only [Option.bind_some]
    rw [app_eq _ _ (by simp; omega)]
    simp only [Option.bind_some]
    have q := ih (acc ++ (ptT (rd_T46 (rd_T27 l i).f2 j) ++ [10])) (by simp; omega) r
    rw [← w64_succ h0 h1 (by omega)] at q
    refine q ?_
    rw [w64_succ h0 h1 (by omega)]
    rw [drop46 h0 h1, List.map_cons, List.cons_append, tl_cons] at hr
    simp only [List.append_assoc, List.cons_append, List.nil_append] at hr ⊢
    exact hr
theorem print_loop (l : List S27) (hn : (l.length : Int) ≤ 32) (h : ∀ x, x ∈ l → Rng x) : ∀ i, 0 ≤ i → i ≤ (l.length : Int) → ∀ acc : List UInt8, (acc.length : Int) ≤ 1500 * i →
    Ev (fun k => cask_Print.l0 k l acc i) (ba (acc ++ castT (l.drop i.toNat)), 0) := by
  refine count_up 0 (l.length : Int) _ ?_ ?_
  · intro acc ha
    rw [List.drop_eq_nil_of_le (by omega)]
    exact Ev.step (fun k => cask_Print.l0.eq_2 ..) (evn (by omega) (evr (by simp [castT, tl, printL, ba])))
  · intro i h0 h1 ih acc ha
    have hx := h _ (rd27_mem h0 h1)
    have hl := head_len hx
    have hpt := hx.2.2.2.1
    refine Ev.step (fun k => cask_Print.l0.eq_2 ..) (evp h1 (evp h0 ?_))
    rw [head_eq hx]
    simp only [Option.bind_some]
    rw [app_eq _ _ (by simp; omega)]
    simp only [Option.bind_some]
    have hlen : (tl ((rd_T27 l i).f2.map ptT ++ [cEnd])).length ≤ 1320 := by
      rw [tl_app]
      have a : (tl ((rd_T27 l i).f2.map ptT)).length ≤ 41 * ((rd_T27 l i).f2.map ptT).length := printL_len (m := 40) _ (fun x hx2 => by
        obtain ⟨p, hp, rfl⟩ := List.mem_map.1 hx2
        obtain ⟨j, hj⟩ := List.mem_iff_getElem?.1 hp
        have hjl := (List.getElem?_eq_some_iff.1 hj).1
        have := hx.2.2.2.2 (j : Int) (by omega) (by omega)
        unfold rd_T46 at this
        rw [Int.toNat_natCast, List.getD_eq_getElem?_getD, hj] at this
        exact pt_len this)
      rw [List.length_map] at a
      have b : (tl [cEnd]).length = 4 := rfl
      rw [List.length_append, b]
      omega
    refine print_pts l i hx.2.2.2.2 hpt 0 (by omega) (by omega) _ (by simp; omega) _ ?_
    have q := ih (acc ++ (headT (rd_T27 l i) ++ [10]) ++ tl ((rd_T27 l i).f2.map ptT ++ [cEnd])) (by simp only [List.length_append, List.length_cons, List.length_nil] at hlen ⊢; omega)
    rw [← w64_succ h0 h1 (by omega)] at q
    rw [drop27 h0 h1, show (0 : Int).toNat = 0 from rfl, List.drop_zero]
    rw [w64_succ h0 h1 (by omega)] at q ⊢
    have e : castT (rd_T27 l i :: l.drop (i + 1).toNat) = headT (rd_T27 l i) ++ 10 :: (tl ((rd_T27 l i).f2.map ptT ++ [cEnd]) ++ castT (l.drop (i + 1).toNat)) := by
      unfold castT
      rw [List.flatMap_cons, tl_app]
      show tl (headT _ :: _) ++ _ = _
      rw [tl_cons]
      simp
    rw [e]
    simp only [List.append_assoc, List.cons_append, List.nil_append] at q ⊢
    exact q
theorem ref_word (p : Int) (h : p = 1 ∨ p = 2) : spileref09_word.f p = some (ba (posT p)) := by
  unfold spileref09_word.f posT
  rcases h with rfl | rfl <;> rfl
theorem ref_pts (l : List S27) (i : Int) (f0 : ByteArray) (f1 f3 : Int) (pts : List S46) (h : AllP pts) (hn : (pts.length : Int) ≤ 32) : ∀ j, 0 ≤ j → j ≤ (pts.length : Int) → ∀ acc : List UInt8, (acc.length : Int) + 41 * ((pts.length : Int) - j) ≤ 1000000 →
    ∀ r, Ev (fun k => spileref09_Print.l0 k l (ba (acc ++ tl ((pts.drop j.toNat).map ptT ++ [cEnd]))) (wrap64 (i + 1))) r → Ev (fun k => spileref09_Print.l1 k l (ba acc) i j f0 f1 pts f3) r := by
  refine count_up 0 _ _ ?_ ?_
  · intro acc ha r hr
    rw [List.drop_eq_nil_of_le (by omega)] at hr
    refine Ev.step (fun k => spileref09_Print.l1.eq_2 ..) (evn (by omega) ?_)
    rw [lits.2.2.2.2.2.2, ba_app]
    exact evp (by rw [ba_size]; omega) hr
  · intro j h0 h1 ih acc ha r hr
    have hp := h j h0 h1
    have hl := pt_len hp
    have a := itoa_le (n := (rd_T46 pts j).f0) (m := 10) (by have := hp.1.1; omega) (by have := hp.1.2; omega) (by omega)
    have b := itoa_le (n := (rd_T46 pts j).f1) (m := 10) (by have := hp.2.1; omega) (by have := hp.2.2; omega) (by omega)
    refine Ev.step (fun k => spileref09_Print.l1.eq_2 ..) (evp h1 (evp h0 (evb (evc (fun _ => rfl) (itoa_f (by have := hp.1.1; omega) (by have := hp.1.2; omega))) ?_)))
    rw [lits.2.2.2.1, lits.2.2.2.2.1, lits.2.2.2.2.2.1, ba_app, ba_app]
    refine evp (by rw [ba_size]; omega) (evp (by rw [ba_size]; simp; omega) (evb (evc (fun _ => rfl) (itoa_f (by have := hp.2.1; omega) (by have := hp.2.2; omega))) ?_))
    rw [ba_app, ba_app, ba_app]
    refine evp (by rw [ba_size, ba_size]; simp; omega) (evp (by rw [ba_size]; simp; omega) (evp (by rw [ba_size, ba_size]; simp; omega) ?_))
    have q := ih (acc ++ (ptT (rd_T46 pts j) ++ [10])) (by simp; omega) r
    rw [drop46 h0 h1, List.map_cons, List.cons_append, tl_cons] at hr
    have q2 := q (by simpa only [List.append_assoc, List.cons_append, List.nil_append] using hr)
    rw [← w64_succ h0 h1 (by omega)] at q2
    have e : [97, 116, 32] ++ Lib.itoa (rd_T46 pts j).f0 ++ [32, 114, 97, 100, 105, 117, 115, 32] ++ Lib.itoa (rd_T46 pts j).f1 ++ [10] = ptT (rd_T46 pts j) ++ [10] := by simp [ptT, cAt, cRad]
    rw [e]
    exact q2
theorem ref_print_loop (l : List S27) (hn : (l.length : Int) ≤ 32) (h : ∀ x, x ∈ l → Rng x ∧ (x.f1 = 1 ∨ x.f1 = 2)) : ∀ i, 0 ≤ i → i ≤ (l.length : Int) → ∀ acc : List UInt8, (acc.length : Int) ≤ 1500 * i →
    Ev (fun k => spileref09_Print.l0 k l (ba acc) i) (ba (acc ++ castT (l.drop i.toNat)), 0) := by
  refine count_up 0 (l.length : Int) _ ?_ ?_
  · intro acc ha
    rw [List.drop_eq_nil_of_le (by omega)]
    exact Ev.step (fun k => spileref09_Print.l0.eq_2 ..) (evn (by omega) (evr (by simp [castT, tl, printL, ba])))
  · intro i h0 h1 ih acc ha
    obtain ⟨hx, hpos⟩ := h _ (rd27_mem h0 h1)
    have hl := head_len hx
    have hpt := hx.2.2.2.1
    have hlen : (tl ((rd_T27 l i).f2.map ptT ++ [cEnd])).length ≤ 1320 := by
      rw [tl_app]
      have a : (tl ((rd_T27 l i).f2.map ptT)).length ≤ 41 * ((rd_T27 l i).f2.map ptT).length := printL_len (m := 40) _ (fun x hx2 => by
        obtain ⟨p, hp, rfl⟩ := List.mem_map.1 hx2
        obtain ⟨j, hj⟩ := List.mem_iff_getElem?.1 hp
        have hjl := (List.getElem?_eq_some_iff.1 hj).1
        have := hx.2.2.2.2 (j : Int) (by omega) (by omega)
        unfold rd_T46 at this
        rw [Int.toNat_natCast, List.getD_eq_getElem?_getD, hj] at this
        exact pt_len this)
      rw [List.length_map] at a
      have b : (tl [cEnd]).length = 4 := rfl
      rw [List.length_append, b]
      omega
    have hnm : (nm (rd_T27 l i)).length ≤ 64 := by have := hx.1; unfold nm; rw [size_data]; exact this
    have a := itoa_le (n := (rd_T27 l i).f3) (m := 10) (by have := hx.2.1; omega) (by have := hx.2.2.1; omega) (by omega)
    have b := pos_len (rd_T27 l i).f1
    have e0 : (⟨#[99, 97, 115, 107, 32]⟩ : ByteArray) ++ (rd_T27 l i).f0 = ba ([99, 97, 115, 107, 32] ++ nm (rd_T27 l i)) := by
      rw [lits.1, ← ba_app]
      congr 1
    refine Ev.step (fun k => spileref09_Print.l0.eq_2 ..) (evp h1 (evp h0 (evp (by have := hx.1; omega) ?_)))
    rw [e0, lits.2.1, ba_app]
    refine evp (by rw [ba_size]; simp; omega) (evb (evc (fun _ => rfl) (ref_word _ hpos)) ?_)
    rw [lits.2.2.1, ba_app, ba_app]
    refine evp (by rw [ba_size, ba_size]; simp; omega) (evp (by rw [ba_size]; simp; omega) (evb (evc (fun _ => rfl) (itoa_f (by have := hx.2.1; omega) (by have := hx.2.2.1; omega))) ?_))
    rw [lits.2.2.2.1, ba_app, ba_app, ba_app]
    refine evp (by rw [ba_size, ba_size]; simp; omega) (evp (by rw [ba_size]; simp; omega) (evp (by rw [ba_size, ba_size]; simp; omega) ?_))
    refine ref_pts l i _ _ _ _ hx.2.2.2.2 hpt 0 (by omega) (by omega) _ (by simp; omega) _ ?_
    have q := ih (acc ++ (headT (rd_T27 l i) ++ [10]) ++ tl ((rd_T27 l i).f2.map ptT ++ [cEnd])) (by simp only [List.length_append, List.length_cons, List.length_nil] at hlen ⊢; omega)
    rw [drop27 h0 h1, show (0 : Int).toNat = 0 from rfl, List.drop_zero, w64_succ h0 h1 (by omega)]
    have e : castT (rd_T27 l i :: l.drop (i + 1).toNat) = headT (rd_T27 l i) ++ 10 :: (tl ((rd_T27 l i).f2.map ptT ++ [cEnd]) ++ castT (l.drop (i + 1).toNat)) := by
      unfold castT
      rw [List.flatMap_cons, tl_app]
      show tl (headT _ :: _) ++ _ = _
      rw [tl_cons]
      simp
    rw [e]
    have e2 : [99, 97, 115, 107, 32] ++ nm (rd_T27 l i) ++ [32] ++ posT (rd_T27 l i).f1 ++ [32, 100, 101, 99, 108, 97, 114, 101, 100, 32] ++ Lib.itoa (rd_T27 l i).f3 ++ [10] = headT (rd_T27 l i) ++ [10] := by simp [headT, cCask, cDecl]
    rw [e2]
    simp only [List.append_assoc, List.cons_append, List.nil_append] at q ⊢
    exact q
theorem print_both (l : List S27) (hl : SmL l) : ∃ r, Ev (fun k => cask_Print.f k l) r ∧ Ev (fun k => spileref09_Print.f k l) r ∧ (OKL l → r = (ba (castT l), 0)) ∧ (¬ OKL l → r.2 ≠ 0 ∧ r.1 = ba [] ∧ Ev (fun k => cask_List.f k l) r.2) := by
  obtain ⟨e, e1, e2, e3, _⟩ := list_both l hl
  by_cases hg : OKL l
  · obtain rfl := e3.2 hg
    have p1 := print_loop l hg.1 (fun x hx => (hg.2.1 x hx).rng) 0 (by omega) (by omega) [] (by simp)
    have p2 := ref_print_loop l hg.1 (fun x hx => ⟨(hg.2.1 x hx).rng, (hg.2.1 x hx).2.1⟩) 0 (by omega) (by omega) [] (by simp)
    rw [show (0 : Int).toNat = 0 from rfl, List.drop_zero, List.nil_append] at p1 p2
    exact ⟨_, evb e1 (evp rfl p1), evb e2 (evp rfl p2), fun _ => rfl, fun h => absurd hg h⟩
  · have he : ¬ e = 0 := fun q => hg (e3.1 q)
    exact ⟨(ba [], e), evb e1 (evn he (Ev.now _)), evb e2 (evn he (Ev.now _)), fun h => absurd h hg, fun _ => ⟨he, rfl, e1⟩⟩
end Go.Proofs.YtnhmlneebnkjcaaDoor.PL
