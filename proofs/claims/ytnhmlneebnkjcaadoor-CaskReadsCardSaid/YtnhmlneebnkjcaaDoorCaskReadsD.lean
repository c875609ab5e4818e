/-
A part of what these laws rest on: contracts of the functions that they reach, and plain lemmas.
-/
import Derived.Test.YtnhmlneebnkjcaaDoorCaskReadsC
set_option linter.unusedVariables false
set_option linter.unusedSimpArgs false
namespace Go.Proofs.YtnhmlneebnkjcaaDoor.Pr
open Go.RowKit Go.Proofs.YtnhmlneebnkjcaaDoorW.PrintWords Go.Proofs.YtnhmlneebnkjcaaDoorW.PrintLast Go.Proofs.YtnhmlneebnkjcaaDoorW.PrintMore Go.Proofs.YtnhmlneebnkjcaaDoor.X
attribute [local go_sem] max2_int min2_int max_two min_two max_three min_three max_four min_four   -- for this text's walks alone
set_option linter.unusedVariables false
set_option linter.unusedSimpArgs false
def spileref09_Same.l0 : Nat → List (S27) → List (S27) → Int → Option (Bool)
 | 0, _, _, _ => none
 | k + 1, x0, x1, x5 => if x5 < (x0.length : Int) then (if 0 ≤ x5 then (if x5 < (x1.length : Int) then ((spileref09_SameCask.f k ((rd_T27 x0 x5).f0) ((rd_T27 x0 x5).f1) ((rd_T27 x0 x5).f2) ((rd_T27 x0 x5).f3) ((rd_T27 x1 x5).f0) ((rd_T27 x1 x5).f1) ((rd_T27 x1 x5).f2) ((rd_T27 x1 x5).f3)).bind fun t146 => (if t146 = true then (spileref09_Same.l0 k x0 x1 (wrap64 (x5 + 1))) else (some false))) else (none)) else (none)) else (some true)
def spileref09_Same.f (k : Nat) (l0 : List (S27)) (l1 : List (S27)) : Option (Bool) := if (l0.length : Int) = (l1.length : Int) then (spileref09_Same.l0 k l0 l1 0) else (some false)
def spileref09_Same.T6 : Bool × List (List Nat × List Nat) := (true, [([], []), ([], []), ([0, 1], [0, 1]), ([2], [2]), ([], []), ([], []), ([4, 5], [4, 5]), ([6], [6]), ([3, 7], [3, 7]), ([8], [8])])
def spileref09_Same.B6 : List Nat := [0, 0, 3, 7, 0, 0, 48, 112, 255, 511]
theorem spileref09_Same.tab6 : rtab .any (opsOf Tryd.f26 6) = spileref09_Same.T6 := by kernel_rfl
theorem spileref09_Same.bits6 : waitsOk spileref09_Same.T6.2 spileref09_Same.B6 = true := by kernel_rfl
set_option maxHeartbeats 8000000 in
set_option maxRecDepth 100000 in
theorem spileref09_Same.calls (k : Nat) (A0 : Option Addr) (c0 : Nat) (l0 : List (S27)) (A1 : Option Addr) (c1 : Nat) (l1 : List (S27)) (r : Bool) (w : World) (hr0 : Kd.C k27 w A0 l0.length l0) (hc0 : l0.length ≤ c0) (hr1 : Kd.C k27 w A1 l1.length l1) (hc1 : l1.length ≤ c1) (h : spileref09_Same.f k l0 l1 = some r) :
  Calls Tryd.prog 26 #[.slice A0 l0.length c0, .slice A1 l1.length c1] w fun e w' => e = .returned (.bool r) ∧ Below w.heap.size w w' := by
 have hu27 := Tryd.underlying27; have HR0 := Aside0.mk hr0; have HC0 := Aside0.mk hc0; clear hr0 hc0; have HR1 := Aside0.mk hr1; have HC1 := Aside0.mk hc1; clear hr1 hc1; have HB := Aside0.mk (Below.refl w.heap.size w); have H : (if (l0.length : Int) = (l1.length : Int) then (spileref09_Same.l0 k l0 l1 0) else (some false)) = some r := h; clear h; by_cases c3 : (l0.length : Int) = (l1.length : Int)
 ·
  rw [if_pos c3] at H; have c3b0 : ((l0.length : Int) == (l1.length : Int)) = true := beq_iff_eq.mpr c3; have c3b1 : ((l0.length : Int) != (l1.length : Int)) = false := bne_eq_false_iff_eq.mpr c3; have c3b2 : (l0.length == l1.length) = true := by first | simpa using c3 | (simp at c3 ⊢; omega)
  clear c3; have H' := Aside0.mk H; clear H; go_enter Tryd.func26, Tryd.ntmps26
  go_wp2; go_loopg [5] k (fun kq v5 w' => ∃ (x5_1 : Int), v5 = .int .i64 x5_1 ∧ Aside0 (spileref09_Same.l0 kq l0 l1 x5_1 = some r) ∧ Aside0 (kq ≤ k) ∧ Aside0 (Below w.heap.size w w'))
  case atStart => exact ⟨(0), (by first | rfl | (simp; done) | (simp [*]; done)), H', ⟨Nat.le_refl _⟩, ⟨by repeat (first | (with_reducible first | exact HB.out | apply below_alloc | apply pw_below_drewN | apply below_drew1) | exact HB.out)⟩⟩
  case round =>
   clear H'; try clear c1
   try clear c2
   try clear p2
   try clear c3
   try clear c3b0
   try clear c3b1
   try clear c3b2
   obtain ⟨x5_1, rfl, HA, HK1, HB⟩ := hrel
   cases gk with
   | zero => exact absurd HA.out (by simp [spileref09_Same.l0])
   | succ k1 =>
    have H := HA.out; clear HA; simp only [spileref09_Same.l0] at H; by_cases c4 : x5_1 < (l0.length : Int)
    ·
     rw [if_pos c4] at H; have c4b0 : decide (x5_1 < (l0.length : Int)) = true := decide_eq_true c4; clear c4; by_cases c5 : 0 ≤ x5_1
     ·
      rw [if_pos c5] at H; have c5b0 : decide (0 ≤ x5_1) = true := decide_eq_true c5; clear c5; by_cases c6 : x5_1 < (l1.length : Int)
      ·
       rw [if_pos c6] at H; have c6b0 : decide (x5_1 < (l1.length : Int)) = true := decide_eq_true c6; clear c6; replace H := Option.bind_eq_some_iff.mp H; obtain ⟨t146, A70, H⟩ := H; replace H : (if t146 = true then (spileref09_Same.l0 k1 l0 l1 (wrap64 (x5_1 + 1))) else (some false)) = some r := H; have A7 := Aside0.mk A70; clear A70; by_cases c8 : t146 = true
       ·
        subst c8; have H1 : (spileref09_Same.l0 k1 l0 l1 (wrap64 (x5_1 + 1))) = some r := by rw [if_pos rfl] at H; exact H
        clear H; have H := H1; clear H1; have H' := Aside0.mk H; clear H; try go_wp2
        have n0_ := Aside0.mk (below_drew1 HB.out); clear HB; have HB := n0_; clear n0_; have p144 : 0 ≤ (x5_1 : Int) := of_decide_eq_true (by first | (with_reducible assumption) | assumption); have q144 : x5_1 < (l0.length : Int) := of_decide_eq_true (by first | (with_reducible assumption) | assumption); obtain ⟨ad144, A144_2, c144_2, e144, hx144_0, hx144_1, hx144_2, hx144_3, hl144_2, hi144_2⟩ := at_T27 HR0.out x5_1 p144 q144; have hw144_3 := hx144_3; have hw144_2 := hx144_2; have hw144_1 := hx144_1; have hw144_0 := hx144_0; cases e144; replace hx144_0 := (HB.out.cell (World.block_lt_of_cell? w _ hx144_0)).trans hx144_0; replace hx144_1 := (HB.out.cell (World.block_lt_of_cell? w _ hx144_1)).trans hx144_1; replace hx144_2 := (HB.out.cell (World.block_lt_of_cell? w _ hx144_2)).trans hx144_2; replace hx144_3 := (HB.out.cell (World.block_lt_of_cell? w _ hx144_3)).trans hx144_3; have HR144_2 := Aside0.mk hi144_2; have HC144_2 := Aside0.mk hl144_2; clear hi144_2 hl144_2; replace p144 := eq_true p144; replace q144 := eq_true q144; have p145 : 0 ≤ (x5_1 : Int) := of_decide_eq_true (by first | (with_reducible assumption) | assumption); have q145 : x5_1 < (l1.length : Int) := of_decide_eq_true (by first | (with_reducible assumption) | assumption); obtain ⟨ad145, A145_2, c145_2, e145, hx145_0, hx145_1, hx145_2, hx145_3, hl145_2, hi145_2⟩ := at_T27 HR1.out x5_1 p145 q145; have hw145_3 := hx145_3; have hw145_2 := hx145_2; have hw145_1 := hx145_1; have hw145_0 := hx145_0; cases e145; replace hx145_0 := (HB.out.cell (World.block_lt_of_cell? w _ hx145_0)).trans hx145_0; replace hx145_1 := (HB.out.cell (World.block_lt_of_cell? w _ hx145_1)).trans hx145_1; replace hx145_2 := (HB.out.cell (World.block_lt_of_cell? w _ hx145_2)).trans hx145_2; replace hx145_3 := (HB.out.cell (World.block_lt_of_cell? w _ hx145_3)).trans hx145_3; have HR145_2 := Aside0.mk hi145_2; have HC145_2 := Aside0.mk hl145_2; clear hi145_2 hl145_2; replace p145 := eq_true p145; replace q145 := eq_true q145; refine start_ (n := 10) (S := fun w' => w'.cell? (ad144.add ((x5_1).toNat * 4)) = some (.string ((rd_T27 l0 x5_1).f0)) ∧ w'.cell? ⟨(ad144.add ((x5_1).toNat * 4)).block, (ad144.add ((x5_1).toNat * 4)).off + 1, none⟩ = some (.int .i64 ((rd_T27 l0 x5_1).f1)) ∧ w'.cell? ⟨(ad144.add ((x5_1).toNat * 4)).block, (ad144.add ((x5_1).toNat * 4)).off + 2, none⟩ = some (.slice A144_2 ((rd_T27 l0 x5_1).f2).length c144_2) ∧ w'.cell? ⟨(ad144.add ((x5_1).toNat * 4)).block, (ad144.add ((x5_1).toNat * 4)).off + 3, none⟩ = some (.int .i64 ((rd_T27 l0 x5_1).f3)) ∧ w'.cell? (ad145.add ((x5_1).toNat * 4)) = some (.string ((rd_T27 l1 x5_1).f0)) ∧ w'.cell? ⟨(ad145.add ((x5_1).toNat * 4)).block, (ad145.add ((x5_1).toNat * 4)).off + 1, none⟩ = some (.int .i64 ((rd_T27 l1 x5_1).f1)) ∧ w'.cell? ⟨(ad145.add ((x5_1).toNat * 4)).block, (ad145.add ((x5_1).toNat * 4)).off + 2, none⟩ = some (.slice A145_2 ((rd_T27 l1 x5_1).f2).length c145_2) ∧ w'.cell? ⟨(ad145.add ((x5_1).toNat * 4)).block, (ad145.add ((x5_1).toNat * 4)).off + 3, none⟩ = some (.int .i64 ((rd_T27 l1 x5_1).f3))) (ds := []) #[false, false, false, false, false, false, false, false, false, false] (by kernel_rfl) rfl rfl ⟨((HB.out.cell (World.block_lt_of_cell? w _ hw144_0)).trans hw144_0), ((HB.out.cell (World.block_lt_of_cell? w _ hw144_1)).trans hw144_1), ((HB.out.cell (World.block_lt_of_cell? w _ hw144_2)).trans hw144_2), ((HB.out.cell (World.block_lt_of_cell? w _ hw144_3)).trans hw144_3), ((HB.out.cell (World.block_lt_of_cell? w _ hw145_0)).trans hw145_0), ((HB.out.cell (World.block_lt_of_cell? w _ hw145_1)).trans hw145_1), ((HB.out.cell (World.block_lt_of_cell? w _ hw145_2)).trans hw145_2), ((HB.out.cell (World.block_lt_of_cell? w _ hw145_3)).trans hw145_3)⟩ (fun hHeld => ?_); refine with_tabW spileref09_Same.tab6 spileref09_Same.bits6 (fun HT_ HW_ => ?_)
        generalize wr.drew = w9 at HB HR144_2 HR145_2 hx144_0 hx144_1 hx144_2 hx144_3 hx145_0 hx145_1 hx145_2 hx145_3 hHeld ⊢; refine pure_ (i := 0) (N := some 17) (v := ?_) (a' := ?_) #[true, false, false, false, false, false, false, false, false, false] rfl rfl (any_of HT_.out (by kernel_rfl)) (fun _ _ _ h => h) (Or.inl ⟨by rfl, ?_⟩) ?_ ?_; rotate_left
        · intro w'; go_simp; with_reducible rfl
        rotate_left
        · simp only [Act.put, sIA, sC0, sCS, i64_w, i32_w]; rfl
        refine pure_ (i := 1) (N := some 18) (v := ?_) (a' := ?_) #[true, true, false, false, false, false, false, false, false, false] rfl rfl (any_of HT_.out (by kernel_rfl)) (fun _ _ _ h => h) (Or.inl ⟨by rfl, ?_⟩) ?_ ?_; rotate_left
        · intro w'; go_simp; with_reducible rfl
        rotate_left
        · simp only [Act.put, sIA, sC0, sCS, i64_w, i32_w]; rfl
        refine pure_ (i := 2) (N := some 19) (v := ?_) (a' := ?_) #[true, true, true, false, false, false, false, false, false, false] rfl rfl (any_of HT_.out (by kernel_rfl)) (fun _ _ _ h => h) (Or.inl ⟨by rfl, ?_⟩) ?_ ?_; rotate_left
        · intro w'; go_simp; with_reducible rfl
        rotate_left
        · simp only [Act.put, sIA, sC0, sCS, i64_w, i32_w]; rfl
        refine pure_ (i := 4) (N := some 21) (v := ?_) (a' := ?_) #[true, true, true, false, true, false, false, false, false, false] rfl rfl (any_of HT_.out (by kernel_rfl)) (fun _ _ _ h => h) (Or.inl ⟨by rfl, ?_⟩) ?_ ?_; rotate_left
        · intro w'; go_simp; with_reducible rfl
        rotate_left
        · simp only [Act.put, sIA, sC0, sCS, i64_w, i32_w]; rfl
        refine pure_ (i := 5) (N := some 22) (v := ?_) (a' := ?_) #[true, true, true, false, true, true, false, false, false, false] rfl rfl (any_of HT_.out (by kernel_rfl)) (fun _ _ _ h => h) (Or.inl ⟨by rfl, ?_⟩) ?_ ?_; rotate_left
        · intro w'; go_simp; with_reducible rfl
        rotate_left
        · simp only [Act.put, sIA, sC0, sCS, i64_w, i32_w]; rfl
        refine pure_ (i := 6) (N := some 23) (v := ?_) (a' := ?_) #[true, true, true, false, true, true, true, false, false, false] rfl rfl (any_of HT_.out (by kernel_rfl)) (fun _ _ _ h => h) (Or.inl ⟨by rfl, ?_⟩) ?_ ?_; rotate_left
        · intro w'; go_simp; with_reducible rfl
        rotate_left
        · simp only [Act.put, sIA, sC0, sCS, i64_w, i32_w]; rfl
        refine take_ (i := 3) (N := some 20) (v := ?_) (a' := ?_) #[true, true, true, true, true, true, true, false, false, false] rfl rfl (take_ofW HT_.out HW_.out (by kernel_rfl)) (fun _ _ _ h => h) (Or.inl ⟨by rfl, ?_⟩) hHeld ?_ ?_; rotate_left
        · rintro w' ⟨s0, s1, s2, s3, s4, s5, s6, s7⟩; go_simp; with_reducible rfl
        rotate_left
        · simp only [Act.put, sIA, sC0, sCS, i64_w, i32_w]; rfl
        refine take_ (i := 7) (N := some 24) (v := ?_) (a' := ?_) #[true, true, true, true, true, true, true, true, false, false] rfl rfl (take_ofW HT_.out HW_.out (by kernel_rfl)) (fun _ _ _ h => h) (Or.inl ⟨by rfl, ?_⟩) hHeld ?_ ?_; rotate_left
        · rintro w' ⟨s0, s1, s2, s3, s4, s5, s6, s7⟩; go_simp; with_reducible rfl
        rotate_left
        · simp only [Act.put, sIA, sC0, sCS, i64_w, i32_w]; rfl
        refine one_ (i := 8) (N := some 25) #[true, true, true, true, true, true, true, true, true, false] rfl rfl (one_of HT_.out (by kernel_rfl)) (by decide) (fun K hK => ?_); refine goes_ Tryd.func15 (by kernel_rfl) rfl #[.agg #[.string ((rd_T27 l0 x5_1).f0), .int .i64 ((rd_T27 l0 x5_1).f1), .slice A144_2 ((rd_T27 l0 x5_1).f2).length c144_2, .int .i64 ((rd_T27 l0 x5_1).f3)], .agg #[.string ((rd_T27 l1 x5_1).f0), .int .i64 ((rd_T27 l1 x5_1).f1), .slice A145_2 ((rd_T27 l1 x5_1).f2).length c145_2, .int .i64 ((rd_T27 l1 x5_1).f3)]] (by rfl) rfl rfl (by (try simp only [List.map_toArray, List.map_cons, List.map_nil]); first | done | rfl | (simp only [List.length_drop, List.length_take]; rfl)) ?_; with_reducible refine (spileref09_SameCask.calls k1 ((rd_T27 l0 x5_1).f0) ((rd_T27 l0 x5_1).f1) _ _ ((rd_T27 l0 x5_1).f2) ((rd_T27 l0 x5_1).f3) ((rd_T27 l1 x5_1).f0) ((rd_T27 l1 x5_1).f1) _ _ ((rd_T27 l1 x5_1).f2) ((rd_T27 l1 x5_1).f3) true _ ?side1 ?side2 ?side3 ?side4 A7.out).mono ?_
        (case side1 => repeat (first | exact (Kd.C_below HR144_2.out HB.out) | (with_reducible refine Kd.C_alloc ?_ _) | (with_reducible refine Kd.C_drewN ?_ _) | (with_reducible refine Kd.C_drew ?_)))
        (case side2 => exact HC144_2.out)
        (case side3 => repeat (first | exact (Kd.C_below HR145_2.out HB.out) | (with_reducible refine Kd.C_alloc ?_ _) | (with_reducible refine Kd.C_drewN ?_ _) | (with_reducible refine Kd.C_drew ?_)))
        (case side4 => exact HC145_2.out)
        rintro e w10 ⟨rfl, hb⟩; refine ⟨_, rfl, ?_⟩; have n0_ := Aside0.mk (below_step (by repeat (first | (with_reducible first | exact HB.out | apply below_alloc | apply pw_below_drewN | apply below_drew1) | exact HB.out)) hb); clear HB; have HB := n0_; clear n0_; (try clear hb)
        (try clear hb2)
        (try clear hk)
        (try clear hi)
        refine hK.out _ _ ⟨((HB.out.cell (World.block_lt_of_cell? w _ hw144_0)).trans hw144_0), ((HB.out.cell (World.block_lt_of_cell? w _ hw144_1)).trans hw144_1), ((HB.out.cell (World.block_lt_of_cell? w _ hw144_2)).trans hw144_2), ((HB.out.cell (World.block_lt_of_cell? w _ hw144_3)).trans hw144_3), ((HB.out.cell (World.block_lt_of_cell? w _ hw145_0)).trans hw145_0), ((HB.out.cell (World.block_lt_of_cell? w _ hw145_1)).trans hw145_1), ((HB.out.cell (World.block_lt_of_cell? w _ hw145_2)).trans hw145_2), ((HB.out.cell (World.block_lt_of_cell? w _ hw145_3)).trans hw145_3)⟩ (fun hHeld => ?_); clear hK K; refine norm_ (a' := ?_) ?_ ?_; rotate_left
        ·
         show Act.put _ (some 25) _ = _
         simp only [Act.put, sIA, sC0, sCS, i64_w, i32_w]; rfl
        refine pure_ (i := 9) (N := some 26) (v := ?_) (a' := ?_) #[true, true, true, true, true, true, true, true, true, true] rfl rfl (any_of HT_.out (by kernel_rfl)) (fun _ _ _ h => h) (Or.inl ⟨by rfl, ?_⟩) ?_ ?_; rotate_left
        · intro w'; go_simp; with_reducible rfl
        rotate_left
        · simp only [Act.put, sIA, sC0, sCS, i64_w, i32_w]; rfl
        refine done_ (done_of HT_.out (by kernel_rfl)) ?_; try go_wp2
        go_roundg k1
        case measure => have := HK1.out; omega
        case rel => exact ⟨(wrap64 (x5_1 + 1)), (by first | rfl | (simp; done) | (simp [*]; done)), H', ⟨by have := HK1.out; omega⟩, ⟨by repeat (first | (with_reducible first | exact HB.out | apply below_alloc | apply pw_below_drewN | apply below_drew1) | exact HB.out)⟩⟩
       ·
        replace c8 := Bool.eq_false_iff.mpr c8; subst c8; have H1 : (some false) = some r := by rw [if_neg (show ¬ (false = true) by decide)] at H; exact H
        clear H; have H := H1; clear H1; obtain rfl := Option.some.inj H; try go_wp2
        have n0_ := Aside0.mk (below_drew1 HB.out); clear HB; have HB := n0_; clear n0_; have p144 : 0 ≤ (x5_1 : Int) := of_decide_eq_true (by first | (with_reducible assumption) | assumption); have q144 : x5_1 < (l0.length : Int) := of_decide_eq_true (by first | (with_reducible assumption) | assumption); obtain ⟨ad144, A144_2, c144_2, e144, hx144_0, hx144_1, hx144_2, hx144_3, hl144_2, hi144_2⟩ := at_T27 HR0.out x5_1 p144 q144; have hw144_3 := hx144_3; have hw144_2 := hx144_2; have hw144_1 := hx144_1; have hw144_0 := hx144_0; cases e144; replace hx144_0 := (HB.out.cell (World.block_lt_of_cell? w _ hx144_0)).trans hx144_0; replace hx144_1 := (HB.out.cell (World.block_lt_of_cell? w _ hx144_1)).trans hx144_1; replace hx144_2 := (HB.out.cell (World.block_lt_of_cell? w _ hx144_2)).trans hx144_2; replace hx144_3 := (HB.out.cell (World.block_lt_of_cell? w _ hx144_3)).trans hx144_3; have HR144_2 := Aside0.mk hi144_2; have HC144_2 := Aside0.mk hl144_2; clear hi144_2 hl144_2; replace p144 := eq_true p144; replace q144 := eq_true q144; have p145 : 0 ≤ (x5_1 : Int) := of_decide_eq_true (by first | (with_reducible assumption) | assumption); have q145 : x5_1 < (l1.length : Int) := of_decide_eq_true (by first | (with_reducible assumption) | assumption); obtain ⟨ad145, A145_2, c145_2, e145, hx145_0, hx145_1, hx145_2, hx145_3, hl145_2, hi145_2⟩ := at_T27 HR1.out x5_1 p145 q145; have hw145_3 := hx145_3; have hw145_2 := hx145_2; have hw145_1 := hx145_1; have hw145_0 := hx145_0; cases e145; replace hx145_0 := (HB.out.cell (World.block_lt_of_cell? w _ hx145_0)).trans hx145_0; replace hx145_1 := (HB.out.cell (World.block_lt_of_cell? w _ hx145_1)).trans hx145_1; replace hx145_2 := (HB.out.cell (World.block_lt_of_cell? w _ hx145_2)).trans hx145_2; replace hx145_3 := (HB.out.cell (World.block_lt_of_cell? w _ hx145_3)).trans hx145_3; have HR145_2 := Aside0.mk hi145_2; have HC145_2 := Aside0.mk hl145_2; clear hi145_2 hl145_2; replace p145 := eq_true p145; replace q145 := eq_true q145; refine start_ (n := 10) (S := fun w' => w'.cell? (ad144.add ((x5_1).toNat * 4)) = some (.string ((rd_T27 l0 x5_1).f0)) ∧ w'.cell? ⟨(ad144.add ((x5_1).toNat * 4)).block, (ad144.add ((x5_1).toNat * 4)).off + 1, none⟩ = some (.int .i64 ((rd_T27 l0 x5_1).f1)) ∧ w'.cell? ⟨(ad144.add ((x5_1).toNat * 4)).block, (ad144.add ((x5_1).toNat * 4)).off + 2, none⟩ = some (.slice A144_2 ((rd_T27 l0 x5_1).f2).length c144_2) ∧ w'.cell? ⟨(ad144.add ((x5_1).toNat * 4)).block, (ad144.add ((x5_1).toNat * 4)).off + 3, none⟩ = some (.int .i64 ((rd_T27 l0 x5_1).f3)) ∧ w'.cell? (ad145.add ((x5_1).toNat * 4)) = some (.string ((rd_T27 l1 x5_1).f0)) ∧ w'.cell? ⟨(ad145.add ((x5_1).toNat * 4)).block, (ad145.add ((x5_1).toNat * 4)).off + 1, none⟩ = some (.int .i64 ((rd_T27 l1 x5_1).f1)) ∧ w'.cell? ⟨(ad145.add ((x5_1).toNat * 4)).block, (ad145.add ((x5_1).toNat * 4)).off + 2, none⟩ = some (.slice A145_2 ((rd_T27 l1 x5_1).f2).length c145_2) ∧ w'.cell? ⟨(ad145.add ((x5_1).toNat * 4)).block, (ad145.add ((x5_1).toNat * 4)).off + 3, none⟩ = some (.int .i64 ((rd_T27 l1 x5_1).f3))) (ds := []) #[false, false, false, false, false, false, false, false, false, false] (by kernel_rfl) rfl rfl ⟨((HB.out.cell (World.block_lt_of_cell? w _ hw144_0)).trans hw144_0), ((HB.out.cell (World.block_lt_of_cell? w _ hw144_1)).trans hw144_1), ((HB.out.cell (World.block_lt_of_cell? w _ hw144_2)).trans hw144_2), ((HB.out.cell (World.block_lt_of_cell? w _ hw144_3)).trans hw144_3), ((HB.out.cell (World.block_lt_of_cell? w _ hw145_0)).trans hw145_0), ((HB.out.cell (World.block_lt_of_cell? w _ hw145_1)).trans hw145_1), ((HB.out.cell (World.block_lt_of_cell? w _ hw145_2)).trans hw145_2), ((HB.out.cell (World.block_lt_of_cell? w _ hw145_3)).trans hw145_3)⟩ (fun hHeld => ?_); refine with_tabW spileref09_Same.tab6 spileref09_Same.bits6 (fun HT_ HW_ => ?_)
        generalize wr.drew = w11 at HB HR144_2 HR145_2 hx144_0 hx144_1 hx144_2 hx144_3 hx145_0 hx145_1 hx145_2 hx145_3 hHeld ⊢; refine pure_ (i := 0) (N := some 17) (v := ?_) (a' := ?_) #[true, false, false, false, false, false, false, false, false, false] rfl rfl (any_of HT_.out (by kernel_rfl)) (fun _ _ _ h => h) (Or.inl ⟨by rfl, ?_⟩) ?_ ?_; rotate_left
        · intro w'; go_simp; with_reducible rfl
        rotate_left
        · simp only [Act.put, sIA, sC0, sCS, i64_w, i32_w]; rfl
        refine pure_ (i := 1) (N := some 18) (v := ?_) (a' := ?_) #[true, true, false, false, false, false, false, false, false, false] rfl rfl (any_of HT_.out (by kernel_rfl)) (fun _ _ _ h => h) (Or.inl ⟨by rfl, ?_⟩) ?_ ?_; rotate_left
        · intro w'; go_simp; with_reducible rfl
        rotate_left
        · simp only [Act.put, sIA, sC0, sCS, i64_w, i32_w]; rfl
        refine pure_ (i := 2) (N := some 19) (v := ?_) (a' := ?_) #[true, true, true, false, false, false, false, false, false, false] rfl rfl (any_of HT_.out (by kernel_rfl)) (fun _ _ _ h => h) (Or.inl ⟨by rfl, ?_⟩) ?_ ?_; rotate_left
        · intro w'; go_simp; with_reducible rfl
        rotate_left
        · simp only [Act.put, sIA, sC0, sCS, i64_w, i32_w]; rfl
        refine pure_ (i := 4) (N := some 21) (v := ?_) (a' := ?_) #[true, true, true, false, true, false, false, false, false, false] rfl rfl (any_of HT_.out (by kernel_rfl)) (fun _ _ _ h => h) (Or.inl ⟨by rfl, ?_⟩) ?_ ?_; rotate_left
        · intro w'; go_simp; with_reducible rfl
        rotate_left
        · simp only [Act.put, sIA, sC0, sCS, i64_w, i32_w]; rfl
        refine pure_ (i := 5) (N := some 22) (v := ?_) (a' := ?_) #[true, true, true, false, true, true, false, false, false, false] rfl rfl (any_of HT_.out (by kernel_rfl)) (fun _ _ _ h => h) (Or.inl ⟨by rfl, ?_⟩) ?_ ?_; rotate_left
        · intro w'; go_simp; with_reducible rfl
        rotate_left
        · simp only [Act.put, sIA, sC0, sCS, i64_w, i32_w]; rfl
        refine pure_ (i := 6) (N := some 23) (v := ?_) (a' := ?_) #[true, true, true, false, true, true, true, false, false, false] rfl rfl (any_of HT_.out (by kernel_rfl)) (fun _ _ _ h => h) (Or.inl ⟨by rfl, ?_⟩) ?_ ?_; rotate_left
        · intro w'; go_simp; with_reducible rfl
        rotate_left
        · simp only [Act.put, sIA, sC0, sCS, i64_w, i32_w]; rfl
        refine take_ (i := 3) (N := some 20) (v := ?_) (a' := ?_) #[true, true, true, true, true, true, true, false, false, false] rfl rfl (take_ofW HT_.out HW_.out (by kernel_rfl)) (fun _ _ _ h => h) (Or.inl ⟨by rfl, ?_⟩) hHeld ?_ ?_; rotate_left
        · rintro w' ⟨s0, s1, s2, s3, s4, s5, s6, s7⟩; go_simp; with_reducible rfl
        rotate_left
        · simp only [Act.put, sIA, sC0, sCS, i64_w, i32_w]; rfl
        refine take_ (i := 7) (N := some 24) (v := ?_) (a' := ?_) #[true, true, true, true, true, true, true, true, false, false] rfl rfl (take_ofW HT_.out HW_.out (by kernel_rfl)) (fun _ _ _ h => h) (Or.inl ⟨by rfl, ?_⟩) hHeld ?_ ?_; rotate_left
        · rintro w' ⟨s0, s1, s2, s3, s4, s5, s6, s7⟩; go_simp; with_reducible rfl
        rotate_left
        · simp only [Act.put, sIA, sC0, sCS, i64_w, i32_w]; rfl
        refine one_ (i := 8) (N := some 25) #[true, true, true, true, true, true, true, true, true, false] rfl rfl (one_of HT_.out (by kernel_rfl)) (by decide) (fun K hK => ?_); refine goes_ Tryd.func15 (by kernel_rfl) rfl #[.agg #[.string ((rd_T27 l0 x5_1).f0), .int .i64 ((rd_T27 l0 x5_1).f1), .slice A144_2 ((rd_T27 l0 x5_1).f2).length c144_2, .int .i64 ((rd_T27 l0 x5_1).f3)], .agg #[.string ((rd_T27 l1 x5_1).f0), .int .i64 ((rd_T27 l1 x5_1).f1), .slice A145_2 ((rd_T27 l1 x5_1).f2).length c145_2, .int .i64 ((rd_T27 l1 x5_1).f3)]] (by rfl) rfl rfl (by (try simp only [List.map_toArray, List.map_cons, List.map_nil]); first | done | rfl | (simp only [List.length_drop, List.length_take]; rfl)) ?_; with_reducible refine (spileref09_SameCask.calls k1 ((rd_T27 l0 x5_1).f0) ((rd_T27 l0 x5_1).f1) _ _ ((rd_T27 l0 x5_1).f2) ((rd_T27 l0 x5_1).f3) ((rd_T27 l1 x5_1).f0) ((rd_T27 l1 x5_1).f1) _ _ ((rd_T27 l1 x5_1).f2) ((rd_T27 l1 x5_1).f3) false _ ?side1 ?side2 ?side3 ?side4 A7.out).mono ?_
        (case side1 => repeat (first | exact (Kd.C_below HR144_2.out HB.out) | (with_reducible refine Kd.C_alloc ?_ _) | (with_reducible refine Kd.C_drewN ?_ _) | (with_reducible refine Kd.C_drew ?_)))
        (case side2 => exact HC144_2.out)
        (case side3 => repeat (first | exact (Kd.C_below HR145_2.out HB.out) | (with_reducible refine Kd.C_alloc ?_ _) | (with_reducible refine Kd.C_drewN ?_ _) | (with_reducible refine Kd.C_drew ?_)))
        (case side4 => exact HC145_2.out)
        rintro e w12 ⟨rfl, hb⟩; refine ⟨_, rfl, ?_⟩; have n0_ := Aside0.mk (below_step (by repeat (first | (with_reducible first | exact HB.out | apply below_alloc | apply pw_below_drewN | apply below_drew1) | exact HB.out)) hb); clear HB; have HB := n0_; clear n0_; (try clear hb)
        (try clear hb2)
        (try clear hk)
        (try clear hi)
        refine hK.out _ _ ⟨((HB.out.cell (World.block_lt_of_cell? w _ hw144_0)).trans hw144_0), ((HB.out.cell (World.block_lt_of_cell? w _ hw144_1)).trans hw144_1), ((HB.out.cell (World.block_lt_of_cell? w _ hw144_2)).trans hw144_2), ((HB.out.cell (World.block_lt_of_cell? w _ hw144_3)).trans hw144_3), ((HB.out.cell (World.block_lt_of_cell? w _ hw145_0)).trans hw145_0), ((HB.out.cell (World.block_lt_of_cell? w _ hw145_1)).trans hw145_1), ((HB.out.cell (World.block_lt_of_cell? w _ hw145_2)).trans hw145_2), ((HB.out.cell (World.block_lt_of_cell? w _ hw145_3)).trans hw145_3)⟩ (fun hHeld => ?_); clear hK K; refine norm_ (a' := ?_) ?_ ?_; rotate_left
        ·
         show Act.put _ (some 25) _ = _
         simp only [Act.put, sIA, sC0, sCS, i64_w, i32_w]; rfl
        refine pure_ (i := 9) (N := some 26) (v := ?_) (a' := ?_) #[true, true, true, true, true, true, true, true, true, true] rfl rfl (any_of HT_.out (by kernel_rfl)) (fun _ _ _ h => h) (Or.inl ⟨by rfl, ?_⟩) ?_ ?_; rotate_left
        · intro w'; go_simp; with_reducible rfl
        rotate_left
        · simp only [Act.put, sIA, sC0, sCS, i64_w, i32_w]; rfl
        refine done_ (done_of HT_.out (by kernel_rfl)) ?_; try go_wp2
        go_ret
        exact ⟨by first | rfl | (simp [errW_none, errW_some] <;> rfl) | (simp [*, errW_none, errW_some] <;> rfl), by repeat (first | (with_reducible first | exact HB.out | apply below_alloc | apply pw_below_drewN | apply below_drew1) | exact HB.out)⟩
      · rw [if_neg c6] at H; exact absurd H (by simp)
     · rw [if_neg c5] at H; exact absurd H (by simp)
    ·
     rw [if_neg c4] at H; have c4b0 : decide (x5_1 < (l0.length : Int)) = false := decide_eq_false c4; clear c4; obtain rfl := Option.some.inj H; go_wp2; go_ret
     exact ⟨by first | rfl | (simp [errW_none, errW_some] <;> rfl) | (simp [*, errW_none, errW_some] <;> rfl), by repeat (first | (with_reducible first | exact HB.out | apply below_alloc | apply pw_below_drewN | apply below_drew1) | exact HB.out)⟩
 ·
  rw [if_neg c3] at H; have c3b0 : ((l0.length : Int) == (l1.length : Int)) = false := beq_eq_false_iff_ne.mpr c3; have c3b1 : ((l0.length : Int) != (l1.length : Int)) = true := bne_iff_ne.mpr c3; have c3b2 : (l0.length == l1.length) = false := by first | simpa using c3 | (simp at c3 ⊢; omega)
  obtain rfl := Option.some.inj H; go_enter Tryd.func26, Tryd.ntmps26
  go_wp2; go_ret
  exact ⟨by first | rfl | (simp [errW_none, errW_some] <;> rfl) | (simp [*, errW_none, errW_some] <;> rfl), by repeat (first | (with_reducible first | exact HB.out | apply below_alloc | apply pw_below_drewN | apply below_drew1) | exact HB.out)⟩
def spilelaw09_Barrel.f  : Option (ByteArray × Int × (List (S46)) × Int) := some ((⟨#[65, 45, 49]⟩ : ByteArray), 1, (([(⟨0, 300⟩ : S46), (⟨500, 400⟩ : S46), (⟨1000, 300⟩ : S46)] : List (S46))), 500)
set_option maxHeartbeats 8000000 in
set_option maxRecDepth 100000 in
theorem spilelaw09_Barrel.calls  (r1 : ByteArray) (r2 : Int) (r3 : List (S46)) (r4 : Int) (w : World) (h : spilelaw09_Barrel.f  = some (r1, r2, r3, r4)) :
  Calls Tryd.prog 31 #[] w fun e w' => ∃ v2_ : Value, e = .returned (.agg #[.string r1, .int .i64 r2, v2_, .int .i64 r4]) ∧ Kd.R k46 46 w' w.heap.size (fun _ => True) v2_ r3 ∧ Below w.heap.size w w' := by
 have hu27 := Tryd.underlying27; have hu46 := Tryd.underlying46; have HB := Aside0.mk (Below.refl w.heap.size w); have H : (some ((⟨#[65, 45, 49]⟩ : ByteArray), 1, (([(⟨0, 300⟩ : S46), (⟨500, 400⟩ : S46), (⟨1000, 300⟩ : S46)] : List (S46))), 500)) = some (r1, r2, r3, r4) := h; clear h; obtain ⟨y148, hy148⟩ : ∃ y_ : List (S46), y_ = (([(⟨0, 300⟩ : S46), (⟨500, 400⟩ : S46), (⟨1000, 300⟩ : S46)] : List (S46))) := ⟨_, rfl⟩; replace H : (some ((⟨#[65, 45, 49]⟩ : ByteArray), 1, y148, 500)) = some (r1, r2, r3, r4) := by first | (rw [hy148]; with_reducible exact H) | (have H2_ := (Option.bind_some _ _).symm.trans H; rw [hy148]; with_reducible exact H2_) | (have H2_ := (Option.bind_some _ _).symm.trans H; with_reducible exact H2_) | with_reducible exact H | (rw [hy148]; exact H) | exact H
 have Ny148 := Aside0.mk hy148; clear hy148; simp only [Option.some.injEq, Prod.mk.injEq] at H; obtain ⟨rfl, rfl, rfl, rfl⟩ := H; go_enter Tryd.func31, Tryd.ntmps31
 go_wp2_with (first | ((with_reducible refine gate_dst (N := 0) rfl ?_); refine box_event ?hg (N := 0) ?hd (cs := #[.string (⟨#[]⟩ : ByteArray), .int .i64 0, .slice none 0 0, .int .i64 0]) (t := 27) ?hr ?_; (case hd => rfl); (case hg => rfl); (case hr => first | (go_simp; done) | (go_simp; rfl)); intro gb147 hg w1 hbox hb; have n0_ := Aside0.mk (below_step (by repeat (first | (with_reducible first | exact HB.out | apply below_alloc | apply pw_below_drewN | apply below_drew1) | exact HB.out)) hb); have n1_ := Aside0.mk (hbox); have n2_ := Aside0.mk ((by rw [hg]; exact (below_size (by repeat (first | (with_reducible first | exact HB.out | apply below_alloc | apply pw_below_drewN | apply below_drew1) | exact HB.out))) : w.heap.size ≤ gb147)); have n3_ := Aside0.mk ((by rw [hg]; exact (below_size (by repeat (first | (with_reducible first | exact HB.out | apply below_alloc | apply pw_below_drewN | apply below_drew1) | exact HB.out))) : w.heap.size ≤ gb147)); clear HB; have HB := n0_; have BK147 := n1_; have GW147 := n2_; have GE147 := n3_; clear n0_ n1_ n2_ n3_; clear hb hbox hg) | ((with_reducible refine gate_dst (N := 4) rfl ?_); refine Kd.R_lit k46 _ 46 ?hg (N := 4) ?hd (xs := ([(⟨0, 300⟩ : S46), (⟨500, 400⟩ : S46), (⟨1000, 300⟩ : S46)] : List (S46))) (inner := [.int .i64 0, .int .i64 300, .int .i64 500, .int .i64 400, .int .i64 1000, .int .i64 300]) (ok := fun _ => True) (okp := fun _ => True) ?hr ?hp (fun _ hk => hk) trivial (Below.refl _ _) (Nat.le_refl _) (by simp) ?_; (case hd => rfl); (case hg => rfl); (case hr => first | (go_simp; done) | (go_simp; rfl)); (case hp => exact (Reps.c2 (show Kd.M k46 _ _ _ (⟨0, 300⟩ : S46) [.int .i64 0, .int .i64 300] from (k46_mkM _ _ _ (⟨0, 300⟩ : S46) )) (Reps.c2 (show Kd.M k46 _ _ _ (⟨500, 400⟩ : S46) [.int .i64 500, .int .i64 400] from (k46_mkM _ _ _ (⟨500, 400⟩ : S46) )) (Reps.c2 (show Kd.M k46 _ _ _ (⟨1000, 300⟩ : S46) [.int .i64 1000, .int .i64 300] from (k46_mkM _ _ _ (⟨1000, 300⟩ : S46) )) (Reps.none _ _))))); intro v149 w2 ho3 hb hg_ hnew_; clear hg_ hnew_; (first | rw [← Ny148.out] at ho3 | (simp only [Int.reduceToNat] at ho3; rw [← Ny148.out] at ho3)); have n0_ := Aside0.mk (Kd.R_lower ho3 (below_size (by repeat (first | (with_reducible first | exact HB.out | apply below_alloc | apply pw_below_drewN | apply below_drew1 | refine below_set ?_ GE147.out) | exact HB.out)))); have n1_ := Aside0.mk (blk_below (g := gb147) (o := .cells #[.string (⟨#[]⟩ : ByteArray), .int .i64 0, .slice none 0 0, .int .i64 0] 27 (0, 0)) (by (with_reducible repeat (first | refine blk_drewN ?_ _ | refine blk_drew ?_ | refine blk_alloc ?_ _)); exact BK147.out) hb); have n2_ := Aside0.mk (below_step (by repeat (first | (with_reducible first | exact HB.out | apply below_alloc | apply pw_below_drewN | apply below_drew1 | refine below_set ?_ GE147.out) | exact HB.out)) hb); clear BK147; clear HB; have HO150 := n0_; have BK147 := n1_; have HB := n2_; clear n0_ n1_ n2_; clear hb ho3; obtain ⟨Ao4, co4, eo4⟩ := Kd.R_slice HO150.out; subst eo4; have hcz5_0 : w2.cell? ⟨gb147, 0, none⟩ = some (.string (⟨#[]⟩ : ByteArray)) := (blk_cell BK147.out 0).trans rfl; have hcz5_1 : w2.cell? ⟨gb147, 1, none⟩ = some (.int .i64 0) := (blk_cell BK147.out 1).trans rfl; have hcz5_2 : w2.cell? ⟨gb147, 2, none⟩ = some (.slice none 0 0) := (blk_cell BK147.out 2).trans rfl; have hcz5_3 : w2.cell? ⟨gb147, 3, none⟩ = some (.int .i64 0) := (blk_cell BK147.out 3).trans rfl; have hfz5_0 := blk_frozen BK147.out 0; have hfz5_1 := blk_frozen BK147.out 1; have hfz5_2 := blk_frozen BK147.out 2; have hfz5_3 := blk_frozen BK147.out 3))
 refine bodyPost_ret (results_cell_row rfl _ _ gb147 27 #[.string (⟨#[65, 45, 49]⟩ : ByteArray), .int .i64 1, .slice Ao4 y148.length co4, .int .i64 500] (0, 0) _ rfl (by (with_reducible repeat (first | refine blk_drewN ?_ _ | refine blk_drew ?_ | refine blk_alloc ?_ _)); refine blk_put (cs := #[.string (⟨#[65, 45, 49]⟩ : ByteArray), .int .i64 1, .slice Ao4 y148.length co4, .int .i64 0]) ?_ 3 _ rfl; (with_reducible repeat (first | refine blk_drewN ?_ _ | refine blk_drew ?_ | refine blk_alloc ?_ _)); refine blk_put (cs := #[.string (⟨#[65, 45, 49]⟩ : ByteArray), .int .i64 1, .slice none 0 0, .int .i64 0]) ?_ 2 _ rfl; (with_reducible repeat (first | refine blk_drewN ?_ _ | refine blk_drew ?_ | refine blk_alloc ?_ _)); refine blk_put (cs := #[.string (⟨#[65, 45, 49]⟩ : ByteArray), .int .i64 0, .slice none 0 0, .int .i64 0]) ?_ 1 _ rfl; (with_reducible repeat (first | refine blk_drewN ?_ _ | refine blk_drew ?_ | refine blk_alloc ?_ _)); refine blk_put (cs := #[.string (⟨#[]⟩ : ByteArray), .int .i64 0, .slice none 0 0, .int .i64 0]) ?_ 0 _ rfl; (with_reducible repeat (first | refine blk_drewN ?_ _ | refine blk_drew ?_ | refine blk_alloc ?_ _)); exact BK147.out) Tryd.underlying27 rfl (by kernel_rfl)) rfl ?_; exact ⟨_, by first | rfl | (simp [errW_none, errW_some] <;> rfl) | (simp [*, errW_none, errW_some] <;> rfl), by (with_reducible repeat (first | apply Kd.R_alloc | apply Kd.R_drewN | apply Kd.R_drew)); exact Kd.R_mono (Kd.R_far (p := ⟨gb147, 3, none⟩) (Kd.R_far (p := ⟨gb147, 2, none⟩) (Kd.R_far (p := ⟨gb147, 1, none⟩) (Kd.R_far (p := ⟨gb147, 0, none⟩) (Kd.R_types HO150.out BK147.out (by decide)) (fun _ hk => hk.2) (.string (⟨#[65, 45, 49]⟩ : ByteArray))) (fun _ hk => hk.2) (.int .i64 1)) (fun _ hk => hk.2) (.slice Ao4 y148.length co4)) (fun _ hk => hk.2) (.int .i64 500)) (fun _ hk => trivial), by repeat (first | (with_reducible first | exact HB.out | apply below_alloc | apply pw_below_drewN | apply below_drew1 | refine below_set ?_ GE147.out) | exact HB.out)⟩
end Go.Proofs.YtnhmlneebnkjcaaDoor.Pr
namespace Go.Proofs.YtnhmlneebnkjcaaDoor.Pr
open Go.RowKit Go.Proofs.YtnhmlneebnkjcaaDoorW.PrintWords Go.Proofs.YtnhmlneebnkjcaaDoorW.PrintLast Go.Proofs.YtnhmlneebnkjcaaDoorW.PrintMore Go.Proofs.YtnhmlneebnkjcaaDoor.X
attribute [local go_sem] max2_int min2_int max_two min_two max_three min_three max_four min_four   -- for this text's walks alone
set_option linter.unusedVariables false
set_option linter.unusedSimpArgs false
def spilelaw09_awake.f  : Option (Bool) := some true
def spilelaw09_awake.T5 : Bool × List (List Nat × List Nat) := (true, [([], []), ([0], [0]), ([1], [1]), ([2], [2]), ([3, 2], [2, 3]), ([2, 4], [2, 4]), ([5, 2], [5]), ([6], [6]), ([7, 6], [6, 7]), ([6, 8], [6, 8]), ([9, 6], [9]), ([10], [10]), ([11, 10], [10, 11]), ([10, 12], [10, 12]), ([13, 10], [13]), ([14], [14]), ([15, 14], [14, 15]), ([14, 16], [14, 16]), ([17, 14], [17]), ([18], [18]), ([19, 18], [18, 19]), ([18, 20], [18, 20]), ([21, 18], [21]), ([22], [22]), ([23, 22], [22, 23]), ([22, 24], [22, 24]), ([25, 22], [25]), ([26], [26]), ([26, 26], [26]), ([28, 26], [26, 28]), ([27, 29, 28, 26], [26, 27, 29]), ([26, 30], [26, 30]), ([31, 30], [31]), ([32], [32]), ([32, 32], [32]), ([33, 34, 34, 32], [32, 33, 34]), ([32, 35], [32, 35]), ([36, 35], [36]), ([37, 37], [37]), ([38, 38, 37], [37, 38]), ([39, 37], [37, 39]), ([37, 40], [37, 40]), ([41, 39], [41]), ([42], [42]), ([43, 42, 42], [42, 43]), ([44, 42], [42, 44]), ([42, 45], [42, 45]), ([46, 44, 0, 1, 2, 3, 4, 5, 6, 7, 8, 9, 10, 11, 12, 13, 14, 15, 16, 17, 18, 19, 20, 21, 22, 23, 24, 25, 26, 27, 28, 29, 30, 31, 32, 33, 34, 35, 36, 37, 38, 39, 40, 41, 42, 43, 44, 45, 46], [46])])
def spilelaw09_awake.B5 : List Nat := [0, 1, 3, 7, 15, 31, 63, 127, 255, 511, 1023, 2047, 4095, 8191, 16383, 32767, 65535, 131071, 262143, 524287, 1048575, 2097151, 4194303, 8388607, 16777215, 33554431, 67108863, 134217727, 134217727, 402653183, 1073741823, 2147483647, 4294967295, 8589934591, 8589934591, 34359738367, 68719476735, 137438953471, 274877906943, 549755813887, 1099511627775, 2199023255551, 4398046511103, 8796093022207, 17592186044415, 35184372088831, 70368744177663, 140737488355327]
theorem spilelaw09_awake.tab5 : rtab .any (opsOf Tryd.f10 5) = spilelaw09_awake.T5 := by kernel_rfl
theorem spilelaw09_awake.bits5 : waitsOk spilelaw09_awake.T5.2 spilelaw09_awake.B5 = true := by kernel_rfl
set_option maxHeartbeats 8000000 in
set_option maxRecDepth 100000 in
theorem spilelaw09_awake.calls  (r : Bool) (w : World) (hG : GI w) (h : spilelaw09_awake.f  = some r) :
  Calls Tryd.prog 10 #[] w fun e w' => e = .returned (.bool r) ∧ Below w.heap.size w w' := by
 have hu27 := Tryd.underlying27; have HG := Aside0.mk hG; clear hG; have HB := Aside0.mk (Below.refl w.heap.size w); have H : (some true) = some r := h; clear h; have A1 := Aside0.mk (show (spilelaw09_Barrel.f) = some ((⟨#[65, 45, 49]⟩ : ByteArray), 1, [(⟨0, 300⟩ : S46), (⟨500, 400⟩ : S46), (⟨1000, 300⟩ : S46)], 500) from by kernel_rfl); obtain ⟨y153, hy153⟩ : ∃ y_ : List (S27), y_ = (([(⟨(⟨#[65, 45, 49]⟩ : ByteArray), 1, [(⟨0, 300⟩ : S46), (⟨500, 400⟩ : S46), (⟨1000, 300⟩ : S46)], 500⟩ : S27)] : List (S27))) := ⟨_, rfl⟩; have Ny153 := Aside0.mk hy153; clear hy153; have A2 := Aside0.mk (show (cask_Print.f 400 y153) = some ((⟨#[99, 97, 115, 107, 32, 65, 45, 49, 32, 108, 121, 105, 110, 103, 32, 100, 101, 99, 108, 97, 114, 101, 100, 32, 53, 48, 48, 10, 97, 116, 32, 48, 32, 114, 97, 100, 105, 117, 115, 32, 51, 48, 48, 10, 97, 116, 32, 53, 48, 48, 32, 114, 97, 100, 105, 117, 115, 32, 52, 48, 48, 10, 97, 116, 32, 49, 48, 48, 48, 32, 114, 97, 100, 105, 117, 115, 32, 51, 48, 48, 10, 101, 110, 100, 10]⟩ : ByteArray), 0) from by (try rw [Ny153.out]); kernel_rfl); have A3 := Aside0.mk (show (cask_Parse.f 400 (⟨#[99, 97, 115, 107, 32, 65, 45, 49, 32, 108, 121, 105, 110, 103, 32, 100, 101, 99, 108, 97, 114, 101, 100, 32, 53, 48, 48, 10, 97, 116, 32, 48, 32, 114, 97, 100, 105, 117, 115, 32, 51, 48, 48, 10, 97, 116, 32, 53, 48, 48, 32, 114, 97, 100, 105, 117, 115, 32, 52, 48, 48, 10, 97, 116, 32, 49, 48, 48, 48, 32, 114, 97, 100, 105, 117, 115, 32, 51, 48, 48, 10, 101, 110, 100, 10]⟩ : ByteArray)) = some ([(⟨(⟨#[65, 45, 49]⟩ : ByteArray), 1, [(⟨0, 300⟩ : S46), (⟨500, 400⟩ : S46), (⟨1000, 300⟩ : S46)], 500⟩ : S27)], 0, 0) from by kernel_rfl); have A4 := Aside0.mk (show (spilelaw09_Barrel.f) = some ((⟨#[65, 45, 49]⟩ : ByteArray), 1, [(⟨0, 300⟩ : S46), (⟨500, 400⟩ : S46), (⟨1000, 300⟩ : S46)], 500) from by kernel_rfl); have A5 := Aside0.mk (show (cask_Depth.f 400 (⟨#[65, 45, 49]⟩ : ByteArray) 1 [(⟨0, 300⟩ : S46), (⟨500, 400⟩ : S46), (⟨1000, 300⟩ : S46)] 500) = some (800, 0) from by kernel_rfl); have A6 := Aside0.mk (show (spilelaw09_Barrel.f) = some ((⟨#[65, 45, 49]⟩ : ByteArray), 1, [(⟨0, 300⟩ : S46), (⟨500, 400⟩ : S46), (⟨1000, 300⟩ : S46)], 500) from by kernel_rfl); obtain ⟨y162, hy162⟩ : ∃ y_ : List (S27), y_ = (([(⟨(⟨#[65, 45, 49]⟩ : ByteArray), 1, [(⟨0, 300⟩ : S46), (⟨500, 400⟩ : S46), (⟨1000, 300⟩ : S46)], 500⟩ : S27)] : List (S27))) := ⟨_, rfl⟩; have Ny162 := Aside0.mk hy162; clear hy162; have A7 := Aside0.mk (show (cask_Find.f 400 y162 (⟨#[65, 45, 49]⟩ : ByteArray)) = some ((⟨#[65, 45, 49]⟩ : ByteArray), 1, [(⟨0, 300⟩ : S46), (⟨500, 400⟩ : S46), (⟨1000, 300⟩ : S46)], 500, 0) from by (try rw [Ny162.out]); kernel_rfl); have A8 := Aside0.mk (show (spilelaw09_Barrel.f) = some ((⟨#[65, 45, 49]⟩ : ByteArray), 1, [(⟨0, 300⟩ : S46), (⟨500, 400⟩ : S46), (⟨1000, 300⟩ : S46)], 500) from by kernel_rfl); obtain ⟨y170, hy170⟩ : ∃ y_ : List (S27), y_ = (([(⟨(⟨#[65, 45, 49]⟩ : ByteArray), 1, [(⟨0, 300⟩ : S46), (⟨500, 400⟩ : S46), (⟨1000, 300⟩ : S46)], 500⟩ : S27)] : List (S27))) := ⟨_, rfl⟩; have Ny170 := Aside0.mk hy170; clear hy170; have A9 := Aside0.mk (show (spileref09_Same.f 400 [(⟨(⟨#[65, 45, 49]⟩ : ByteArray), 1, [(⟨0, 300⟩ : S46), (⟨500, 400⟩ : S46), (⟨1000, 300⟩ : S46)], 500⟩ : S27)] y170) = some true from by (try rw [Ny170.out]); kernel_rfl); have A10 := Aside0.mk (show (spilelaw09_Barrel.f) = some ((⟨#[65, 45, 49]⟩ : ByteArray), 1, [(⟨0, 300⟩ : S46), (⟨500, 400⟩ : S46), (⟨1000, 300⟩ : S46)], 500) from by kernel_rfl); have A11 := Aside0.mk (show (spileref09_SameCask.f 400 (⟨#[65, 45, 49]⟩ : ByteArray) 1 [(⟨0, 300⟩ : S46), (⟨500, 400⟩ : S46), (⟨1000, 300⟩ : S46)] 500 (⟨#[65, 45, 49]⟩ : ByteArray) 1 [(⟨0, 300⟩ : S46), (⟨500, 400⟩ : S46), (⟨1000, 300⟩ : S46)] 500) = some true from by kernel_rfl); have A12 := Aside0.mk (show (spilelaw09_Barrel.f) = some ((⟨#[65, 45, 49]⟩ : ByteArray), 1, [(⟨0, 300⟩ : S46), (⟨500, 400⟩ : S46), (⟨1000, 300⟩ : S46)], 500) from by kernel_rfl); have A13 := Aside0.mk (show (cask_Check.f 400 (⟨#[65, 45, 49]⟩ : ByteArray) 1 [(⟨0, 300⟩ : S46), (⟨500, 400⟩ : S46), (⟨1000, 300⟩ : S46)] 500) = some 0 from by kernel_rfl); have A14 := Aside0.mk (show (cask_List.f 400 [(⟨(⟨#[65, 45, 49]⟩ : ByteArray), 1, [(⟨0, 300⟩ : S46), (⟨500, 400⟩ : S46), (⟨1000, 300⟩ : S46)], 500⟩ : S27)]) = some 0 from by kernel_rfl); obtain rfl := Option.some.inj H; go_enter Tryd.func10, Tryd.ntmps10
 try simp only [List.append_eq, List.cons_append, List.nil_append]
 try go_wp2_with (first | ((with_reducible refine gate_callee (f := 31) rfl ?_); refine goesL_ (some 11) rfl rfl Tryd.func31 (by kernel_rfl) rfl #[] rfl (by (try simp only [List.map_toArray, List.map_cons, List.map_nil]); first | done | rfl | (simp only [List.length_drop, List.length_take]; rfl)) ?_; (with_reducible refine (spilelaw09_Barrel.calls  (⟨#[65, 45, 49]⟩ : ByteArray) 1 [(⟨0, 300⟩ : S46), (⟨500, 400⟩ : S46), (⟨1000, 300⟩ : S46)] 500 _ A1.out).mono ?_); rintro e w15 ⟨v151, rfl, ho0, hb⟩; refine ⟨_, rfl, ?_⟩; have n0_ := Aside0.mk (Kd.R_lower ho0 (below_size (by repeat (first | (with_reducible first | exact HB.out | apply below_alloc | apply pw_below_drewN | apply below_drew1) | exact HB.out)))); have n1_ := Aside0.mk (below_step (by repeat (first | (with_reducible first | exact HB.out | apply below_alloc | apply pw_below_drewN | apply below_drew1) | exact HB.out)) hb); clear HB; have HO152 := n0_; have HB := n1_; clear n0_ n1_; (try clear hb); (try clear hb2); (try clear hk); (try clear hi); (try clear ho0); obtain ⟨Ao16, co16, eo16⟩ := Kd.R_slice HO152.out; subst eo16) | ((with_reducible refine gate_dst (N := 12) rfl ?_); (try (refine gate_guard (by rfl) ?_; dsimp only)); refine Kd.N_lit k27 _ 27 ?hg (N' := 12) ?hd (xs := ([(⟨(⟨#[65, 45, 49]⟩ : ByteArray), 1, [(⟨0, 300⟩ : S46), (⟨500, 400⟩ : S46), (⟨1000, 300⟩ : S46)], 500⟩ : S27)] : List (S27))) (inner := [.string (⟨#[65, 45, 49]⟩ : ByteArray), .int .i64 1, .slice Ao16 [(⟨0, 300⟩ : S46), (⟨500, 400⟩ : S46), (⟨1000, 300⟩ : S46)].length co16, .int .i64 500]) (ok := (fun _ => True)) (okp := (fun _ => True)) ?hr ?hp (fun _ hk => hk) ((show ∀ k_, w15.heap.size ≤ k_ → (fun _ => True) k_ from fun k_ hk => trivial) _ (Nat.le_refl _)) (Below.refl _ _) (Nat.le_refl _) (by simp) ?_; (case hd => rfl); (case hg => rfl); (case hr => first | (go_simp; done) | (go_simp; rfl)); (case hp => exact (Reps.c4 (show Kd.FK k27 _ _ (⟨(⟨#[65, 45, 49]⟩ : ByteArray), 1, [(⟨0, 300⟩ : S46), (⟨500, 400⟩ : S46), (⟨1000, 300⟩ : S46)], 500⟩ : S27) [.string (⟨#[65, 45, 49]⟩ : ByteArray), .int .i64 1, .slice Ao16 [(⟨0, 300⟩ : S46), (⟨500, 400⟩ : S46), (⟨1000, 300⟩ : S46)].length co16, .int .i64 500] from (k27_mkF _ _ (⟨(⟨#[65, 45, 49]⟩ : ByteArray), 1, [(⟨0, 300⟩ : S46), (⟨500, 400⟩ : S46), (⟨1000, 300⟩ : S46)], 500⟩ : S27) (Kd.R_reads' (Kd.R_mono (ok' := (fun _ => True)) (HO152.out) (fun k_ hk => trivial))).2.1 (Kd.R_F (Kd.R_mono (ok' := (fun _ => True)) (HO152.out) (fun k_ hk => trivial))))) (Reps.none _ _))); intro v154 w17 ho18 hb hg_ hnew_; clear hg_ hnew_; (first | rw [← Ny153.out] at ho18 | (simp only [Int.reduceToNat] at ho18; rw [← Ny153.out] at ho18)); have n0_ := Aside0.mk (Kd.N_lower ho18 (below_size (by repeat (first | (with_reducible first | exact HB.out | apply below_alloc | apply pw_below_drewN | apply below_drew1) | exact HB.out)))); have n1_ := Aside0.mk (below_step (by repeat (first | (with_reducible first | exact HB.out | apply below_alloc | apply pw_below_drewN | apply below_drew1) | exact HB.out)) hb); clear HB; clear HO152; have HO155 := n0_; have HB := n1_; clear n0_ n1_; clear hb ho18; obtain ⟨Ao19, co19, eo19⟩ := Kd.N_slice HO155.out; subst eo19) | ((with_reducible refine gate_callee (f := 22) rfl ?_); refine goesL_ (some 13) rfl rfl Tryd.func22 (by kernel_rfl) rfl #[.slice Ao19 y153.length co19] rfl (by (try simp only [List.map_toArray, List.map_cons, List.map_nil]); first | done | rfl | (simp only [List.length_drop, List.length_take]; rfl)) ?_; (with_reducible refine (cask_Print.calls 400 _ _ y153 (⟨#[99, 97, 115, 107, 32, 65, 45, 49, 32, 108, 121, 105, 110, 103, 32, 100, 101, 99, 108, 97, 114, 101, 100, 32, 53, 48, 48, 10, 97, 116, 32, 48, 32, 114, 97, 100, 105, 117, 115, 32, 51, 48, 48, 10, 97, 116, 32, 53, 48, 48, 32, 114, 97, 100, 105, 117, 115, 32, 52, 48, 48, 10, 97, 116, 32, 49, 48, 48, 48, 32, 114, 97, 100, 105, 117, 115, 32, 51, 48, 48, 10, 101, 110, 100, 10]⟩ : ByteArray) 0 _ ?side1 ?side2 ?side3 A2.out).mono ?_); (case side1 => repeat (first | exact (Kd.N_reads' HO155.out).2.2 | (with_reducible refine Kd.C_alloc ?_ _) | (with_reducible refine Kd.C_drewN ?_ _) | (with_reducible refine Kd.C_drew ?_))); (case side2 => exact (Kd.N_reads' HO155.out).2.1); (case side3 => exact GI.below HG.out (by repeat (first | (with_reducible first | exact HB.out | apply below_alloc | apply pw_below_drewN | apply below_drew1) | exact HB.out))); rintro e w20 ⟨rfl, hb⟩; refine ⟨_, rfl, ?_⟩; have n0_ := Aside0.mk (Kd.N_below (by (with_reducible repeat (first | apply Kd.N_alloc | apply Kd.N_drewN | apply Kd.N_drew)); exact HO155.out) hb); have n1_ := Aside0.mk (below_step (by repeat (first | (with_reducible first | exact HB.out | apply below_alloc | apply pw_below_drewN | apply below_drew1) | exact HB.out)) hb); clear HO155; clear HB; have HO155 := n0_; have HB := n1_; clear n0_ n1_; (try clear hb); (try clear hb2); (try clear hk); (try clear hi)) | ((with_reducible refine gate_callee (f := 24) rfl ?_); refine goesL_ (some 18) rfl rfl Tryd.func24 (by kernel_rfl) rfl #[.string (⟨#[99, 97, 115, 107, 32, 65, 45, 49, 32, 108, 121, 105, 110, 103, 32, 100, 101, 99, 108, 97, 114, 101, 100, 32, 53, 48, 48, 10, 97, 116, 32, 48, 32, 114, 97, 100, 105, 117, 115, 32, 51, 48, 48, 10, 97, 116, 32, 53, 48, 48, 32, 114, 97, 100, 105, 117, 115, 32, 52, 48, 48, 10, 97, 116, 32, 49, 48, 48, 48, 32, 114, 97, 100, 105, 117, 115, 32, 51, 48, 48, 10, 101, 110, 100, 10]⟩ : ByteArray)] rfl (by (try simp only [List.map_toArray, List.map_cons, List.map_nil]); first | done | rfl | (simp only [List.length_drop, List.length_take]; rfl)) ?_; (with_reducible refine (cask_Parse.calls 400 (⟨#[99, 97, 115, 107, 32, 65, 45, 49, 32, 108, 121, 105, 110, 103, 32, 100, 101, 99, 108, 97, 114, 101, 100, 32, 53, 48, 48, 10, 97, 116, 32, 48, 32, 114, 97, 100, 105, 117, 115, 32, 51, 48, 48, 10, 97, 116, 32, 53, 48, 48, 32, 114, 97, 100, 105, 117, 115, 32, 52, 48, 48, 10, 97, 116, 32, 49, 48, 48, 48, 32, 114, 97, 100, 105, 117, 115, 32, 51, 48, 48, 10, 101, 110, 100, 10]⟩ : ByteArray) [(⟨(⟨#[65, 45, 49]⟩ : ByteArray), 1, [(⟨0, 300⟩ : S46), (⟨500, 400⟩ : S46), (⟨1000, 300⟩ : S46)], 500⟩ : S27)] 0 0 _ ?side1 A3.out).mono ?_); (case side1 => exact GI.below HG.out (by repeat (first | (with_reducible first | exact HB.out | apply below_alloc | apply pw_below_drewN | apply below_drew1) | exact HB.out))); rintro e w21 ⟨v156, rfl, ho0, hb⟩; refine ⟨_, rfl, ?_⟩; have n0_ := Aside0.mk (Kd.N_elder' (by (with_reducible repeat (first | apply Kd.N_alloc | apply Kd.N_drewN | apply Kd.N_drew)); exact HO155.out) (Kd.S_base ho0) hb); have n1_ := Aside0.mk (Kd.N_lower (Kd.N_mono (ok' := fun k_ => some k_ ≠ (.slice Ao19 y153.length co19 : Value).ownBlock) (Kd.S_N (Kd.S_bound ho0)) (fun k_ hk_ => (Kd.fresh' (Kd.N_lt (by (with_reducible repeat (first | apply Kd.N_alloc | apply Kd.N_drewN | apply Kd.N_drew)); exact HO155.out)) k_ hk_.2.1))) (below_size (by repeat (first | (with_reducible first | exact HB.out | apply below_alloc | apply pw_below_drewN | apply below_drew1) | exact HB.out)))); have n2_ := Aside0.mk (below_step (by repeat (first | (with_reducible first | exact HB.out | apply below_alloc | apply pw_below_drewN | apply below_drew1) | exact HB.out)) hb); clear HO155; clear HB; have HO155 := n0_; have HO157 := n1_; have HB := n2_; clear n0_ n1_ n2_; (try clear hb); (try clear hb2); (try clear hk); (try clear hi); (try clear ho0)) | ((with_reducible refine gate_callee (f := 31) rfl ?_); refine goesL_ (some 23) rfl rfl Tryd.func31 (by kernel_rfl) rfl #[] rfl (by (try simp only [List.map_toArray, List.map_cons, List.map_nil]); first | done | rfl | (simp only [List.length_drop, List.length_take]; rfl)) ?_; (with_reducible refine (spilelaw09_Barrel.calls  (⟨#[65, 45, 49]⟩ : ByteArray) 1 [(⟨0, 300⟩ : S46), (⟨500, 400⟩ : S46), (⟨1000, 300⟩ : S46)] 500 _ A4.out).mono ?_); rintro e w22 ⟨v158, rfl, ho0, hb⟩; refine ⟨_, rfl, ?_⟩; have n0_ := Aside0.mk (Kd.N_elder' (by (with_reducible repeat (first | apply Kd.N_alloc | apply Kd.N_drewN | apply Kd.N_drew)); exact HO155.out) (Kd.R_base ho0) hb); have n1_ := Aside0.mk (Kd.N_elder' (by (with_reducible repeat (first | apply Kd.N_alloc | apply Kd.N_drewN | apply Kd.N_drew)); exact HO157.out) (Kd.R_base ho0) hb); have n2_ := Aside0.mk (Kd.R_lower ho0 (below_size (by repeat (first | (with_reducible first | exact HB.out | apply below_alloc | apply pw_below_drewN | apply below_drew1) | exact HB.out)))); have n3_ := Aside0.mk (below_step (by repeat (first | (with_reducible first | exact HB.out | apply below_alloc | apply pw_below_drewN | apply below_drew1) | exact HB.out)) hb); clear HO155; clear HO157; clear HB; have HO155 := n0_; have HO157 := n1_; have HO159 := n2_; have HB := n3_; clear n0_ n1_ n2_ n3_; (try clear hb); (try clear hb2); (try clear hk); (try clear hi); (try clear ho0); obtain ⟨Ao23, co23, eo23⟩ := Kd.R_slice HO159.out; subst eo23) | ((with_reducible refine gate_callee (f := 18) rfl ?_); refine goesL_ (some 24) rfl rfl Tryd.func18 (by kernel_rfl) rfl #[.agg #[.string (⟨#[65, 45, 49]⟩ : ByteArray), .int .i64 1, .slice Ao23 [(⟨0, 300⟩ : S46), (⟨500, 400⟩ : S46), (⟨1000, 300⟩ : S46)].length co23, .int .i64 500]] rfl (by (try simp only [List.map_toArray, List.map_cons, List.map_nil]); first | done | rfl | (simp only [List.length_drop, List.length_take]; rfl)) ?_; (with_reducible refine (cask_Depth.calls 400 (⟨#[65, 45, 49]⟩ : ByteArray) 1 _ _ [(⟨0, 300⟩ : S46), (⟨500, 400⟩ : S46), (⟨1000, 300⟩ : S46)] 500 800 0 _ ?side1 ?side2 A5.out).mono ?_); (case side1 => repeat (first | exact (Kd.R_reads' HO159.out).2.2 | (with_reducible refine Kd.C_alloc ?_ _) | (with_reducible refine Kd.C_drewN ?_ _) | (with_reducible refine Kd.C_drew ?_))); (case side2 => exact (Kd.R_reads' HO159.out).2.1); rintro e w24 ⟨rfl, hb⟩; refine ⟨_, rfl, ?_⟩; have n0_ := Aside0.mk (Kd.N_below (by (with_reducible repeat (first | apply Kd.N_alloc | apply Kd.N_drewN | apply Kd.N_drew)); exact HO155.out) hb); have n1_ := Aside0.mk (Kd.N_below (by (with_reducible repeat (first | apply Kd.N_alloc | apply Kd.N_drewN | apply Kd.N_drew)); exact HO157.out) hb); have n2_ := Aside0.mk (Kd.R_below (by (with_reducible repeat (first | apply Kd.R_alloc | apply Kd.R_drewN | apply Kd.R_drew)); exact HO159.out) hb); have n3_ := Aside0.mk (below_step (by repeat (first | (with_reducible first | exact HB.out | apply below_alloc | apply pw_below_drewN | apply below_drew1) | exact HB.out)) hb); clear HO155; clear HO157; clear HO159; clear HB; have HO155 := n0_; have HO157 := n1_; have HO159 := n2_; have HB := n3_; clear n0_ n1_ n2_ n3_; (try clear hb); (try clear hb2); (try clear hk); (try clear hi)) | ((with_reducible refine gate_callee (f := 31) rfl ?_); refine goesL_ (some 28) rfl rfl Tryd.func31 (by kernel_rfl) rfl #[] rfl (by (try simp only [List.map_toArray, List.map_cons, List.map_nil]); first | done | rfl | (simp only [List.length_drop, List.length_take]; rfl)) ?_; (with_reducible refine (spilelaw09_Barrel.calls  (⟨#[65, 45, 49]⟩ : ByteArray) 1 [(⟨0, 300⟩ : S46), (⟨500, 400⟩ : S46), (⟨1000, 300⟩ : S46)] 500 _ A6.out).mono ?_); rintro e w25 ⟨v160, rfl, ho0, hb⟩; refine ⟨_, rfl, ?_⟩; have n0_ := Aside0.mk (Kd.N_elder' (by (with_reducible repeat (first | apply Kd.N_alloc | apply Kd.N_drewN | apply Kd.N_drew)); exact HO155.out) (Kd.R_base ho0) hb); have n1_ := Aside0.mk (Kd.N_elder' (by (with_reducible repeat (first | apply Kd.N_alloc | apply Kd.N_drewN | apply Kd.N_drew)); exact HO157.out) (Kd.R_base ho0) hb); have n2_ := Aside0.mk (Kd.R_elder' (by (with_reducible repeat (first | apply Kd.R_alloc | apply Kd.R_drewN | apply Kd.R_drew)); exact HO159.out) (Kd.R_base ho0) hb); have n3_ := Aside0.mk (Kd.R_lower (Kd.R_new' ho0 (Kd.R_lt (by (with_reducible repeat (first | apply Kd.R_alloc | apply Kd.R_drewN | apply Kd.R_drew)); exact HO159.out))) (below_size (by repeat (first | (with_reducible first | exact HB.out | apply below_alloc | apply pw_below_drewN | apply below_drew1) | exact HB.out)))); have n4_ := Aside0.mk (below_step (by repeat (first | (with_reducible first | exact HB.out | apply below_alloc | apply pw_below_drewN | apply below_drew1) | exact HB.out)) hb); clear HO155; clear HO157; clear HO159; clear HB; have HO155 := n0_; have HO157 := n1_; have HO159 := n2_; have HO161 := n3_; have HB := n4_; clear n0_ n1_ n2_ n3_ n4_; (try clear hb); (try clear hb2); (try clear hk); (try clear hi); (try clear ho0); obtain ⟨Ao26, co26, eo26⟩ := Kd.R_slice HO161.out; subst eo26) | ((with_reducible refine gate_dst (N := 29) rfl ?_); (try (refine gate_guard (by rfl) ?_; dsimp only)); refine Kd.N_lit k27 _ 27 ?hg (N' := 29) ?hd (xs := ([(⟨(⟨#[65, 45, 49]⟩ : ByteArray), 1, [(⟨0, 300⟩ : S46), (⟨500, 400⟩ : S46), (⟨1000, 300⟩ : S46)], 500⟩ : S27)] : List (S27))) (inner := [.string (⟨#[65, 45, 49]⟩ : ByteArray), .int .i64 1, .slice Ao26 [(⟨0, 300⟩ : S46), (⟨500, 400⟩ : S46), (⟨1000, 300⟩ : S46)].length co26, .int .i64 500]) (ok := (fun k_ => some k_ ≠ (.slice Ao19 y153.length co19 : Value).ownBlock ∧ some k_ ≠ (v156 : Value).ownBlock ∧ some k_ ≠ (.slice Ao23 [(⟨0, 300⟩ : S46), (⟨500, 400⟩ : S46), (⟨1000, 300⟩ : S46)].length co23 : Value).ownBlock)) (okp := (fun k_ => some k_ ≠ (.slice Ao19 y153.length co19 : Value).ownBlock ∧ some k_ ≠ (v156 : Value).ownBlock ∧ some k_ ≠ (.slice Ao23 [(⟨0, 300⟩ : S46), (⟨500, 400⟩ : S46), (⟨1000, 300⟩ : S46)].length co23 : Value).ownBlock)) ?hr ?hp (fun _ hk => hk) ((show ∀ k_, w25.heap.size ≤ k_ → (fun k_ => some k_ ≠ (.slice Ao19 y153.length co19 : Value).ownBlock ∧ some k_ ≠ (v156 : Value).ownBlock ∧ some k_ ≠ (.slice Ao23 [(⟨0, 300⟩ : S46), (⟨500, 400⟩ : S46), (⟨1000, 300⟩ : S46)].length co23 : Value).ownBlock) k_ from fun k_ hk => ⟨Kd.fresh' (Kd.N_lt (by (with_reducible repeat (first | apply Kd.N_alloc | apply Kd.N_drewN | apply Kd.N_drew)); exact HO155.out)) k_ hk, Kd.fresh' (Kd.N_lt (by (with_reducible repeat (first | apply Kd.N_alloc | apply Kd.N_drewN | apply Kd.N_drew)); exact HO157.out)) k_ hk, Kd.fresh' (Kd.R_lt (by (with_reducible repeat (first | apply Kd.R_alloc | apply Kd.R_drewN | apply Kd.R_drew)); exact HO159.out)) k_ hk⟩) _ (Nat.le_refl _)) (Below.refl _ _) (Nat.le_refl _) (by simp) ?_; (case hd => rfl); (case hg => rfl); (case hr => first | (go_simp; done) | (go_simp; rfl)); (case hp => exact (Reps.c4 (show Kd.FK k27 _ _ (⟨(⟨#[65, 45, 49]⟩ : ByteArray), 1, [(⟨0, 300⟩ : S46), (⟨500, 400⟩ : S46), (⟨1000, 300⟩ : S46)], 500⟩ : S27) [.string (⟨#[65, 45, 49]⟩ : ByteArray), .int .i64 1, .slice Ao26 [(⟨0, 300⟩ : S46), (⟨500, 400⟩ : S46), (⟨1000, 300⟩ : S46)].length co26, .int .i64 500] from (k27_mkF _ _ (⟨(⟨#[65, 45, 49]⟩ : ByteArray), 1, [(⟨0, 300⟩ : S46), (⟨500, 400⟩ : S46), (⟨1000, 300⟩ : S46)], 500⟩ : S27) (Kd.R_reads' (Kd.R_mono (ok' := (fun k_ => some k_ ≠ (.slice Ao19 y153.length co19 : Value).ownBlock ∧ some k_ ≠ (v156 : Value).ownBlock ∧ some k_ ≠ (.slice Ao23 [(⟨0, 300⟩ : S46), (⟨500, 400⟩ : S46), (⟨1000, 300⟩ : S46)].length co23 : Value).ownBlock)) (Kd.R_apart' (Kd.R_apart' (HO161.out) (Kd.N_typed HO155.out) (by decide)) (Kd.N_typed HO157.out) (by decide)) (fun k_ hk => ⟨hk.1.2, ⟨hk.2, hk.1.1.2⟩⟩))).2.1 (Kd.R_F (Kd.R_mono (ok' := (fun k_ => some k_ ≠ (.slice Ao19 y153.length co19 : Value).ownBlock ∧ some k_ ≠ (v156 : Value).ownBlock ∧ some k_ ≠ (.slice Ao23 [(⟨0, 300⟩ : S46), (⟨500, 400⟩ : S46), (⟨1000, 300⟩ : S46)].length co23 : Value).ownBlock)) (Kd.R_apart' (Kd.R_apart' (HO161.out) (Kd.N_typed HO155.out) (by decide)) (Kd.N_typed HO157.out) (by decide)) (fun k_ hk => ⟨hk.1.2, ⟨hk.2, hk.1.1.2⟩⟩))))) (Reps.none _ _))); intro v163 w27 ho28 hb hg_ hnew_; clear hg_ hnew_; (first | rw [← Ny162.out] at ho28 | (simp only [Int.reduceToNat] at ho28; rw [← Ny162.out] at ho28)); have n0_ := Aside0.mk (Kd.N_elder' (by (with_reducible repeat (first | apply Kd.N_alloc | apply Kd.N_drewN | apply Kd.N_drew)); exact HO155.out) (Kd.N_base ho28) hb); have n1_ := Aside0.mk (Kd.N_elder' (by (with_reducible repeat (first | apply Kd.N_alloc | apply Kd.N_drewN | apply Kd.N_drew)); exact HO157.out) (Kd.N_base ho28) hb); have n2_ := Aside0.mk (Kd.R_below (by (with_reducible repeat (first | apply Kd.R_alloc | apply Kd.R_drewN | apply Kd.R_drew)); exact HO159.out) hb); have n3_ := Aside0.mk (Kd.N_lower ho28 (below_size (by repeat (first | (with_reducible first | exact HB.out | apply below_alloc | apply pw_below_drewN | apply below_drew1) | exact HB.out)))); have n4_ := Aside0.mk (below_step (by repeat (first | (with_reducible first | exact HB.out | apply below_alloc | apply pw_below_drewN | apply below_drew1) | exact HB.out)) hb); clear HO155; clear HO157; clear HO159; clear HB; clear HO161; have HO155 := n0_; have HO157 := n1_; have HO159 := n2_; have HO164 := n3_; have HB := n4_; clear n0_ n1_ n2_ n3_ n4_; clear hb ho28; obtain ⟨Ao29, co29, eo29⟩ := Kd.N_slice HO164.out; subst eo29) | ((with_reducible refine gate_callee (f := 12) rfl ?_); refine goesL_ (some 30) rfl rfl Tryd.func12 (by kernel_rfl) rfl #[.slice Ao29 y162.length co29, .string (⟨#[65, 45, 49]⟩ : ByteArray)] rfl (by (try simp only [List.map_toArray, List.map_cons, List.map_nil]); first | done | rfl | (simp only [List.length_drop, List.length_take]; rfl)) ?_; (with_reducible refine (cask_Find.calls 400 _ _ y162 (⟨#[65, 45, 49]⟩ : ByteArray) (⟨#[65, 45, 49]⟩ : ByteArray) 1 [(⟨0, 300⟩ : S46), (⟨500, 400⟩ : S46), (⟨1000, 300⟩ : S46)] 500 0 _ ?side1 ?side2 A7.out).mono ?_); (case side1 => repeat (first | exact (Kd.N_reads' HO164.out).2.2 | (with_reducible refine Kd.C_alloc ?_ _) | (with_reducible refine Kd.C_drewN ?_ _) | (with_reducible refine Kd.C_drew ?_))); (case side2 => exact (Kd.N_reads' HO164.out).2.1); rintro e w30 ⟨v165, rfl, ho0, hb⟩; refine ⟨_, rfl, ?_⟩; have n0_ := Aside0.mk (Kd.N_elder' (by (with_reducible repeat (first | apply Kd.N_alloc | apply Kd.N_drewN | apply Kd.N_drew)); exact HO155.out) (Kd.R_base ho0) hb); have n1_ := Aside0.mk (Kd.N_elder' (by (with_reducible repeat (first | apply Kd.N_alloc | apply Kd.N_drewN | apply Kd.N_drew)); exact HO157.out) (Kd.R_base ho0) hb); have n2_ := Aside0.mk (Kd.R_elder' (by (with_reducible repeat (first | apply Kd.R_alloc | apply Kd.R_drewN | apply Kd.R_drew)); exact HO159.out) (Kd.R_base ho0) hb); have n3_ := Aside0.mk (Kd.N_elder' (by (with_reducible repeat (first | apply Kd.N_alloc | apply Kd.N_drewN | apply Kd.N_drew)); exact HO164.out) (Kd.R_base ho0) hb); have n4_ := Aside0.mk (Kd.R_lower (Kd.R_new' ho0 (Kd.R_lt (by (with_reducible repeat (first | apply Kd.R_alloc | apply Kd.R_drewN | apply Kd.R_drew)); exact HO159.out))) (below_size (by repeat (first | (with_reducible first | exact HB.out | apply below_alloc | apply pw_below_drewN | apply below_drew1) | exact HB.out)))); have n5_ := Aside0.mk (below_step (by repeat (first | (with_reducible first | exact HB.out | apply below_alloc | apply pw_below_drewN | apply below_drew1) | exact HB.out)) hb); clear HO155; clear HO157; clear HO159; clear HO164; clear HB; have HO155 := n0_; have HO157 := n1_; have HO159 := n2_; have HO164 := n3_; have HO166 := n4_; have HB := n5_; clear n0_ n1_ n2_ n3_ n4_ n5_; (try clear hb); (try clear hb2); (try clear hk); (try clear hi); (try clear ho0)) | ((with_reducible refine gate_dst (N := 8) rfl ?_); (try (refine gate_guard (by rfl) ?_; dsimp only)); refine box_event ?hg (N := 8) ?hd (cs := #[.string (⟨#[]⟩ : ByteArray), .int .i64 0, .slice none 0 0, .int .i64 0]) (t := 27) ?hr ?_; (case hd => rfl); (case hg => rfl); (case hr => first | (go_simp; done) | (go_simp; rfl)); intro gb167 hg w31 hbox hb; have n0_ := Aside0.mk (Kd.N_below (Kd.N_elderB (by (with_reducible repeat (first | apply Kd.N_alloc | apply Kd.N_drewN | apply Kd.N_drew)); exact HO155.out) gb167 (Nat.le_of_eq hg.symm)) hb); have n1_ := Aside0.mk (Kd.N_below (Kd.N_elderB (by (with_reducible repeat (first | apply Kd.N_alloc | apply Kd.N_drewN | apply Kd.N_drew)); exact HO157.out) gb167 (Nat.le_of_eq hg.symm)) hb); have n2_ := Aside0.mk (Kd.R_below (by (with_reducible repeat (first | apply Kd.R_alloc | apply Kd.R_drewN | apply Kd.R_drew)); exact HO159.out) hb); have n3_ := Aside0.mk (Kd.N_below (Kd.N_elderB (by (with_reducible repeat (first | apply Kd.N_alloc | apply Kd.N_drewN | apply Kd.N_drew)); exact HO164.out) gb167 (Nat.le_of_eq hg.symm)) hb); have n4_ := Aside0.mk (Kd.R_below (by (with_reducible repeat (first | apply Kd.R_alloc | apply Kd.R_drewN | apply Kd.R_drew)); exact HO166.out) hb); have n5_ := Aside0.mk (below_step (by repeat (first | (with_reducible first | exact HB.out | apply below_alloc | apply pw_below_drewN | apply below_drew1) | exact HB.out)) hb); have n6_ := Aside0.mk (hbox); have n7_ := Aside0.mk ((by rw [hg]; exact (below_size (by repeat (first | (with_reducible first | exact HB.out | apply below_alloc | apply pw_below_drewN | apply below_drew1) | exact HB.out))) : w.heap.size ≤ gb167)); have n8_ := Aside0.mk ((by rw [hg]; exact (below_size (by repeat (first | (with_reducible first | exact HB.out | apply below_alloc | apply pw_below_drewN | apply below_drew1) | exact HB.out))) : w.heap.size ≤ gb167)); clear HO155; clear HO157; clear HO159; clear HO164; clear HO166; clear HB; have HO155 := n0_; have HO157 := n1_; have HO159 := n2_; have HO164 := n3_; have HO166 := n4_; have HB := n5_; have BK167 := n6_; have GW167 := n7_; have GE167 := n8_; clear n0_ n1_ n2_ n3_ n4_ n5_ n6_ n7_ n8_; clear hb hbox hg; have hcz32_0 : w31.cell? ⟨gb167, 0, none⟩ = some (.string (⟨#[]⟩ : ByteArray)) := (blk_cell BK167.out 0).trans rfl; have hcz32_1 : w31.cell? ⟨gb167, 1, none⟩ = some (.int .i64 0) := (blk_cell BK167.out 1).trans rfl; have hcz32_2 : w31.cell? ⟨gb167, 2, none⟩ = some (.slice none 0 0) := (blk_cell BK167.out 2).trans rfl; have hcz32_3 : w31.cell? ⟨gb167, 3, none⟩ = some (.int .i64 0) := (blk_cell BK167.out 3).trans rfl; have hfz32_0 := blk_frozen BK167.out 0; have hfz32_1 := blk_frozen BK167.out 1; have hfz32_2 := blk_frozen BK167.out 2; have hfz32_3 := blk_frozen BK167.out 3; obtain ⟨Ao33, co33, eo33⟩ := Kd.R_slice HO166.out; subst eo33))
 have n0_ : Aside0 (Kd.N k27 27 ((((w31.setCell ⟨gb167, 0, none⟩ (.string (⟨#[65, 45, 49]⟩ : ByteArray))).setCell ⟨gb167, 1, none⟩ (.int .i64 1)).setCell ⟨gb167, 2, none⟩ (.slice Ao33 [(⟨0, 300⟩ : S46), (⟨500, 400⟩ : S46), (⟨1000, 300⟩ : S46)].length co33)).setCell ⟨gb167, 3, none⟩ (.int .i64 500)) w.heap.size (fun k_ => some k_ ≠ (v156 : Value).ownBlock ∧ some k_ ≠ (.slice Ao23 [(⟨0, 300⟩ : S46), (⟨500, 400⟩ : S46), (⟨1000, 300⟩ : S46)].length co23 : Value).ownBlock ∧ some k_ ≠ (.slice Ao29 y162.length co29 : Value).ownBlock ∧ some k_ ≠ (.slice Ao33 [(⟨0, 300⟩ : S46), (⟨500, 400⟩ : S46), (⟨1000, 300⟩ : S46)].length co33 : Value).ownBlock ∧ k_ ≠ gb167) (.slice Ao19 y153.length co19) y153) := ⟨by (with_reducible repeat (first | apply Kd.N_alloc | apply Kd.N_drewN | apply Kd.N_drew)); exact Kd.N_mono (Kd.N_far (p := ⟨gb167, 3, none⟩) (Kd.N_far (p := ⟨gb167, 2, none⟩) (Kd.N_far (p := ⟨gb167, 1, none⟩) (Kd.N_far (p := ⟨gb167, 0, none⟩) (Kd.N_mono HO155.out (fun k_ hk => (⟨hk, hk.2⟩ : _ ∧ k_ ≠ gb167))) (fun _ hk => hk.2) (.string (⟨#[65, 45, 49]⟩ : ByteArray))) (fun _ hk => hk.2) (.int .i64 1)) (fun _ hk => hk.2) (.slice Ao33 [(⟨0, 300⟩ : S46), (⟨500, 400⟩ : S46), (⟨1000, 300⟩ : S46)].length co33)) (fun _ hk => hk.2) (.int .i64 500)) (fun _ hk => ⟨hk.1.1.1.1.1.1.2, ⟨hk.1.1.1.1.1.2, ⟨hk.1.1.1.2, ⟨hk.1.1.2, hk.1.2⟩⟩⟩⟩)⟩; have n1_ : Aside0 (Kd.N k27 27 ((((w31.setCell ⟨gb167, 0, none⟩ (.string (⟨#[65, 45, 49]⟩ : ByteArray))).setCell ⟨gb167, 1, none⟩ (.int .i64 1)).setCell ⟨gb167, 2, none⟩ (.slice Ao33 [(⟨0, 300⟩ : S46), (⟨500, 400⟩ : S46), (⟨1000, 300⟩ : S46)].length co33)).setCell ⟨gb167, 3, none⟩ (.int .i64 500)) w.heap.size (fun k_ => some k_ ≠ (.slice Ao19 y153.length co19 : Value).ownBlock ∧ some k_ ≠ (.slice Ao23 [(⟨0, 300⟩ : S46), (⟨500, 400⟩ : S46), (⟨1000, 300⟩ : S46)].length co23 : Value).ownBlock ∧ some k_ ≠ (.slice Ao29 y162.length co29 : Value).ownBlock ∧ some k_ ≠ (.slice Ao33 [(⟨0, 300⟩ : S46), (⟨500, 400⟩ : S46), (⟨1000, 300⟩ : S46)].length co33 : Value).ownBlock ∧ k_ ≠ gb167) v156 [(⟨(⟨#[65, 45, 49]⟩ : ByteArray), 1, [(⟨0, 300⟩ : S46), (⟨500, 400⟩ : S46), (⟨1000, 300⟩ : S46)], 500⟩ : S27)]) := ⟨by (with_reducible repeat (first | apply Kd.N_alloc | apply Kd.N_drewN | apply Kd.N_drew)); exact Kd.N_mono (Kd.N_far (p := ⟨gb167, 3, none⟩) (Kd.N_far (p := ⟨gb167, 2, none⟩) (Kd.N_far (p := ⟨gb167, 1, none⟩) (Kd.N_far (p := ⟨gb167, 0, none⟩) (Kd.N_mono HO157.out (fun k_ hk => (⟨hk, hk.2⟩ : _ ∧ k_ ≠ gb167))) (fun _ hk => hk.2) (.string (⟨#[65, 45, 49]⟩ : ByteArray))) (fun _ hk => hk.2) (.int .i64 1)) (fun _ hk => hk.2) (.slice Ao33 [(⟨0, 300⟩ : S46), (⟨500, 400⟩ : S46), (⟨1000, 300⟩ : S46)].length co33)) (fun _ hk => hk.2) (.int .i64 500)) (fun _ hk => ⟨hk.1.1.1.1.1.1, ⟨hk.1.1.1.1.1.2, ⟨hk.1.1.1.2, ⟨hk.1.1.2, hk.1.2⟩⟩⟩⟩)⟩; have n2_ : Aside0 (Kd.R k46 46 ((((w31.setCell ⟨gb167, 0, none⟩ (.string (⟨#[65, 45, 49]⟩ : ByteArray))).setCell ⟨gb167, 1, none⟩ (.int .i64 1)).setCell ⟨gb167, 2, none⟩ (.slice Ao33 [(⟨0, 300⟩ : S46), (⟨500, 400⟩ : S46), (⟨1000, 300⟩ : S46)].length co33)).setCell ⟨gb167, 3, none⟩ (.int .i64 500)) w.heap.size (fun k_ => some k_ ≠ (.slice Ao33 [(⟨0, 300⟩ : S46), (⟨500, 400⟩ : S46), (⟨1000, 300⟩ : S46)].length co33 : Value).ownBlock) (.slice Ao23 [(⟨0, 300⟩ : S46), (⟨500, 400⟩ : S46), (⟨1000, 300⟩ : S46)].length co23) [(⟨0, 300⟩ : S46), (⟨500, 400⟩ : S46), (⟨1000, 300⟩ : S46)]) := ⟨by (with_reducible repeat (first | apply Kd.R_alloc | apply Kd.R_drewN | apply Kd.R_drew)); exact Kd.R_mono (Kd.R_far (p := ⟨gb167, 3, none⟩) (Kd.R_far (p := ⟨gb167, 2, none⟩) (Kd.R_far (p := ⟨gb167, 1, none⟩) (Kd.R_far (p := ⟨gb167, 0, none⟩) (Kd.R_types HO159.out BK167.out (by decide)) (fun _ hk => hk.2) (.string (⟨#[65, 45, 49]⟩ : ByteArray))) (fun _ hk => hk.2) (.int .i64 1)) (fun _ hk => hk.2) (.slice Ao33 [(⟨0, 300⟩ : S46), (⟨500, 400⟩ : S46), (⟨1000, 300⟩ : S46)].length co33)) (fun _ hk => hk.2) (.int .i64 500)) (fun _ hk => hk.1.2)⟩; have n3_ : Aside0 (Kd.N k27 27 ((((w31.setCell ⟨gb167, 0, none⟩ (.string (⟨#[65, 45, 49]⟩ : ByteArray))).setCell ⟨gb167, 1, none⟩ (.int .i64 1)).setCell ⟨gb167, 2, none⟩ (.slice Ao33 [(⟨0, 300⟩ : S46), (⟨500, 400⟩ : S46), (⟨1000, 300⟩ : S46)].length co33)).setCell ⟨gb167, 3, none⟩ (.int .i64 500)) w.heap.size (fun k_ => some k_ ≠ (.slice Ao19 y153.length co19 : Value).ownBlock ∧ some k_ ≠ (v156 : Value).ownBlock ∧ some k_ ≠ (.slice Ao23 [(⟨0, 300⟩ : S46), (⟨500, 400⟩ : S46), (⟨1000, 300⟩ : S46)].length co23 : Value).ownBlock ∧ some k_ ≠ (.slice Ao33 [(⟨0, 300⟩ : S46), (⟨500, 400⟩ : S46), (⟨1000, 300⟩ : S46)].length co33 : Value).ownBlock ∧ k_ ≠ gb167) (.slice Ao29 y162.length co29) y162) := ⟨by (with_reducible repeat (first | apply Kd.N_alloc | apply Kd.N_drewN | apply Kd.N_drew)); exact Kd.N_mono (Kd.N_far (p := ⟨gb167, 3, none⟩) (Kd.N_far (p := ⟨gb167, 2, none⟩) (Kd.N_far (p := ⟨gb167, 1, none⟩) (Kd.N_far (p := ⟨gb167, 0, none⟩) (Kd.N_mono HO164.out (fun k_ hk => (⟨hk, hk.2⟩ : _ ∧ k_ ≠ gb167))) (fun _ hk => hk.2) (.string (⟨#[65, 45, 49]⟩ : ByteArray))) (fun _ hk => hk.2) (.int .i64 1)) (fun _ hk => hk.2) (.slice Ao33 [(⟨0, 300⟩ : S46), (⟨500, 400⟩ : S46), (⟨1000, 300⟩ : S46)].length co33)) (fun _ hk => hk.2) (.int .i64 500)) (fun _ hk => ⟨hk.1.1.1.1, ⟨hk.1.1.1.2.1, ⟨hk.1.1.1.2.2, ⟨hk.1.1.2, hk.1.2⟩⟩⟩⟩)⟩; have n4_ : Aside0 (Kd.R k46 46 ((((w31.setCell ⟨gb167, 0, none⟩ (.string (⟨#[65, 45, 49]⟩ : ByteArray))).setCell ⟨gb167, 1, none⟩ (.int .i64 1)).setCell ⟨gb167, 2, none⟩ (.slice Ao33 [(⟨0, 300⟩ : S46), (⟨500, 400⟩ : S46), (⟨1000, 300⟩ : S46)].length co33)).setCell ⟨gb167, 3, none⟩ (.int .i64 500)) w.heap.size (fun k_ => some k_ ≠ (.slice Ao23 [(⟨0, 300⟩ : S46), (⟨500, 400⟩ : S46), (⟨1000, 300⟩ : S46)].length co23 : Value).ownBlock) (.slice Ao33 [(⟨0, 300⟩ : S46), (⟨500, 400⟩ : S46), (⟨1000, 300⟩ : S46)].length co33) [(⟨0, 300⟩ : S46), (⟨500, 400⟩ : S46), (⟨1000, 300⟩ : S46)]) := ⟨by (with_reducible repeat (first | apply Kd.R_alloc | apply Kd.R_drewN | apply Kd.R_drew)); exact Kd.R_mono (Kd.R_far (p := ⟨gb167, 3, none⟩) (Kd.R_far (p := ⟨gb167, 2, none⟩) (Kd.R_far (p := ⟨gb167, 1, none⟩) (Kd.R_far (p := ⟨gb167, 0, none⟩) (Kd.R_types HO166.out BK167.out (by decide)) (fun _ hk => hk.2) (.string (⟨#[65, 45, 49]⟩ : ByteArray))) (fun _ hk => hk.2) (.int .i64 1)) (fun _ hk => hk.2) (.slice Ao33 [(⟨0, 300⟩ : S46), (⟨500, 400⟩ : S46), (⟨1000, 300⟩ : S46)].length co33)) (fun _ hk => hk.2) (.int .i64 500)) (fun _ hk => hk.1.2)⟩; have n5_ : Aside0 (((((w31.setCell ⟨gb167, 0, none⟩ (.string (⟨#[65, 45, 49]⟩ : ByteArray))).setCell ⟨gb167, 1, none⟩ (.int .i64 1)).setCell ⟨gb167, 2, none⟩ (.slice Ao33 [(⟨0, 300⟩ : S46), (⟨500, 400⟩ : S46), (⟨1000, 300⟩ : S46)].length co33)).setCell ⟨gb167, 3, none⟩ (.int .i64 500)).heap[gb167]? = some (.cells #[.string (⟨#[65, 45, 49]⟩ : ByteArray), .int .i64 1, .slice Ao33 [(⟨0, 300⟩ : S46), (⟨500, 400⟩ : S46), (⟨1000, 300⟩ : S46)].length co33, .int .i64 500] 27 (0, 0))) := ⟨by (with_reducible repeat (first | refine blk_drewN ?_ _ | refine blk_drew ?_ | refine blk_alloc ?_ _)); refine blk_put (cs := #[.string (⟨#[65, 45, 49]⟩ : ByteArray), .int .i64 1, .slice Ao33 [(⟨0, 300⟩ : S46), (⟨500, 400⟩ : S46), (⟨1000, 300⟩ : S46)].length co33, .int .i64 0]) ?_ 3 _ rfl; (with_reducible repeat (first | refine blk_drewN ?_ _ | refine blk_drew ?_ | refine blk_alloc ?_ _)); refine blk_put (cs := #[.string (⟨#[65, 45, 49]⟩ : ByteArray), .int .i64 1, .slice none 0 0, .int .i64 0]) ?_ 2 _ rfl; (with_reducible repeat (first | refine blk_drewN ?_ _ | refine blk_drew ?_ | refine blk_alloc ?_ _)); refine blk_put (cs := #[.string (⟨#[65, 45, 49]⟩ : ByteArray), .int .i64 0, .slice none 0 0, .int .i64 0]) ?_ 1 _ rfl; (with_reducible repeat (first | refine blk_drewN ?_ _ | refine blk_drew ?_ | refine blk_alloc ?_ _)); refine blk_put (cs := #[.string (⟨#[]⟩ : ByteArray), .int .i64 0, .slice none 0 0, .int .i64 0]) ?_ 0 _ rfl; (with_reducible repeat (first | refine blk_drewN ?_ _ | refine blk_drew ?_ | refine blk_alloc ?_ _)); exact BK167.out⟩; have n6_ : Aside0 (Below w.heap.size w ((((w31.setCell ⟨gb167, 0, none⟩ (.string (⟨#[65, 45, 49]⟩ : ByteArray))).setCell ⟨gb167, 1, none⟩ (.int .i64 1)).setCell ⟨gb167, 2, none⟩ (.slice Ao33 [(⟨0, 300⟩ : S46), (⟨500, 400⟩ : S46), (⟨1000, 300⟩ : S46)].length co33)).setCell ⟨gb167, 3, none⟩ (.int .i64 500))) := ⟨by repeat (first | (with_reducible first | exact HB.out | apply below_alloc | apply pw_below_drewN | apply below_drew1 | refine below_set ?_ GE167.out) | exact HB.out)⟩; (try clear HO155)
 (try clear HO157)
 (try clear HO159)
 (try clear HO164)
 (try clear HO166)
 (try clear BK167)
 (try clear HB)
 generalize ((((w31.setCell ⟨gb167, 0, none⟩ (.string (⟨#[65, 45, 49]⟩ : ByteArray))).setCell ⟨gb167, 1, none⟩ (.int .i64 1)).setCell ⟨gb167, 2, none⟩ (.slice Ao33 [(⟨0, 300⟩ : S46), (⟨500, 400⟩ : S46), (⟨1000, 300⟩ : S46)].length co33)).setCell ⟨gb167, 3, none⟩ (.int .i64 500)) = w34 at n0_ n1_ n2_ n3_ n4_ n5_ n6_ ⊢; have HO155 := n0_; have HO157 := n1_; have HO159 := n2_; have HO164 := n3_; have HO166 := n4_; have BK167 := n5_; have HB := n6_; clear n0_ n1_ n2_ n3_ n4_ n5_ n6_; have n0_ := Aside0.mk (Kd.N_drew HO155.out); have n1_ := Aside0.mk (Kd.N_drew HO157.out); have n2_ := Aside0.mk (Kd.R_drew HO159.out); have n3_ := Aside0.mk (Kd.N_drew HO164.out); have n4_ := Aside0.mk (Kd.R_drew HO166.out); have n5_ := Aside0.mk (blk_drew BK167.out); have n6_ := Aside0.mk (below_drew1 HB.out); clear HO155; clear HO157; clear HO159; clear HO164; clear HO166; clear BK167; clear HB; have HO155 := n0_; have HO157 := n1_; have HO159 := n2_; have HO164 := n3_; have HO166 := n4_; have BK167 := n5_; have HB := n6_; clear n0_ n1_ n2_ n3_ n4_ n5_ n6_; refine start_ (n := 48) (S := fun w' => w'.cell? ⟨gb167, 0, none⟩ = some (.string (⟨#[65, 45, 49]⟩ : ByteArray)) ∧ w'.cell? ⟨gb167, 1, none⟩ = some (.int .i64 1) ∧ w'.cell? ⟨gb167, 2, none⟩ = some (.slice Ao33 [(⟨0, 300⟩ : S46), (⟨500, 400⟩ : S46), (⟨1000, 300⟩ : S46)].length co33) ∧ w'.cell? ⟨gb167, 3, none⟩ = some (.int .i64 500)) (ds := []) #[false, false, false, false, false, false, false, false, false, false, false, false, false, false, false, false, false, false, false, false, false, false, false, false, false, false, false, false, false, false, false, false, false, false, false, false, false, false, false, false, false, false, false, false, false, false, false, false] (by kernel_rfl) rfl rfl ⟨(blk_cell BK167.out 0).trans rfl, (blk_cell BK167.out 1).trans rfl, (blk_cell BK167.out 2).trans rfl, (blk_cell BK167.out 3).trans rfl⟩ (fun hHeld => ?_); refine with_tabW spilelaw09_awake.tab5 spilelaw09_awake.bits5 (fun HT_ HW_ => ?_)
 generalize w34.drew = w35 at HO155 HO157 HO159 HO164 HO166 BK167 HB hHeld ⊢; refine pure_ (i := 0) (N := some 33) (v := ?_) (a' := ?_) #[true, false, false, false, false, false, false, false, false, false, false, false, false, false, false, false, false, false, false, false, false, false, false, false, false, false, false, false, false, false, false, false, false, false, false, false, false, false, false, false, false, false, false, false, false, false, false, false] rfl rfl (any_of HT_.out (by kernel_rfl)) (fun _ _ _ h => h) (Or.inl ⟨by rfl, ?_⟩) ?_ ?_; rotate_left
 · intro w'; go_simp; with_reducible rfl
 rotate_left
 · simp only [Act.put, sIA, sC0, sCS, i64_w, i32_w]; rfl
 refine pure_ (i := 1) (N := some 34) (v := ?_) (a' := ?_) #[true, true, false, false, false, false, false, false, false, false, false, false, false, false, false, false, false, false, false, false, false, false, false, false, false, false, false, false, false, false, false, false, false, false, false, false, false, false, false, false, false, false, false, false, false, false, false, false] rfl rfl (any_of HT_.out (by kernel_rfl)) (fun _ _ _ h => h) (Or.inl ⟨by rfl, ?_⟩) ?_ ?_; rotate_left
 · intro w'; go_simp; with_reducible rfl
 rotate_left
 · simp only [Act.put, sIA, sC0, sCS, i64_w, i32_w]; rfl
 refine pure_ (i := 2) (N := some 35) (v := ?_) (a' := ?_) #[true, true, true, false, false, false, false, false, false, false, false, false, false, false, false, false, false, false, false, false, false, false, false, false, false, false, false, false, false, false, false, false, false, false, false, false, false, false, false, false, false, false, false, false, false, false, false, false] rfl rfl (any_of HT_.out (by kernel_rfl)) (fun _ _ _ h => h) (Or.inl ⟨by rfl, ?_⟩) ?_ ?_; rotate_left
 · intro w'; go_simp; with_reducible rfl
 rotate_left
 · simp only [Act.put, sIA, sC0, sCS, i64_w, i32_w]; rfl
 refine pure_ (i := 3) (N := some 36) (v := ?_) (a' := ?_) #[true, true, true, true, false, false, false, false, false, false, false, false, false, false, false, false, false, false, false, false, false, false, false, false, false, false, false, false, false, false, false, false, false, false, false, false, false, false, false, false, false, false, false, false, false, false, false, false] rfl rfl (any_of HT_.out (by kernel_rfl)) (fun _ _ _ h => h) (Or.inl ⟨by rfl, ?_⟩) ?_ ?_; rotate_left
 · intro w'; go_simp; with_reducible rfl
 rotate_left
 · simp only [Act.put, sIA, sC0, sCS, i64_w, i32_w]; rfl
 refine pure_ (i := 4) (N := some 37) (v := ?_) (a' := ?_) #[true, true, true, true, true, false, false, false, false, false, false, false, false, false, false, false, false, false, false, false, false, false, false, false, false, false, false, false, false, false, false, false, false, false, false, false, false, false, false, false, false, false, false, false, false, false, false, false] rfl rfl (any_of HT_.out (by kernel_rfl)) (fun _ _ _ h => h) (Or.inl ⟨by rfl, ?_⟩) ?_ ?_; rotate_left
 · intro w'; go_simp; with_reducible rfl
 rotate_left
 · simp only [Act.put, sIA, sC0, sCS, i64_w, i32_w]; rfl
 refine pure_ (i := 5) (N := some 38) (v := ?_) (a' := ?_) #[true, true, true, true, true, true, false, false, false, false, false, false, false, false, false, false, false, false, false, false, false, false, false, false, false, false, false, false, false, false, false, false, false, false, false, false, false, false, false, false, false, false, false, false, false, false, false, false] rfl rfl (any_of HT_.out (by kernel_rfl)) (fun _ _ _ h => h) (Or.inl ⟨by rfl, ?_⟩) ?_ ?_; rotate_left
 · intro w'; go_simp; with_reducible rfl
 rotate_left
 · simp only [Act.put, sIA, sC0, sCS, i64_w, i32_w]; rfl
 refine pure_ (i := 6) (N := some 39) (v := ?_) (a' := ?_) #[true, true, true, true, true, true, true, false, false, false, false, false, false, false, false, false, false, false, false, false, false, false, false, false, false, false, false, false, false, false, false, false, false, false, false, false, false, false, false, false, false, false, false, false, false, false, false, false] rfl rfl (any_of HT_.out (by kernel_rfl)) (fun _ _ _ h => h) (Or.inl ⟨by rfl, ?_⟩) ?_ ?_; rotate_left
 · intro w'; go_simp; with_reducible rfl
 rotate_left
 · simp only [Act.put, sIA, sC0, sCS, i64_w, i32_w]; rfl
 refine pure_ (i := 7) (N := some 40) (v := ?_) (a' := ?_) #[true, true, true, true, true, true, true, true, false, false, false, false, false, false, false, false, false, false, false, false, false, false, false, false, false, false, false, false, false, false, false, false, false, false, false, false, false, false, false, false, false, false, false, false, false, false, false, false] rfl rfl (any_of HT_.out (by kernel_rfl)) (fun _ _ _ h => h) (Or.inl ⟨by rfl, ?_⟩) ?_ ?_; rotate_left
 · intro w'; go_simp; with_reducible rfl
 rotate_left
 · simp only [Act.put, sIA, sC0, sCS, i64_w, i32_w]; rfl
 refine pure_ (i := 8) (N := some 41) (v := ?_) (a' := ?_) #[true, true, true, true, true, true, true, true, true, false, false, false, false, false, false, false, false, false, false, false, false, false, false, false, false, false, false, false, false, false, false, false, false, false, false, false, false, false, false, false, false, false, false, false, false, false, false, false] rfl rfl (any_of HT_.out (by kernel_rfl)) (fun _ _ _ h => h) (Or.inl ⟨by rfl, ?_⟩) ?_ ?_; rotate_left
 · intro w'; go_simp; with_reducible rfl
 rotate_left
 · simp only [Act.put, sIA, sC0, sCS, i64_w, i32_w]; rfl
 refine pure_ (i := 9) (N := some 42) (v := ?_) (a' := ?_) #[true, true, true, true, true, true, true, true, true, true, false, false, false, false, false, false, false, false, false, false, false, false, false, false, false, false, false, false, false, false, false, false, false, false, false, false, false, false, false, false, false, false, false, false, false, false, false, false] rfl rfl (any_of HT_.out (by kernel_rfl)) (fun _ _ _ h => h) (Or.inl ⟨by rfl, ?_⟩) ?_ ?_; rotate_left
 · intro w'; go_simp; with_reducible rfl
 rotate_left
 · simp only [Act.put, sIA, sC0, sCS, i64_w, i32_w]; rfl
 refine pure_ (i := 10) (N := some 43) (v := ?_) (a' := ?_) #[true, true, true, true, true, true, true, true, true, true, true, false, false, false, false, false, false, false, false, false, false, false, false, false, false, false, false, false, false, false, false, false, false, false, false, false, false, false, false, false, false, false, false, false, false, false, false, false] rfl rfl (any_of HT_.out (by kernel_rfl)) (fun _ _ _ h => h) (Or.inl ⟨by rfl, ?_⟩) ?_ ?_; rotate_left
 · intro w'; go_simp; with_reducible rfl
 rotate_left
 · simp only [Act.put, sIA, sC0, sCS, i64_w, i32_w]; rfl
 refine pure_ (i := 11) (N := some 44) (v := ?_) (a' := ?_) #[true, true, true, true, true, true, true, true, true, true, true, true, false, false, false, false, false, false, false, false, false, false, false, false, false, false, false, false, false, false, false, false, false, false, false, false, false, false, false, false, false, false, false, false, false, false, false, false] rfl rfl (any_of HT_.out (by kernel_rfl)) (fun _ _ _ h => h) (Or.inl ⟨by rfl, ?_⟩) ?_ ?_; rotate_left
 · intro w'; go_simp; with_reducible rfl
 rotate_left
 · simp only [Act.put, sIA, sC0, sCS, i64_w, i32_w]; rfl
 refine pure_ (i := 12) (N := some 45) (v := ?_) (a' := ?_) #[true, true, true, true, true, true, true, true, true, true, true, true, true, false, false, false, false, false, false, false, false, false, false, false, false, false, false, false, false, false, false, false, false, false, false, false, false, false, false, false, false, false, false, false, false, false, false, false] rfl rfl (any_of HT_.out (by kernel_rfl)) (fun _ _ _ h => h) (Or.inl ⟨by rfl, ?_⟩) ?_ ?_; rotate_left
 · intro w'; go_simp; with_reducible rfl
 rotate_left
 · simp only [Act.put, sIA, sC0, sCS, i64_w, i32_w]; rfl
 refine pure_ (i := 13) (N := some 46) (v := ?_) (a' := ?_) #[true, true, true, true, true, true, true, true, true, true, true, true, true, true, false, false, false, false, false, false, false, false, false, false, false, false, false, false, false, false, false, false, false, false, false, false, false, false, false, false, false, false, false, false, false, false, false, false] rfl rfl (any_of HT_.out (by kernel_rfl)) (fun _ _ _ h => h) (Or.inl ⟨by rfl, ?_⟩) ?_ ?_; rotate_left
 · intro w'; go_simp; with_reducible rfl
 rotate_left
 · simp only [Act.put, sIA, sC0, sCS, i64_w, i32_w]; rfl
 refine pure_ (i := 14) (N := some 47) (v := ?_) (a' := ?_) #[true, true, true, true, true, true, true, true, true, true, true, true, true, true, true, false, false, false, false, false, false, false, false, false, false, false, false, false, false, false, false, false, false, false, false, false, false, false, false, false, false, false, false, false, false, false, false, false] rfl rfl (any_of HT_.out (by kernel_rfl)) (fun _ _ _ h => h) (Or.inl ⟨by rfl, ?_⟩) ?_ ?_; rotate_left
 · intro w'; go_simp; with_reducible rfl
 rotate_left
 · simp only [Act.put, sIA, sC0, sCS, i64_w, i32_w]; rfl
 refine pure_ (i := 15) (N := some 48) (v := ?_) (a' := ?_) #[true, true, true, true, true, true, true, true, true, true, true, true, true, true, true, true, false, false, false, false, false, false, false, false, false, false, false, false, false, false, false, false, false, false, false, false, false, false, false, false, false, false, false, false, false, false, false, false] rfl rfl (any_of HT_.out (by kernel_rfl)) (fun _ _ _ h => h) (Or.inl ⟨by rfl, ?_⟩) ?_ ?_; rotate_left
 · intro w'; go_simp; with_reducible rfl
 rotate_left
 · simp only [Act.put, sIA, sC0, sCS, i64_w, i32_w]; rfl
 refine pure_ (i := 16) (N := some 49) (v := ?_) (a' := ?_) #[true, true, true, true, true, true, true, true, true, true, true, true, true, true, true, true, true, false, false, false, false, false, false, false, false, false, false, false, false, false, false, false, false, false, false, false, false, false, false, false, false, false, false, false, false, false, false, false] rfl rfl (any_of HT_.out (by kernel_rfl)) (fun _ _ _ h => h) (Or.inl ⟨by rfl, ?_⟩) ?_ ?_; rotate_left
 · intro w'; go_simp; with_reducible rfl
 rotate_left
 · simp only [Act.put, sIA, sC0, sCS, i64_w, i32_w]; rfl
 refine pure_ (i := 17) (N := some 50) (v := ?_) (a' := ?_) #[true, true, true, true, true, true, true, true, true, true, true, true, true, true, true, true, true, true, false, false, false, false, false, false, false, false, false, false, false, false, false, false, false, false, false, false, false, false, false, false, false, false, false, false, false, false, false, false] rfl rfl (any_of HT_.out (by kernel_rfl)) (fun _ _ _ h => h) (Or.inl ⟨by rfl, ?_⟩) ?_ ?_; rotate_left
 · intro w'; go_simp; with_reducible rfl
 rotate_left
 · simp only [Act.put, sIA, sC0, sCS, i64_w, i32_w]; rfl
 refine pure_ (i := 18) (N := some 51) (v := ?_) (a' := ?_) #[true, true, true, true, true, true, true, true, true, true, true, true, true, true, true, true, true, true, true, false, false, false, false, false, false, false, false, false, false, false, false, false, false, false, false, false, false, false, false, false, false, false, false, false, false, false, false, false] rfl rfl (any_of HT_.out (by kernel_rfl)) (fun _ _ _ h => h) (Or.inl ⟨by rfl, ?_⟩) ?_ ?_; rotate_left
 · intro w'; go_simp; with_reducible rfl
 rotate_left
 · simp only [Act.put, sIA, sC0, sCS, i64_w, i32_w]; rfl
 refine pure_ (i := 19) (N := some 52) (v := ?_) (a' := ?_) #[true, true, true, true, true, true, true, true, true, true, true, true, true, true, true, true, true, true, true, true, false, false, false, false, false, false, false, false, false, false, false, false, false, false, false, false, false, false, false, false, false, false, false, false, false, false, false, false] rfl rfl (any_of HT_.out (by kernel_rfl)) (fun _ _ _ h => h) (Or.inl ⟨by rfl, ?_⟩) ?_ ?_; rotate_left
 · intro w'; go_simp; with_reducible rfl
 rotate_left
 · simp only [Act.put, sIA, sC0, sCS, i64_w, i32_w]; rfl
 refine pure_ (i := 20) (N := some 53) (v := ?_) (a' := ?_) #[true, true, true, true, true, true, true, true, true, true, true, true, true, true, true, true, true, true, true, true, true, false, false, false, false, false, false, false, false, false, false, false, false, false, false, false, false, false, false, false, false, false, false, false, false, false, false, false] rfl rfl (any_of HT_.out (by kernel_rfl)) (fun _ _ _ h => h) (Or.inl ⟨by rfl, ?_⟩) ?_ ?_; rotate_left
 · intro w'; go_simp; with_reducible rfl
 rotate_left
 · simp only [Act.put, sIA, sC0, sCS, i64_w, i32_w]; rfl
 refine pure_ (i := 21) (N := some 54) (v := ?_) (a' := ?_) #[true, true, true, true, true, true, true, true, true, true, true, true, true, true, true, true, true, true, true, true, true, true, false, false, false, false, false, false, false, false, false, false, false, false, false, false, false, false, false, false, false, false, false, false, false, false, false, false] rfl rfl (any_of HT_.out (by kernel_rfl)) (fun _ _ _ h => h) (Or.inl ⟨by rfl, ?_⟩) ?_ ?_; rotate_left
 · intro w'; go_simp; with_reducible rfl
 rotate_left
 · simp only [Act.put, sIA, sC0, sCS, i64_w, i32_w]; rfl
 refine pure_ (i := 22) (N := some 55) (v := ?_) (a' := ?_) #[true, true, true, true, true, true, true, true, true, true, true, true, true, true, true, true, true, true, true, true, true, true, true, false, false, false, false, false, false, false, false, false, false, false, false, false, false, false, false, false, false, false, false, false, false, false, false, false] rfl rfl (any_of HT_.out (by kernel_rfl)) (fun _ _ _ h => h) (Or.inl ⟨by rfl, ?_⟩) ?_ ?_; rotate_left
 · intro w'; go_simp; with_reducible rfl
 rotate_left
 · simp only [Act.put, sIA, sC0, sCS, i64_w, i32_w]; rfl
 refine pure_ (i := 23) (N := some 56) (v := ?_) (a' := ?_) #[true, true, true, true, true, true, true, true, true, true, true, true, true, true, true, true, true, true, true, true, true, true, true, true, false, false, false, false, false, false, false, false, false, false, false, false, false, false, false, false, false, false, false, false, false, false, false, false] rfl rfl (any_of HT_.out (by kernel_rfl)) (fun _ _ _ h => h) (Or.inl ⟨by rfl, ?_⟩) ?_ ?_; rotate_left
 · intro w'; go_simp; with_reducible rfl
 rotate_left
 · simp only [Act.put, sIA, sC0, sCS, i64_w, i32_w]; rfl
 refine pure_ (i := 24) (N := some 57) (v := ?_) (a' := ?_) #[true, true, true, true, true, true, true, true, true, true, true, true, true, true, true, true, true, true, true, true, true, true, true, true, true, false, false, false, false, false, false, false, false, false, false, false, false, false, false, false, false, false, false, false, false, false, false, false] rfl rfl (any_of HT_.out (by kernel_rfl)) (fun _ _ _ h => h) (Or.inl ⟨by rfl, ?_⟩) ?_ ?_; rotate_left
 · intro w'; go_simp; with_reducible rfl
 rotate_left
 · simp only [Act.put, sIA, sC0, sCS, i64_w, i32_w]; rfl
 refine pure_ (i := 25) (N := some 58) (v := ?_) (a' := ?_) #[true, true, true, true, true, true, true, true, true, true, true, true, true, true, true, true, true, true, true, true, true, true, true, true, true, true, false, false, false, false, false, false, false, false, false, false, false, false, false, false, false, false, false, false, false, false, false, false] rfl rfl (any_of HT_.out (by kernel_rfl)) (fun _ _ _ h => h) (Or.inl ⟨by rfl, ?_⟩) ?_ ?_; rotate_left
 · intro w'; go_simp; with_reducible rfl
 rotate_left
 · simp only [Act.put, sIA, sC0, sCS, i64_w, i32_w]; rfl
 refine pure_ (i := 26) (N := some 59) (v := ?_) (a' := ?_) #[true, true, true, true, true, true, true, true, true, true, true, true, true, true, true, true, true, true, true, true, true, true, true, true, true, true, true, false, false, false, false, false, false, false, false, false, false, false, false, false, false, false, false, false, false, false, false, false] rfl rfl (any_of HT_.out (by kernel_rfl)) (fun _ _ _ h => h) (Or.inl ⟨by rfl, ?_⟩) ?_ ?_; rotate_left
 · intro w'; go_simp; with_reducible rfl
 rotate_left
 · simp only [Act.put, sIA, sC0, sCS, i64_w, i32_w]; rfl
 refine pure_ (i := 27) (N := some 60) (v := ?_) (a' := ?_) #[true, true, true, true, true, true, true, true, true, true, true, true, true, true, true, true, true, true, true, true, true, true, true, true, true, true, true, true, false, false, false, false, false, false, false, false, false, false, false, false, false, false, false, false, false, false, false, false] rfl rfl (any_of HT_.out (by kernel_rfl)) (fun _ _ _ h => h) (Or.inl ⟨by rfl, ?_⟩) ?_ ?_; rotate_left
 · intro w'; go_simp; with_reducible rfl
 rotate_left
 · simp only [Act.put, sIA, sC0, sCS, i64_w, i32_w]; rfl
 refine one_ (i := 28) (N := some 61) #[true, true, true, true, true, true, true, true, true, true, true, true, true, true, true, true, true, true, true, true, true, true, true, true, true, true, true, true, true, false, false, false, false, false, false, false, false, false, false, false, false, false, false, false, false, false, false, false] rfl rfl (one_of HT_.out (by kernel_rfl)) (by decide) (fun K hK => ?_); refine goes_ Tryd.func31 (by kernel_rfl) rfl #[] (by rfl) rfl rfl (by (try simp only [List.map_toArray, List.map_cons, List.map_nil]); first | done | rfl | (simp only [List.length_drop, List.length_take]; rfl)) ?_; with_reducible refine (spilelaw09_Barrel.calls  (⟨#[65, 45, 49]⟩ : ByteArray) 1 [(⟨0, 300⟩ : S46), (⟨500, 400⟩ : S46), (⟨1000, 300⟩ : S46)] 500 _ A8.out).mono ?_
 rintro e w36 ⟨v168, rfl, ho0, hb⟩; refine ⟨_, rfl, ?_⟩; have n0_ := Aside0.mk (Kd.N_elder' (by (with_reducible repeat (first | apply Kd.N_alloc | apply Kd.N_drewN | apply Kd.N_drew)); exact HO155.out) (Kd.R_base ho0) hb); have n1_ := Aside0.mk (Kd.N_elder' (by (with_reducible repeat (first | apply Kd.N_alloc | apply Kd.N_drewN | apply Kd.N_drew)); exact HO157.out) (Kd.R_base ho0) hb); have n2_ := Aside0.mk (Kd.R_elder' (by (with_reducible repeat (first | apply Kd.R_alloc | apply Kd.R_drewN | apply Kd.R_drew)); exact HO159.out) (Kd.R_base ho0) hb); have n3_ := Aside0.mk (Kd.N_elder' (by (with_reducible repeat (first | apply Kd.N_alloc | apply Kd.N_drewN | apply Kd.N_drew)); exact HO164.out) (Kd.R_base ho0) hb); have n4_ := Aside0.mk (Kd.R_elder' (by (with_reducible repeat (first | apply Kd.R_alloc | apply Kd.R_drewN | apply Kd.R_drew)); exact HO166.out) (Kd.R_base ho0) hb); have n5_ := Aside0.mk (Kd.R_lower (Kd.R_new' (Kd.R_new' ho0 (Kd.R_lt (by (with_reducible repeat (first | apply Kd.R_alloc | apply Kd.R_drewN | apply Kd.R_drew)); exact HO159.out))) (Kd.R_lt (by (with_reducible repeat (first | apply Kd.R_alloc | apply Kd.R_drewN | apply Kd.R_drew)); exact HO166.out))) (below_size (by repeat (first | (with_reducible first | exact HB.out | apply below_alloc | apply pw_below_drewN | apply below_drew1 | refine below_set ?_ GE167.out) | exact HB.out)))); have n6_ := Aside0.mk (blk_below (g := gb167) (o := .cells #[.string (⟨#[65, 45, 49]⟩ : ByteArray), .int .i64 1, .slice Ao33 [(⟨0, 300⟩ : S46), (⟨500, 400⟩ : S46), (⟨1000, 300⟩ : S46)].length co33, .int .i64 500] 27 (0, 0)) (by (with_reducible repeat (first | refine blk_drewN ?_ _ | refine blk_drew ?_ | refine blk_alloc ?_ _)); exact BK167.out) hb); have n7_ := Aside0.mk (below_step (by repeat (first | (with_reducible first | exact HB.out | apply below_alloc | apply pw_below_drewN | apply below_drew1 | refine below_set ?_ GE167.out) | exact HB.out)) hb); clear HO155; clear HO157; clear HO159; clear HO164; clear HO166; clear BK167; clear HB; have HO155 := n0_; have HO157 := n1_; have HO159 := n2_; have HO164 := n3_; have HO166 := n4_; have HO169 := n5_; have BK167 := n6_; have HB := n7_; clear n0_ n1_ n2_ n3_ n4_ n5_ n6_ n7_; (try clear hb)
 (try clear hb2)
 (try clear hk)
 (try clear hi)
 (try clear ho0)
 obtain ⟨Ao37, co37, eo37⟩ := Kd.R_slice HO169.out; (first | subst eo37 | (injection eo37 with f1_ f2_ f3_; have f4_ := f1_.symm; have f5_ := f3_.symm; clear f1_ f2_ f3_; subst f4_; subst f5_))
 refine hK.out _ _ ⟨(blk_cell BK167.out 0).trans rfl, (blk_cell BK167.out 1).trans rfl, (blk_cell BK167.out 2).trans rfl, (blk_cell BK167.out 3).trans rfl⟩ (fun hHeld => ?_); clear hK K; refine norm_ (a' := ?_) ?_ ?_; rotate_left
 ·
  show Act.put _ (some 61) _ = _
  simp only [Act.put, sIA, sC0, sCS, i64_w, i32_w]; rfl
 refine one_ (i := 29) (N := some 62) #[true, true, true, true, true, true, true, true, true, true, true, true, true, true, true, true, true, true, true, true, true, true, true, true, true, true, true, true, true, true, false, false, false, false, false, false, false, false, false, false, false, false, false, false, false, false, false, false] rfl rfl (one_of HT_.out (by kernel_rfl)) (by decide) (fun K hK => ?_); refine Kd.N_lit_step k27 _ 27 ?hg (N' := 62) ?hd (xs := ([(⟨(⟨#[65, 45, 49]⟩ : ByteArray), 1, [(⟨0, 300⟩ : S46), (⟨500, 400⟩ : S46), (⟨1000, 300⟩ : S46)], 500⟩ : S27)] : List (S27))) (inner := [.string (⟨#[65, 45, 49]⟩ : ByteArray), .int .i64 1, .slice Ao37 [(⟨0, 300⟩ : S46), (⟨500, 400⟩ : S46), (⟨1000, 300⟩ : S46)].length co37, .int .i64 500]) (ok := (fun k_ => some k_ ≠ (.slice Ao19 y153.length co19 : Value).ownBlock ∧ some k_ ≠ (v156 : Value).ownBlock ∧ some k_ ≠ (.slice Ao23 [(⟨0, 300⟩ : S46), (⟨500, 400⟩ : S46), (⟨1000, 300⟩ : S46)].length co23 : Value).ownBlock ∧ some k_ ≠ (.slice Ao29 y162.length co29 : Value).ownBlock ∧ some k_ ≠ (.slice Ao33 [(⟨0, 300⟩ : S46), (⟨500, 400⟩ : S46), (⟨1000, 300⟩ : S46)].length co33 : Value).ownBlock ∧ k_ ≠ gb167)) (okp := (fun k_ => some k_ ≠ (.slice Ao19 y153.length co19 : Value).ownBlock ∧ some k_ ≠ (v156 : Value).ownBlock ∧ some k_ ≠ (.slice Ao23 [(⟨0, 300⟩ : S46), (⟨500, 400⟩ : S46), (⟨1000, 300⟩ : S46)].length co23 : Value).ownBlock ∧ some k_ ≠ (.slice Ao29 y162.length co29 : Value).ownBlock ∧ some k_ ≠ (.slice Ao33 [(⟨0, 300⟩ : S46), (⟨500, 400⟩ : S46), (⟨1000, 300⟩ : S46)].length co33 : Value).ownBlock ∧ k_ ≠ gb167)) ?hr ?hp (fun _ hk => hk) ((show ∀ k_, w36.heap.size ≤ k_ → (fun k_ => some k_ ≠ (.slice Ao19 y153.length co19 : Value).ownBlock ∧ some k_ ≠ (v156 : Value).ownBlock ∧ some k_ ≠ (.slice Ao23 [(⟨0, 300⟩ : S46), (⟨500, 400⟩ : S46), (⟨1000, 300⟩ : S46)].length co23 : Value).ownBlock ∧ some k_ ≠ (.slice Ao29 y162.length co29 : Value).ownBlock ∧ some k_ ≠ (.slice Ao33 [(⟨0, 300⟩ : S46), (⟨500, 400⟩ : S46), (⟨1000, 300⟩ : S46)].length co33 : Value).ownBlock ∧ k_ ≠ gb167) k_ from fun k_ hk => ⟨Kd.fresh' (Kd.N_lt (by (with_reducible repeat (first | apply Kd.N_alloc | apply Kd.N_drewN | apply Kd.N_drew)); exact HO155.out)) k_ hk, Kd.fresh' (Kd.N_lt (by (with_reducible repeat (first | apply Kd.N_alloc | apply Kd.N_drewN | apply Kd.N_drew)); exact HO157.out)) k_ hk, Kd.fresh' (Kd.R_lt (by (with_reducible repeat (first | apply Kd.R_alloc | apply Kd.R_drewN | apply Kd.R_drew)); exact HO159.out)) k_ hk, Kd.fresh' (Kd.N_lt (by (with_reducible repeat (first | apply Kd.N_alloc | apply Kd.N_drewN | apply Kd.N_drew)); exact HO164.out)) k_ hk, Kd.fresh' (Kd.R_lt (by (with_reducible repeat (first | apply Kd.R_alloc | apply Kd.R_drewN | apply Kd.R_drew)); exact HO166.out)) k_ hk, Kd.freshB (g := gb167) (o := .cells #[.string (⟨#[65, 45, 49]⟩ : ByteArray), .int .i64 1, .slice Ao33 [(⟨0, 300⟩ : S46), (⟨500, 400⟩ : S46), (⟨1000, 300⟩ : S46)].length co33, .int .i64 500] 27 (0, 0)) (by (with_reducible repeat (first | refine blk_drewN ?_ _ | refine blk_drew ?_ | refine blk_alloc ?_ _)); exact BK167.out) k_ hk⟩) _ (Nat.le_refl _)) (Below.refl _ _) (Nat.le_refl _) (by simp) ?_; (case hd => rfl); (case hg => rfl); (case hr => first | (go_simp; done) | (go_simp; rfl)); (case hp => exact (Reps.c4 (show Kd.FK k27 _ _ (⟨(⟨#[65, 45, 49]⟩ : ByteArray), 1, [(⟨0, 300⟩ : S46), (⟨500, 400⟩ : S46), (⟨1000, 300⟩ : S46)], 500⟩ : S27) [.string (⟨#[65, 45, 49]⟩ : ByteArray), .int .i64 1, .slice Ao37 [(⟨0, 300⟩ : S46), (⟨500, 400⟩ : S46), (⟨1000, 300⟩ : S46)].length co37, .int .i64 500] from (k27_mkF _ _ (⟨(⟨#[65, 45, 49]⟩ : ByteArray), 1, [(⟨0, 300⟩ : S46), (⟨500, 400⟩ : S46), (⟨1000, 300⟩ : S46)], 500⟩ : S27) (Kd.R_reads' (Kd.R_mono (ok' := (fun k_ => some k_ ≠ (.slice Ao19 y153.length co19 : Value).ownBlock ∧ some k_ ≠ (v156 : Value).ownBlock ∧ some k_ ≠ (.slice Ao23 [(⟨0, 300⟩ : S46), (⟨500, 400⟩ : S46), (⟨1000, 300⟩ : S46)].length co23 : Value).ownBlock ∧ some k_ ≠ (.slice Ao29 y162.length co29 : Value).ownBlock ∧ some k_ ≠ (.slice Ao33 [(⟨0, 300⟩ : S46), (⟨500, 400⟩ : S46), (⟨1000, 300⟩ : S46)].length co33 : Value).ownBlock ∧ k_ ≠ gb167)) (Kd.R_types (Kd.R_apart' (Kd.R_apart' (Kd.R_apart' (HO169.out) (Kd.N_typed HO155.out) (by decide)) (Kd.N_typed HO157.out) (by decide)) (Kd.N_typed HO164.out) (by decide)) BK167.out (by decide)) (fun k_ hk => ⟨hk.1.1.1.2, ⟨hk.1.1.2, ⟨hk.1.1.1.1.1.2, ⟨hk.1.2, ⟨hk.1.1.1.1.2, hk.2⟩⟩⟩⟩⟩))).2.1 (Kd.R_F (Kd.R_mono (ok' := (fun k_ => some k_ ≠ (.slice Ao19 y153.length co19 : Value).ownBlock ∧ some k_ ≠ (v156 : Value).ownBlock ∧ some k_ ≠ (.slice Ao23 [(⟨0, 300⟩ : S46), (⟨500, 400⟩ : S46), (⟨1000, 300⟩ : S46)].length co23 : Value).ownBlock ∧ some k_ ≠ (.slice Ao29 y162.length co29 : Value).ownBlock ∧ some k_ ≠ (.slice Ao33 [(⟨0, 300⟩ : S46), (⟨500, 400⟩ : S46), (⟨1000, 300⟩ : S46)].length co33 : Value).ownBlock ∧ k_ ≠ gb167)) (Kd.R_types (Kd.R_apart' (Kd.R_apart' (Kd.R_apart' (HO169.out) (Kd.N_typed HO155.out) (by decide)) (Kd.N_typed HO157.out) (by decide)) (Kd.N_typed HO164.out) (by decide)) BK167.out (by decide)) (fun k_ hk => ⟨hk.1.1.1.2, ⟨hk.1.1.2, ⟨hk.1.1.1.1.1.2, ⟨hk.1.2, ⟨hk.1.1.1.1.2, hk.2⟩⟩⟩⟩⟩))))) (Reps.none _ _)))
 intro v171 w38 ho39 hb hg_ hnew_; clear hg_ hnew_; (first | rw [← Ny170.out] at ho39 | (simp only [Int.reduceToNat] at ho39; rw [← Ny170.out] at ho39))
 have n0_ := Aside0.mk (Kd.N_elder' (by (with_reducible repeat (first | apply Kd.N_alloc | apply Kd.N_drewN | apply Kd.N_drew)); exact HO155.out) (Kd.N_base ho39) hb); have n1_ := Aside0.mk (Kd.N_elder' (by (with_reducible repeat (first | apply Kd.N_alloc | apply Kd.N_drewN | apply Kd.N_drew)); exact HO157.out) (Kd.N_base ho39) hb); have n2_ := Aside0.mk (Kd.R_below (by (with_reducible repeat (first | apply Kd.R_alloc | apply Kd.R_drewN | apply Kd.R_drew)); exact HO159.out) hb); have n3_ := Aside0.mk (Kd.N_elder' (by (with_reducible repeat (first | apply Kd.N_alloc | apply Kd.N_drewN | apply Kd.N_drew)); exact HO164.out) (Kd.N_base ho39) hb); have n4_ := Aside0.mk (Kd.R_below (by (with_reducible repeat (first | apply Kd.R_alloc | apply Kd.R_drewN | apply Kd.R_drew)); exact HO166.out) hb); have n5_ := Aside0.mk (Kd.N_lower ho39 (below_size (by repeat (first | (with_reducible first | exact HB.out | apply below_alloc | apply pw_below_drewN | apply below_drew1 | refine below_set ?_ GE167.out) | exact HB.out)))); have n6_ := Aside0.mk (blk_below (g := gb167) (o := .cells #[.string (⟨#[65, 45, 49]⟩ : ByteArray), .int .i64 1, .slice Ao33 [(⟨0, 300⟩ : S46), (⟨500, 400⟩ : S46), (⟨1000, 300⟩ : S46)].length co33, .int .i64 500] 27 (0, 0)) (by (with_reducible repeat (first | refine blk_drewN ?_ _ | refine blk_drew ?_ | refine blk_alloc ?_ _)); exact BK167.out) hb); have n7_ := Aside0.mk (below_step (by repeat (first | (with_reducible first | exact HB.out | apply below_alloc | apply pw_below_drewN | apply below_drew1 | refine below_set ?_ GE167.out) | exact HB.out)) hb); clear HO155; clear HO157; clear HO159; clear HO164; clear HO166; clear BK167; clear HB; clear HO169; have HO155 := n0_; have HO157 := n1_; have HO159 := n2_; have HO164 := n3_; have HO166 := n4_; have HO172 := n5_; have BK167 := n6_; have HB := n7_; clear n0_ n1_ n2_ n3_ n4_ n5_ n6_ n7_; clear hb ho39; obtain ⟨Ao40, co40, eo40⟩ := Kd.N_slice HO157.out; (first | subst eo40 | (injection eo40 with f1_ f2_ f3_; have f4_ := f1_.symm; have f5_ := f3_.symm; clear f1_ f2_ f3_; subst f4_; subst f5_))
 obtain ⟨Ao41, co41, eo41⟩ := Kd.N_slice HO172.out; (first | subst eo41 | (injection eo41 with f1_ f2_ f3_; have f4_ := f1_.symm; have f5_ := f3_.symm; clear f1_ f2_ f3_; subst f4_; subst f5_))
 refine hK.out _ _ ⟨(blk_cell BK167.out 0).trans rfl, (blk_cell BK167.out 1).trans rfl, (blk_cell BK167.out 2).trans rfl, (blk_cell BK167.out 3).trans rfl⟩ (fun hHeld => ?_); clear hK K; refine norm_ (a' := ?_) ?_ ?_; rotate_left
 ·
  show Act.put _ (some 62) _ = _
  simp only [Act.put, sIA, sC0, sCS, i64_w, i32_w]; rfl
 refine one_ (i := 30) (N := some 63) #[true, true, true, true, true, true, true, true, true, true, true, true, true, true, true, true, true, true, true, true, true, true, true, true, true, true, true, true, true, true, true, false, false, false, false, false, false, false, false, false, false, false, false, false, false, false, false, false] rfl rfl (one_of HT_.out (by kernel_rfl)) (by decide) (fun K hK => ?_); refine goes_ Tryd.func26 (by kernel_rfl) rfl #[.slice Ao40 [(⟨(⟨#[65, 45, 49]⟩ : ByteArray), 1, [(⟨0, 300⟩ : S46), (⟨500, 400⟩ : S46), (⟨1000, 300⟩ : S46)], 500⟩ : S27)].length co40, .slice Ao41 y170.length co41] (by rfl) rfl rfl (by (try simp only [List.map_toArray, List.map_cons, List.map_nil]); first | done | rfl | (simp only [List.length_drop, List.length_take]; rfl)) ?_; with_reducible refine (spileref09_Same.calls 400 _ _ [(⟨(⟨#[65, 45, 49]⟩ : ByteArray), 1, [(⟨0, 300⟩ : S46), (⟨500, 400⟩ : S46), (⟨1000, 300⟩ : S46)], 500⟩ : S27)] _ _ y170 true _ ?side1 ?side2 ?side3 ?side4 A9.out).mono ?_
 (case side1 => repeat (first | exact (Kd.N_reads' HO157.out).2.2 | (with_reducible refine Kd.C_alloc ?_ _) | (with_reducible refine Kd.C_drewN ?_ _) | (with_reducible refine Kd.C_drew ?_)))
 (case side2 => exact (Kd.N_reads' HO157.out).2.1)
 (case side3 => repeat (first | exact (Kd.N_reads' HO172.out).2.2 | (with_reducible refine Kd.C_alloc ?_ _) | (with_reducible refine Kd.C_drewN ?_ _) | (with_reducible refine Kd.C_drew ?_)))
 (case side4 => exact (Kd.N_reads' HO172.out).2.1)
 rintro e w42 ⟨rfl, hb⟩; refine ⟨_, rfl, ?_⟩; have n0_ := Aside0.mk (Kd.N_below (by (with_reducible repeat (first | apply Kd.N_alloc | apply Kd.N_drewN | apply Kd.N_drew)); exact HO155.out) hb); have n1_ := Aside0.mk (Kd.N_below (by (with_reducible repeat (first | apply Kd.N_alloc | apply Kd.N_drewN | apply Kd.N_drew)); exact HO157.out) hb); have n2_ := Aside0.mk (Kd.R_below (by (with_reducible repeat (first | apply Kd.R_alloc | apply Kd.R_drewN | apply Kd.R_drew)); exact HO159.out) hb); have n3_ := Aside0.mk (Kd.N_below (by (with_reducible repeat (first | apply Kd.N_alloc | apply Kd.N_drewN | apply Kd.N_drew)); exact HO164.out) hb); have n4_ := Aside0.mk (Kd.R_below (by (with_reducible repeat (first | apply Kd.R_alloc | apply Kd.R_drewN | apply Kd.R_drew)); exact HO166.out) hb); have n5_ := Aside0.mk (Kd.N_below (by (with_reducible repeat (first | apply Kd.N_alloc | apply Kd.N_drewN | apply Kd.N_drew)); exact HO172.out) hb); have n6_ := Aside0.mk (blk_below (g := gb167) (o := .cells #[.string (⟨#[65, 45, 49]⟩ : ByteArray), .int .i64 1, .slice Ao33 [(⟨0, 300⟩ : S46), (⟨500, 400⟩ : S46), (⟨1000, 300⟩ : S46)].length co33, .int .i64 500] 27 (0, 0)) (by (with_reducible repeat (first | refine blk_drewN ?_ _ | refine blk_drew ?_ | refine blk_alloc ?_ _)); exact BK167.out) hb); have n7_ := Aside0.mk (below_step (by repeat (first | (with_reducible first | exact HB.out | apply below_alloc | apply pw_below_drewN | apply below_drew1 | refine below_set ?_ GE167.out) | exact HB.out)) hb); clear HO155; clear HO157; clear HO159; clear HO164; clear HO166; clear HO172; clear BK167; clear HB; have HO155 := n0_; have HO157 := n1_; have HO159 := n2_; have HO164 := n3_; have HO166 := n4_; have HO172 := n5_; have BK167 := n6_; have HB := n7_; clear n0_ n1_ n2_ n3_ n4_ n5_ n6_ n7_; (try clear hb)
 (try clear hb2)
 (try clear hk)
 (try clear hi)
 refine hK.out _ _ ⟨(blk_cell BK167.out 0).trans rfl, (blk_cell BK167.out 1).trans rfl, (blk_cell BK167.out 2).trans rfl, (blk_cell BK167.out 3).trans rfl⟩ (fun hHeld => ?_); clear hK K; refine norm_ (a' := ?_) ?_ ?_; rotate_left
 ·
  show Act.put _ (some 63) _ = _
  simp only [Act.put, sIA, sC0, sCS, i64_w, i32_w]; rfl
 refine pure_ (i := 31) (N := some 64) (v := ?_) (a' := ?_) #[true, true, true, true, true, true, true, true, true, true, true, true, true, true, true, true, true, true, true, true, true, true, true, true, true, true, true, true, true, true, true, true, false, false, false, false, false, false, false, false, false, false, false, false, false, false, false, false] rfl rfl (any_of HT_.out (by kernel_rfl)) (fun _ _ _ h => h) (Or.inl ⟨by rfl, ?_⟩) ?_ ?_; rotate_left
 · intro w'; go_simp; with_reducible rfl
 rotate_left
 · simp only [Act.put, sIA, sC0, sCS, i64_w, i32_w]; rfl
 refine pure_ (i := 32) (N := some 65) (v := ?_) (a' := ?_) #[true, true, true, true, true, true, true, true, true, true, true, true, true, true, true, true, true, true, true, true, true, true, true, true, true, true, true, true, true, true, true, true, true, false, false, false, false, false, false, false, false, false, false, false, false, false, false, false] rfl rfl (any_of HT_.out (by kernel_rfl)) (fun _ _ _ h => h) (Or.inl ⟨by rfl, ?_⟩) ?_ ?_; rotate_left
 · intro w'; go_simp; with_reducible rfl
 rotate_left
 · simp only [Act.put, sIA, sC0, sCS, i64_w, i32_w]; rfl
 refine take_ (i := 33) (N := some 66) (v := ?_) (a' := ?_) #[true, true, true, true, true, true, true, true, true, true, true, true, true, true, true, true, true, true, true, true, true, true, true, true, true, true, true, true, true, true, true, true, true, true, false, false, false, false, false, false, false, false, false, false, false, false, false, false] rfl rfl (take_ofW HT_.out HW_.out (by kernel_rfl)) (fun _ _ _ h => h) (Or.inl ⟨by rfl, ?_⟩) hHeld ?_ ?_; rotate_left
 · rintro w' ⟨s0, s1, s2, s3⟩; go_simp; with_reducible rfl
 rotate_left
 · simp only [Act.put, sIA, sC0, sCS, i64_w, i32_w]; rfl
 refine one_ (i := 34) (N := some 67) #[true, true, true, true, true, true, true, true, true, true, true, true, true, true, true, true, true, true, true, true, true, true, true, true, true, true, true, true, true, true, true, true, true, true, true, false, false, false, false, false, false, false, false, false, false, false, false, false] rfl rfl (one_of HT_.out (by kernel_rfl)) (by decide) (fun K hK => ?_); refine goes_ Tryd.func31 (by kernel_rfl) rfl #[] (by rfl) rfl rfl (by (try simp only [List.map_toArray, List.map_cons, List.map_nil]); first | done | rfl | (simp only [List.length_drop, List.length_take]; rfl)) ?_; with_reducible refine (spilelaw09_Barrel.calls  (⟨#[65, 45, 49]⟩ : ByteArray) 1 [(⟨0, 300⟩ : S46), (⟨500, 400⟩ : S46), (⟨1000, 300⟩ : S46)] 500 _ A10.out).mono ?_
 rintro e w43 ⟨v173, rfl, ho0, hb⟩; refine ⟨_, rfl, ?_⟩; have n0_ := Aside0.mk (Kd.N_elder' (by (with_reducible repeat (first | apply Kd.N_alloc | apply Kd.N_drewN | apply Kd.N_drew)); exact HO155.out) (Kd.R_base ho0) hb); have n1_ := Aside0.mk (Kd.N_elder' (by (with_reducible repeat (first | apply Kd.N_alloc | apply Kd.N_drewN | apply Kd.N_drew)); exact HO157.out) (Kd.R_base ho0) hb); have n2_ := Aside0.mk (Kd.R_elder' (by (with_reducible repeat (first | apply Kd.R_alloc | apply Kd.R_drewN | apply Kd.R_drew)); exact HO159.out) (Kd.R_base ho0) hb); have n3_ := Aside0.mk (Kd.N_elder' (by (with_reducible repeat (first | apply Kd.N_alloc | apply Kd.N_drewN | apply Kd.N_drew)); exact HO164.out) (Kd.R_base ho0) hb); have n4_ := Aside0.mk (Kd.R_elder' (by (with_reducible repeat (first | apply Kd.R_alloc | apply Kd.R_drewN | apply Kd.R_drew)); exact HO166.out) (Kd.R_base ho0) hb); have n5_ := Aside0.mk (Kd.N_elder' (by (with_reducible repeat (first | apply Kd.N_alloc | apply Kd.N_drewN | apply Kd.N_drew)); exact HO172.out) (Kd.R_base ho0) hb); have n6_ := Aside0.mk (Kd.R_lower (Kd.R_new' (Kd.R_new' ho0 (Kd.R_lt (by (with_reducible repeat (first | apply Kd.R_alloc | apply Kd.R_drewN | apply Kd.R_drew)); exact HO159.out))) (Kd.R_lt (by (with_reducible repeat (first | apply Kd.R_alloc | apply Kd.R_drewN | apply Kd.R_drew)); exact HO166.out))) (below_size (by repeat (first | (with_reducible first | exact HB.out | apply below_alloc | apply pw_below_drewN | apply below_drew1 | refine below_set ?_ GE167.out) | exact HB.out)))); have n7_ := Aside0.mk (blk_below (g := gb167) (o := .cells #[.string (⟨#[65, 45, 49]⟩ : ByteArray), .int .i64 1, .slice Ao33 [(⟨0, 300⟩ : S46), (⟨500, 400⟩ : S46), (⟨1000, 300⟩ : S46)].length co33, .int .i64 500] 27 (0, 0)) (by (with_reducible repeat (first | refine blk_drewN ?_ _ | refine blk_drew ?_ | refine blk_alloc ?_ _)); exact BK167.out) hb); have n8_ := Aside0.mk (below_step (by repeat (first | (with_reducible first | exact HB.out | apply below_alloc | apply pw_below_drewN | apply below_drew1 | refine below_set ?_ GE167.out) | exact HB.out)) hb); clear HO155; clear HO157; clear HO159; clear HO164; clear HO166; clear HO172; clear BK167; clear HB; have HO155 := n0_; have HO157 := n1_; have HO159 := n2_; have HO164 := n3_; have HO166 := n4_; have HO172 := n5_; have HO174 := n6_; have BK167 := n7_; have HB := n8_; clear n0_ n1_ n2_ n3_ n4_ n5_ n6_ n7_ n8_; (try clear hb)
 (try clear hb2)
 (try clear hk)
 (try clear hi)
 (try clear ho0)
 obtain ⟨Ao44, co44, eo44⟩ := Kd.R_slice HO174.out; (first | subst eo44 | (injection eo44 with f1_ f2_ f3_; have f4_ := f1_.symm; have f5_ := f3_.symm; clear f1_ f2_ f3_; subst f4_; subst f5_))
 refine hK.out _ _ ⟨(blk_cell BK167.out 0).trans rfl, (blk_cell BK167.out 1).trans rfl, (blk_cell BK167.out 2).trans rfl, (blk_cell BK167.out 3).trans rfl⟩ (fun hHeld => ?_); clear hK K; refine norm_ (a' := ?_) ?_ ?_; rotate_left
 ·
  show Act.put _ (some 67) _ = _
  simp only [Act.put, sIA, sC0, sCS, i64_w, i32_w]; rfl
 refine one_ (i := 35) (N := some 68) #[true, true, true, true, true, true, true, true, true, true, true, true, true, true, true, true, true, true, true, true, true, true, true, true, true, true, true, true, true, true, true, true, true, true, true, true, false, false, false, false, false, false, false, false, false, false, false, false] rfl rfl (one_of HT_.out (by kernel_rfl)) (by decide) (fun K hK => ?_); refine goes_ Tryd.func15 (by kernel_rfl) rfl #[.agg #[.string (⟨#[65, 45, 49]⟩ : ByteArray), .int .i64 1, .slice Ao33 [(⟨0, 300⟩ : S46), (⟨500, 400⟩ : S46), (⟨1000, 300⟩ : S46)].length co33, .int .i64 500], .agg #[.string (⟨#[65, 45, 49]⟩ : ByteArray), .int .i64 1, .slice Ao44 [(⟨0, 300⟩ : S46), (⟨500, 400⟩ : S46), (⟨1000, 300⟩ : S46)].length co44, .int .i64 500]] (by rfl) rfl rfl (by (try simp only [List.map_toArray, List.map_cons, List.map_nil]); first | done | rfl | (simp only [List.length_drop, List.length_take]; rfl)) ?_; with_reducible refine (spileref09_SameCask.calls 400 (⟨#[65, 45, 49]⟩ : ByteArray) 1 _ _ [(⟨0, 300⟩ : S46), (⟨500, 400⟩ : S46), (⟨1000, 300⟩ : S46)] 500 (⟨#[65, 45, 49]⟩ : ByteArray) 1 _ _ [(⟨0, 300⟩ : S46), (⟨500, 400⟩ : S46), (⟨1000, 300⟩ : S46)] 500 true _ ?side1 ?side2 ?side3 ?side4 A11.out).mono ?_
 (case side1 => repeat (first | exact (Kd.R_reads' HO166.out).2.2 | (with_reducible refine Kd.C_alloc ?_ _) | (with_reducible refine Kd.C_drewN ?_ _) | (with_reducible refine Kd.C_drew ?_)))
 (case side2 => exact (Kd.R_reads' HO166.out).2.1)
 (case side3 => repeat (first | exact (Kd.R_reads' HO174.out).2.2 | (with_reducible refine Kd.C_alloc ?_ _) | (with_reducible refine Kd.C_drewN ?_ _) | (with_reducible refine Kd.C_drew ?_)))
 (case side4 => exact (Kd.R_reads' HO174.out).2.1)
 rintro e w45 ⟨rfl, hb⟩; refine ⟨_, rfl, ?_⟩; have n0_ := Aside0.mk (Kd.N_below (by (with_reducible repeat (first | apply Kd.N_alloc | apply Kd.N_drewN | apply Kd.N_drew)); exact HO155.out) hb); have n1_ := Aside0.mk (Kd.N_below (by (with_reducible repeat (first | apply Kd.N_alloc | apply Kd.N_drewN | apply Kd.N_drew)); exact HO157.out) hb); have n2_ := Aside0.mk (Kd.R_below (by (with_reducible repeat (first | apply Kd.R_alloc | apply Kd.R_drewN | apply Kd.R_drew)); exact HO159.out) hb); have n3_ := Aside0.mk (Kd.N_below (by (with_reducible repeat (first | apply Kd.N_alloc | apply Kd.N_drewN | apply Kd.N_drew)); exact HO164.out) hb); have n4_ := Aside0.mk (Kd.R_below (by (with_reducible repeat (first | apply Kd.R_alloc | apply Kd.R_drewN | apply Kd.R_drew)); exact HO166.out) hb); have n5_ := Aside0.mk (Kd.N_below (by (with_reducible repeat (first | apply Kd.N_alloc | apply Kd.N_drewN | apply Kd.N_drew)); exact HO172.out) hb); have n6_ := Aside0.mk (Kd.R_below (by (with_reducible repeat (first | apply Kd.R_alloc | apply Kd.R_drewN | apply Kd.R_drew)); exact HO174.out) hb); have n7_ := Aside0.mk (blk_below (g := gb167) (o := .cells #[.string (⟨#[65, 45, 49]⟩ : ByteArray), .int .i64 1, .slice Ao33 [(⟨0, 300⟩ : S46), (⟨500, 400⟩ : S46), (⟨1000, 300⟩ : S46)].length co33, .int .i64 500] 27 (0, 0)) (by (with_reducible repeat (first | refine blk_drewN ?_ _ | refine blk_drew ?_ | refine blk_alloc ?_ _)); exact BK167.out) hb); have n8_ := Aside0.mk (below_step (by repeat (first | (with_reducible first | exact HB.out | apply below_alloc | apply pw_below_drewN | apply below_drew1 | refine below_set ?_ GE167.out) | exact HB.out)) hb); clear HO155; clear HO157; clear HO159; clear HO164; clear HO166; clear HO172; clear HO174; clear BK167; clear HB; have HO155 := n0_; have HO157 := n1_; have HO159 := n2_; have HO164 := n3_; have HO166 := n4_; have HO172 := n5_; have HO174 := n6_; have BK167 := n7_; have HB := n8_; clear n0_ n1_ n2_ n3_ n4_ n5_ n6_ n7_ n8_; (try clear hb)
 (try clear hb2)
 (try clear hk)
 (try clear hi)
 refine hK.out _ _ ⟨(blk_cell BK167.out 0).trans rfl, (blk_cell BK167.out 1).trans rfl, (blk_cell BK167.out 2).trans rfl, (blk_cell BK167.out 3).trans rfl⟩ (fun hHeld => ?_); clear hK K; refine norm_ (a' := ?_) ?_ ?_; rotate_left
 ·
  show Act.put _ (some 68) _ = _
  simp only [Act.put, sIA, sC0, sCS, i64_w, i32_w]; rfl
 refine pure_ (i := 36) (N := some 69) (v := ?_) (a' := ?_) #[true, true, true, true, true, true, true, true, true, true, true, true, true, true, true, true, true, true, true, true, true, true, true, true, true, true, true, true, true, true, true, true, true, true, true, true, true, false, false, false, false, false, false, false, false, false, false, false] rfl rfl (any_of HT_.out (by kernel_rfl)) (fun _ _ _ h => h) (Or.inl ⟨by rfl, ?_⟩) ?_ ?_; rotate_left
 · intro w'; go_simp; with_reducible rfl
 rotate_left
 · simp only [Act.put, sIA, sC0, sCS, i64_w, i32_w]; rfl
 refine pure_ (i := 37) (N := some 70) (v := ?_) (a' := ?_) #[true, true, true, true, true, true, true, true, true, true, true, true, true, true, true, true, true, true, true, true, true, true, true, true, true, true, true, true, true, true, true, true, true, true, true, true, true, true, false, false, false, false, false, false, false, false, false, false] rfl rfl (any_of HT_.out (by kernel_rfl)) (fun _ _ _ h => h) (Or.inl ⟨by rfl, ?_⟩) ?_ ?_; rotate_left
 · intro w'; go_simp; with_reducible rfl
 rotate_left
 · simp only [Act.put, sIA, sC0, sCS, i64_w, i32_w]; rfl
 refine one_ (i := 38) (N := some 71) #[true, true, true, true, true, true, true, true, true, true, true, true, true, true, true, true, true, true, true, true, true, true, true, true, true, true, true, true, true, true, true, true, true, true, true, true, true, true, true, false, false, false, false, false, false, false, false, false] rfl rfl (one_of HT_.out (by kernel_rfl)) (by decide) (fun K hK => ?_); refine goes_ Tryd.func31 (by kernel_rfl) rfl #[] (by rfl) rfl rfl (by (try simp only [List.map_toArray, List.map_cons, List.map_nil]); first | done | rfl | (simp only [List.length_drop, List.length_take]; rfl)) ?_; with_reducible refine (spilelaw09_Barrel.calls  (⟨#[65, 45, 49]⟩ : ByteArray) 1 [(⟨0, 300⟩ : S46), (⟨500, 400⟩ : S46), (⟨1000, 300⟩ : S46)] 500 _ A12.out).mono ?_
 rintro e w46 ⟨v175, rfl, ho0, hb⟩; refine ⟨_, rfl, ?_⟩; have n0_ := Aside0.mk (Kd.N_elder' (by (with_reducible repeat (first | apply Kd.N_alloc | apply Kd.N_drewN | apply Kd.N_drew)); exact HO155.out) (Kd.R_base ho0) hb); have n1_ := Aside0.mk (Kd.N_elder' (by (with_reducible repeat (first | apply Kd.N_alloc | apply Kd.N_drewN | apply Kd.N_drew)); exact HO157.out) (Kd.R_base ho0) hb); have n2_ := Aside0.mk (Kd.R_elder' (by (with_reducible repeat (first | apply Kd.R_alloc | apply Kd.R_drewN | apply Kd.R_drew)); exact HO159.out) (Kd.R_base ho0) hb); have n3_ := Aside0.mk (Kd.N_elder' (by (with_reducible repeat (first | apply Kd.N_alloc | apply Kd.N_drewN | apply Kd.N_drew)); exact HO164.out) (Kd.R_base ho0) hb); have n4_ := Aside0.mk (Kd.R_elder' (by (with_reducible repeat (first | apply Kd.R_alloc | apply Kd.R_drewN | apply Kd.R_drew)); exact HO166.out) (Kd.R_base ho0) hb); have n5_ := Aside0.mk (Kd.N_elder' (by (with_reducible repeat (first | apply Kd.N_alloc | apply Kd.N_drewN | apply Kd.N_drew)); exact HO172.out) (Kd.R_base ho0) hb); have n6_ := Aside0.mk (Kd.R_elder' (by (with_reducible repeat (first | apply Kd.R_alloc | apply Kd.R_drewN | apply Kd.R_drew)); exact HO174.out) (Kd.R_base ho0) hb); have n7_ := Aside0.mk (Kd.R_lower (Kd.R_new' (Kd.R_new' (Kd.R_new' ho0 (Kd.R_lt (by (with_reducible repeat (first | apply Kd.R_alloc | apply Kd.R_drewN | apply Kd.R_drew)); exact HO159.out))) (Kd.R_lt (by (with_reducible repeat (first | apply Kd.R_alloc | apply Kd.R_drewN | apply Kd.R_drew)); exact HO166.out))) (Kd.R_lt (by (with_reducible repeat (first | apply Kd.R_alloc | apply Kd.R_drewN | apply Kd.R_drew)); exact HO174.out))) (below_size (by repeat (first | (with_reducible first | exact HB.out | apply below_alloc | apply pw_below_drewN | apply below_drew1 | refine below_set ?_ GE167.out) | exact HB.out)))); have n8_ := Aside0.mk (blk_below (g := gb167) (o := .cells #[.string (⟨#[65, 45, 49]⟩ : ByteArray), .int .i64 1, .slice Ao33 [(⟨0, 300⟩ : S46), (⟨500, 400⟩ : S46), (⟨1000, 300⟩ : S46)].length co33, .int .i64 500] 27 (0, 0)) (by (with_reducible repeat (first | refine blk_drewN ?_ _ | refine blk_drew ?_ | refine blk_alloc ?_ _)); exact BK167.out) hb); have n9_ := Aside0.mk (below_step (by repeat (first | (with_reducible first | exact HB.out | apply below_alloc | apply pw_below_drewN | apply below_drew1 | refine below_set ?_ GE167.out) | exact HB.out)) hb); clear HO155; clear HO157; clear HO159; clear HO164; clear HO166; clear HO172; clear HO174; clear BK167; clear HB; have HO155 := n0_; have HO157 := n1_; have HO159 := n2_; have HO164 := n3_; have HO166 := n4_; have HO172 := n5_; have HO174 := n6_; have HO176 := n7_; have BK167 := n8_; have HB := n9_; clear n0_ n1_ n2_ n3_ n4_ n5_ n6_ n7_ n8_ n9_; (try clear hb)
 (try clear hb2)
 (try clear hk)
 (try clear hi)
 (try clear ho0)
 obtain ⟨Ao47, co47, eo47⟩ := Kd.R_slice HO176.out; (first | subst eo47 | (injection eo47 with f1_ f2_ f3_; have f4_ := f1_.symm; have f5_ := f3_.symm; clear f1_ f2_ f3_; subst f4_; subst f5_))
 refine hK.out _ _ ⟨(blk_cell BK167.out 0).trans rfl, (blk_cell BK167.out 1).trans rfl, (blk_cell BK167.out 2).trans rfl, (blk_cell BK167.out 3).trans rfl⟩ (fun hHeld => ?_); clear hK K; refine norm_ (a' := ?_) ?_ ?_; rotate_left
 ·
  show Act.put _ (some 71) _ = _
  simp only [Act.put, sIA, sC0, sCS, i64_w, i32_w]; rfl
 refine one_ (i := 39) (N := some 72) #[true, true, true, true, true, true, true, true, true, true, true, true, true, true, true, true, true, true, true, true, true, true, true, true, true, true, true, true, true, true, true, true, true, true, true, true, true, true, true, true, false, false, false, false, false, false, false, false] rfl rfl (one_of HT_.out (by kernel_rfl)) (by decide) (fun K hK => ?_); refine goes_ Tryd.func20 (by kernel_rfl) rfl #[.agg #[.string (⟨#[65, 45, 49]⟩ : ByteArray), .int .i64 1, .slice Ao47 [(⟨0, 300⟩ : S46), (⟨500, 400⟩ : S46), (⟨1000, 300⟩ : S46)].length co47, .int .i64 500]] (by rfl) rfl rfl (by (try simp only [List.map_toArray, List.map_cons, List.map_nil]); first | done | rfl | (simp only [List.length_drop, List.length_take]; rfl)) ?_; with_reducible refine (cask_Check.calls 400 (⟨#[65, 45, 49]⟩ : ByteArray) 1 _ _ [(⟨0, 300⟩ : S46), (⟨500, 400⟩ : S46), (⟨1000, 300⟩ : S46)] 500 0 _ ?side1 ?side2 A13.out).mono ?_
 (case side1 => repeat (first | exact (Kd.R_reads' HO176.out).2.2 | (with_reducible refine Kd.C_alloc ?_ _) | (with_reducible refine Kd.C_drewN ?_ _) | (with_reducible refine Kd.C_drew ?_)))
 (case side2 => exact (Kd.R_reads' HO176.out).2.1)
 rintro e w48 ⟨rfl, hb⟩; refine ⟨_, rfl, ?_⟩; have n0_ := Aside0.mk (Kd.N_below (by (with_reducible repeat (first | apply Kd.N_alloc | apply Kd.N_drewN | apply Kd.N_drew)); exact HO155.out) hb); have n1_ := Aside0.mk (Kd.N_below (by (with_reducible repeat (first | apply Kd.N_alloc | apply Kd.N_drewN | apply Kd.N_drew)); exact HO157.out) hb); have n2_ := Aside0.mk (Kd.R_below (by (with_reducible repeat (first | apply Kd.R_alloc | apply Kd.R_drewN | apply Kd.R_drew)); exact HO159.out) hb); have n3_ := Aside0.mk (Kd.N_below (by (with_reducible repeat (first | apply Kd.N_alloc | apply Kd.N_drewN | apply Kd.N_drew)); exact HO164.out) hb); have n4_ := Aside0.mk (Kd.R_below (by (with_reducible repeat (first | apply Kd.R_alloc | apply Kd.R_drewN | apply Kd.R_drew)); exact HO166.out) hb); have n5_ := Aside0.mk (Kd.N_below (by (with_reducible repeat (first | apply Kd.N_alloc | apply Kd.N_drewN | apply Kd.N_drew)); exact HO172.out) hb); have n6_ := Aside0.mk (Kd.R_below (by (with_reducible repeat (first | apply Kd.R_alloc | apply Kd.R_drewN | apply Kd.R_drew)); exact HO174.out) hb); have n7_ := Aside0.mk (Kd.R_below (by (with_reducible repeat (first | apply Kd.R_alloc | apply Kd.R_drewN | apply Kd.R_drew)); exact HO176.out) hb); have n8_ := Aside0.mk (blk_below (g := gb167) (o := .cells #[.string (⟨#[65, 45, 49]⟩ : ByteArray), .int .i64 1, .slice Ao33 [(⟨0, 300⟩ : S46), (⟨500, 400⟩ : S46), (⟨1000, 300⟩ : S46)].length co33, .int .i64 500] 27 (0, 0)) (by (with_reducible repeat (first | refine blk_drewN ?_ _ | refine blk_drew ?_ | refine blk_alloc ?_ _)); exact BK167.out) hb); have n9_ := Aside0.mk (below_step (by repeat (first | (with_reducible first | exact HB.out | apply below_alloc | apply pw_below_drewN | apply below_drew1 | refine below_set ?_ GE167.out) | exact HB.out)) hb); clear HO155; clear HO157; clear HO159; clear HO164; clear HO166; clear HO172; clear HO174; clear HO176; clear BK167; clear HB; have HO155 := n0_; have HO157 := n1_; have HO159 := n2_; have HO164 := n3_; have HO166 := n4_; have HO172 := n5_; have HO174 := n6_; have HO176 := n7_; have BK167 := n8_; have HB := n9_; clear n0_ n1_ n2_ n3_ n4_ n5_ n6_ n7_ n8_ n9_; (try clear hb)
 (try clear hb2)
 (try clear hk)
 (try clear hi)
 refine hK.out _ _ ⟨(blk_cell BK167.out 0).trans rfl, (blk_cell BK167.out 1).trans rfl, (blk_cell BK167.out 2).trans rfl, (blk_cell BK167.out 3).trans rfl⟩ (fun hHeld => ?_); clear hK K; refine norm_ (a' := ?_) ?_ ?_; rotate_left
 ·
  show Act.put _ (some 72) _ = _
  simp only [Act.put, sIA, sC0, sCS, i64_w, i32_w]; rfl
 refine pure_ (i := 40) (N := some 73) (v := ?_) (a' := ?_) #[true, true, true, true, true, true, true, true, true, true, true, true, true, true, true, true, true, true, true, true, true, true, true, true, true, true, true, true, true, true, true, true, true, true, true, true, true, true, true, true, true, false, false, false, false, false, false, false] rfl rfl (any_of HT_.out (by kernel_rfl)) (fun _ _ _ h => h) (Or.inl ⟨by rfl, ?_⟩) ?_ ?_; rotate_left
 · intro w'; go_simp; with_reducible rfl
 rotate_left
 · simp only [Act.put, sIA, sC0, sCS, i64_w, i32_w]; rfl
 refine pure_ (i := 41) (N := some 74) (v := ?_) (a' := ?_) #[true, true, true, true, true, true, true, true, true, true, true, true, true, true, true, true, true, true, true, true, true, true, true, true, true, true, true, true, true, true, true, true, true, true, true, true, true, true, true, true, true, true, false, false, false, false, false, false] rfl rfl (any_of HT_.out (by kernel_rfl)) (fun _ _ _ h => h) (Or.inl ⟨by rfl, ?_⟩) ?_ ?_; rotate_left
 · intro w'; go_simp; with_reducible rfl
 rotate_left
 · simp only [Act.put, sIA, sC0, sCS, i64_w, i32_w]; rfl
 refine pure_ (i := 42) (N := some 75) (v := ?_) (a' := ?_) #[true, true, true, true, true, true, true, true, true, true, true, true, true, true, true, true, true, true, true, true, true, true, true, true, true, true, true, true, true, true, true, true, true, true, true, true, true, true, true, true, true, true, true, false, false, false, false, false] rfl rfl (any_of HT_.out (by kernel_rfl)) (fun _ _ _ h => h) (Or.inl ⟨by rfl, ?_⟩) ?_ ?_; rotate_left
 · intro w'; go_simp; with_reducible rfl
 rotate_left
 · simp only [Act.put, sIA, sC0, sCS, i64_w, i32_w]; rfl
 refine pure_ (i := 43) (N := some 76) (v := ?_) (a' := ?_) #[true, true, true, true, true, true, true, true, true, true, true, true, true, true, true, true, true, true, true, true, true, true, true, true, true, true, true, true, true, true, true, true, true, true, true, true, true, true, true, true, true, true, true, true, false, false, false, false] rfl rfl (any_of HT_.out (by kernel_rfl)) (fun _ _ _ h => h) (Or.inl ⟨by rfl, ?_⟩) ?_ ?_; rotate_left
 · intro w'; go_simp; with_reducible rfl
 rotate_left
 · simp only [Act.put, sIA, sC0, sCS, i64_w, i32_w]; rfl
 refine one_ (i := 44) (N := some 77) #[true, true, true, true, true, true, true, true, true, true, true, true, true, true, true, true, true, true, true, true, true, true, true, true, true, true, true, true, true, true, true, true, true, true, true, true, true, true, true, true, true, true, true, true, true, false, false, false] rfl rfl (one_of HT_.out (by kernel_rfl)) (by decide) (fun K hK => ?_); refine goes_ Tryd.func16 (by kernel_rfl) rfl #[.slice Ao40 [(⟨(⟨#[65, 45, 49]⟩ : ByteArray), 1, [(⟨0, 300⟩ : S46), (⟨500, 400⟩ : S46), (⟨1000, 300⟩ : S46)], 500⟩ : S27)].length co40] (by rfl) rfl rfl (by (try simp only [List.map_toArray, List.map_cons, List.map_nil]); first | done | rfl | (simp only [List.length_drop, List.length_take]; rfl)) ?_; with_reducible refine (cask_List.calls 400 _ _ [(⟨(⟨#[65, 45, 49]⟩ : ByteArray), 1, [(⟨0, 300⟩ : S46), (⟨500, 400⟩ : S46), (⟨1000, 300⟩ : S46)], 500⟩ : S27)] 0 _ ?side1 ?side2 A14.out).mono ?_
 (case side1 => repeat (first | exact (Kd.N_reads' HO157.out).2.2 | (with_reducible refine Kd.C_alloc ?_ _) | (with_reducible refine Kd.C_drewN ?_ _) | (with_reducible refine Kd.C_drew ?_)))
 (case side2 => exact (Kd.N_reads' HO157.out).2.1)
 rintro e w49 ⟨rfl, hb⟩; refine ⟨_, rfl, ?_⟩; have n0_ := Aside0.mk (Kd.N_below (by (with_reducible repeat (first | apply Kd.N_alloc | apply Kd.N_drewN | apply Kd.N_drew)); exact HO155.out) hb); have n1_ := Aside0.mk (Kd.N_below (by (with_reducible repeat (first | apply Kd.N_alloc | apply Kd.N_drewN | apply Kd.N_drew)); exact HO157.out) hb); have n2_ := Aside0.mk (Kd.R_below (by (with_reducible repeat (first | apply Kd.R_alloc | apply Kd.R_drewN | apply Kd.R_drew)); exact HO159.out) hb); have n3_ := Aside0.mk (Kd.N_below (by (with_reducible repeat (first | apply Kd.N_alloc | apply Kd.N_drewN | apply Kd.N_drew)); exact HO164.out) hb); have n4_ := Aside0.mk (Kd.R_below (by (with_reducible repeat (first | apply Kd.R_alloc | apply Kd.R_drewN | apply Kd.R_drew)); exact HO166.out) hb); have n5_ := Aside0.mk (Kd.N_below (by (with_reducible repeat (first | apply Kd.N_alloc | apply Kd.N_drewN | apply Kd.N_drew)); exact HO172.out) hb); have n6_ := Aside0.mk (Kd.R_below (by (with_reducible repeat (first | apply Kd.R_alloc | apply Kd.R_drewN | apply Kd.R_drew)); exact HO174.out) hb); have n7_ := Aside0.mk (Kd.R_below (by (with_reducible repeat (first | apply Kd.R_alloc | apply Kd.R_drewN | apply Kd.R_drew)); exact HO176.out) hb); have n8_ := Aside0.mk (blk_below (g := gb167) (o := .cells #[.string (⟨#[65, 45, 49]⟩ : ByteArray), .int .i64 1, .slice Ao33 [(⟨0, 300⟩ : S46), (⟨500, 400⟩ : S46), (⟨1000, 300⟩ : S46)].length co33, .int .i64 500] 27 (0, 0)) (by (with_reducible repeat (first | refine blk_drewN ?_ _ | refine blk_drew ?_ | refine blk_alloc ?_ _)); exact BK167.out) hb); have n9_ := Aside0.mk (below_step (by repeat (first | (with_reducible first | exact HB.out | apply below_alloc | apply pw_below_drewN | apply below_drew1 | refine below_set ?_ GE167.out) | exact HB.out)) hb); clear HO155; clear HO157; clear HO159; clear HO164; clear HO166; clear HO172; clear HO174; clear HO176; clear BK167; clear HB; have HO155 := n0_; have HO157 := n1_; have HO159 := n2_; have HO164 := n3_; have HO166 := n4_; have HO172 := n5_; have HO174 := n6_; have HO176 := n7_; have BK167 := n8_; have HB := n9_; clear n0_ n1_ n2_ n3_ n4_ n5_ n6_ n7_ n8_ n9_; (try clear hb)
 (try clear hb2)
 (try clear hk)
 (try clear hi)
 refine hK.out _ _ ⟨(blk_cell BK167.out 0).trans rfl, (blk_cell BK167.out 1).trans rfl, (blk_cell BK167.out 2).trans rfl, (blk_cell BK167.out 3).trans rfl⟩ (fun hHeld => ?_); clear hK K; refine norm_ (a' := ?_) ?_ ?_; rotate_left
 ·
  show Act.put _ (some 77) _ = _
  simp only [Act.put, sIA, sC0, sCS, i64_w, i32_w]; rfl
 refine pure_ (i := 45) (N := some 78) (v := ?_) (a' := ?_) #[true, true, true, true, true, true, true, true, true, true, true, true, true, true, true, true, true, true, true, true, true, true, true, true, true, true, true, true, true, true, true, true, true, true, true, true, true, true, true, true, true, true, true, true, true, true, false, false] rfl rfl (any_of HT_.out (by kernel_rfl)) (fun _ _ _ h => h) (Or.inl ⟨by rfl, ?_⟩) ?_ ?_; rotate_left
 · intro w'; go_simp; with_reducible rfl
 rotate_left
 · simp only [Act.put, sIA, sC0, sCS, i64_w, i32_w]; rfl
 refine pure_ (i := 46) (N := some 79) (v := ?_) (a' := ?_) #[true, true, true, true, true, true, true, true, true, true, true, true, true, true, true, true, true, true, true, true, true, true, true, true, true, true, true, true, true, true, true, true, true, true, true, true, true, true, true, true, true, true, true, true, true, true, true, false] rfl rfl (any_of HT_.out (by kernel_rfl)) (fun _ _ _ h => h) (Or.inl ⟨by rfl, ?_⟩) ?_ ?_; rotate_left
 · intro w'; go_simp; with_reducible rfl
 rotate_left
 · simp only [Act.put, sIA, sC0, sCS, i64_w, i32_w]; rfl
 refine pure_ (i := 47) (N := some 0) (v := ?_) (a' := ?_) #[true, true, true, true, true, true, true, true, true, true, true, true, true, true, true, true, true, true, true, true, true, true, true, true, true, true, true, true, true, true, true, true, true, true, true, true, true, true, true, true, true, true, true, true, true, true, true, true] rfl rfl (any_of HT_.out (by kernel_rfl)) (fun _ _ _ h => h) (Or.inl ⟨by rfl, ?_⟩) ?_ ?_; rotate_left
 · intro w'; go_simp; with_reducible rfl
 rotate_left
 · simp only [Act.put, sIA, sC0, sCS, i64_w, i32_w]; rfl
 refine done_ (done_of HT_.out (by kernel_rfl)) ?_; try go_wp2
 go_ret
 exact ⟨by first | rfl | (simp [errW_none, errW_some] <;> rfl) | (simp [*, errW_none, errW_some] <;> rfl), by repeat (first | (with_reducible first | exact HB.out | apply below_alloc | apply pw_below_drewN | apply below_drew1 | refine below_set ?_ GE167.out) | exact HB.out)⟩
end Go.Proofs.YtnhmlneebnkjcaaDoor.Pr
namespace Go.Proofs.YtnhmlneebnkjcaaDoor.Pr
open Go.RowKit Go.Proofs.YtnhmlneebnkjcaaDoorW.PrintWords Go.Proofs.YtnhmlneebnkjcaaDoorW.PrintLast Go.Proofs.YtnhmlneebnkjcaaDoorW.PrintMore Go.Proofs.YtnhmlneebnkjcaaDoor.X
attribute [local go_sem] max2_int min2_int max_two min_two max_three min_three max_four min_four   -- for this text's walks alone
set_option linter.unusedVariables false
set_option linter.unusedSimpArgs false
def spileref09_IsName.l0 : Nat → ByteArray → Int → Option (Bool)
 | 0, _, _ => none
 | k + 1, x0, x3 => if x3 < (x0.size : Int) then (if 0 ≤ x3 then (if (bt x0 x3) ≥ 97 then (if (bt x0 x3) ≤ 122 then (spileref09_IsName.l0 k x0 (wrap64 (x3 + 1))) else (if (bt x0 x3) ≥ 65 then (if (bt x0 x3) ≤ 90 then (spileref09_IsName.l0 k x0 (wrap64 (x3 + 1))) else (if (bt x0 x3) ≥ 48 then (if (bt x0 x3) ≤ 57 then (spileref09_IsName.l0 k x0 (wrap64 (x3 + 1))) else (if (bt x0 x3) = 45 then (spileref09_IsName.l0 k x0 (wrap64 (x3 + 1))) else (if ((bt x0 x3) = 46) then (spileref09_IsName.l0 k x0 (wrap64 (x3 + 1))) else (some false)))) else (if (bt x0 x3) = 45 then (spileref09_IsName.l0 k x0 (wrap64 (x3 + 1))) else (if ((bt x0 x3) = 46) then (spileref09_IsName.l0 k x0 (wrap64 (x3 + 1))) else (some false))))) else (if (bt x0 x3) ≥ 48 then (if (bt x0 x3) ≤ 57 then (spileref09_IsName.l0 k x0 (wrap64 (x3 + 1))) else (if (bt x0 x3) = 45 then (spileref09_IsName.l0 k x0 (wrap64 (x3 + 1))) else (if ((bt x0 x3) = 46) then (spileref09_IsName.l0 k x0 (wrap64 (x3 + 1))) else (some false)))) else (if (bt x0 x3) = 45 then (spileref09_IsName.l0 k x0 (wrap64 (x3 + 1))) else (if ((bt x0 x3) = 46) then (spileref09_IsName.l0 k x0 (wrap64 (x3 + 1))) else (some false)))))) else (if (bt x0 x3) ≥ 65 then (if (bt x0 x3) ≤ 90 then (spileref09_IsName.l0 k x0 (wrap64 (x3 + 1))) else (if (bt x0 x3) ≥ 48 then (if (bt x0 x3) ≤ 57 then (spileref09_IsName.l0 k x0 (wrap64 (x3 + 1))) else (if (bt x0 x3) = 45 then (spileref09_IsName.l0 k x0 (wrap64 (x3 + 1))) else (if ((bt x0 x3) = 46) then (spileref09_IsName.l0 k x0 (wrap64 (x3 + 1))) else (some false)))) else (if (bt x0 x3) = 45 then (spileref09_IsName.l0 k x0 (wrap64 (x3 + 1))) else (if ((bt x0 x3) = 46) then (spileref09_IsName.l0 k x0 (wrap64 (x3 + 1))) else (some false))))) else (if (bt x0 x3) ≥ 48 then (if (bt x0 x3) ≤ 57 then (spileref09_IsName.l0 k x0 (wrap64 (x3 + 1))) else (if (bt x0 x3) = 45 then (spileref09_IsName.l0 k x0 (wrap64 (x3 + 1))) else (if ((bt x0 x3) = 46) then (spileref09_IsName.l0 k x0 (wrap64 (x3 + 1))) else (some false)))) else (if (bt x0 x3) = 45 then (spileref09_IsName.l0 k x0 (wrap64 (x3 + 1))) else (if ((bt x0 x3) = 46) then (spileref09_IsName.l0 k x0 (wrap64 (x3 + 1))) else (some false)))))) else (none)) else (if (x0.size : Int) ≥ 1 then (some (decide ((x0.size : Int) ≤ 64))) else (some false))
def spileref09_IsName.f (k : Nat) (a0 : ByteArray) : Option (Bool) := spileref09_IsName.l0 k a0 0
set_option maxHeartbeats 8000000 in
set_option maxRecDepth 100000 in
theorem spileref09_IsName.calls (k : Nat) (a0 : ByteArray) (r : Bool) (w : World) (h : spileref09_IsName.f k a0 = some r) :
  Calls Tryd.prog 40 #[.string a0] w fun e w' => e = .returned (.bool r) ∧ Drawn0 w w' := by
 have H : (spileref09_IsName.l0 k a0 0) = some r := h; clear h; have H' := Aside0.mk H; clear H; go_enter Tryd.func40, Tryd.ntmps40
 go_wp2; go_loopg [3] k (fun kq v3 w' => ∃ (x3_1 : Int), v3 = .int .i64 x3_1 ∧ Aside0 (spileref09_IsName.l0 kq a0 x3_1 = some r) ∧ Aside0 (kq ≤ k) ∧ Drawn0 w w')
 case atStart => exact ⟨(0), (by first | rfl | (simp; done) | (simp [*]; done)), H', ⟨Nat.le_refl _⟩, by repeat (first | exact Drawn0.refl _ | apply Drawn0.step)⟩
 case round =>
  clear H'; obtain ⟨x3_1, rfl, HA, HK1, ⟨m1, rfl⟩⟩ := hrel
  cases gk with
  | zero => exact absurd HA.out (by simp [spileref09_IsName.l0])
  | succ k1 =>
   have H := HA.out; clear HA; simp only [spileref09_IsName.l0] at H; by_cases c2 : x3_1 < (a0.size : Int)
   ·
    rw [if_pos c2] at H; have c2b0 : decide (x3_1 < (a0.size : Int)) = true := decide_eq_true c2; clear c2; by_cases c3 : 0 ≤ x3_1
    ·
     rw [if_pos c3] at H; have c3b0 : decide (0 ≤ x3_1) = true := decide_eq_true c3; clear c3; by_cases c5 : (bt a0 x3_1) ≥ 97
     ·
      rw [if_pos c5] at H; have c5b0 : decide (97 ≤ (bt a0 x3_1)) = true := decide_eq_true c5; clear c5; by_cases c6 : (bt a0 x3_1) ≤ 122
      ·
       rw [if_pos c6] at H; have c6b0 : decide ((bt a0 x3_1) ≤ 122) = true := decide_eq_true c6; clear c6; have H' := Aside0.mk H; clear H; have p4 : 0 ≤ (x3_1 : Int) := of_decide_eq_true (by first | (with_reducible assumption) | assumption); have q4 : x3_1 < (a0.size : Int) := of_decide_eq_true (by first | (with_reducible assumption) | assumption); have hx4 := bt_at a0 x3_1; replace p4 := eq_true p4; replace q4 := eq_true q4; go_wp2; go_roundg k1
       case measure => have := HK1.out; omega
       case rel => exact ⟨(wrap64 (x3_1 + 1)), (by first | rfl | (simp; done) | (simp [*]; done)), H', ⟨by have := HK1.out; omega⟩, by repeat (first | exact Drawn0.refl _ | apply Drawn0.step)⟩
      ·
       rw [if_neg c6] at H; have c6b0 : decide ((bt a0 x3_1) ≤ 122) = false := decide_eq_false c6; clear c6; by_cases c7 : (bt a0 x3_1) ≥ 65
       ·
        rw [if_pos c7] at H; have c7b0 : decide (65 ≤ (bt a0 x3_1)) = true := decide_eq_true c7; clear c7; by_cases c8 : (bt a0 x3_1) ≤ 90
        ·
         rw [if_pos c8] at H; have c8b0 : decide ((bt a0 x3_1) ≤ 90) = true := decide_eq_true c8; clear c8; have H' := Aside0.mk H; clear H; have p4 : 0 ≤ (x3_1 : Int) := of_decide_eq_true (by first | (with_reducible assumption) | assumption); have q4 : x3_1 < (a0.size : Int) := of_decide_eq_true (by first | (with_reducible assumption) | assumption); have hx4 := bt_at a0 x3_1; replace p4 := eq_true p4; replace q4 := eq_true q4; go_wp2; go_roundg k1
         case measure => have := HK1.out; omega
         case rel => exact ⟨(wrap64 (x3_1 + 1)), (by first | rfl | (simp; done) | (simp [*]; done)), H', ⟨by have := HK1.out; omega⟩, by repeat (first | exact Drawn0.refl _ | apply Drawn0.step)⟩
        ·
         rw [if_neg c8] at H; have c8b0 : decide ((bt a0 x3_1) ≤ 90) = false := decide_eq_false c8; clear c8; by_cases c9 : (bt a0 x3_1) ≥ 48
         ·
          rw [if_pos c9] at H; have c9b0 : decide (48 ≤ (bt a0 x3_1)) = true := decide_eq_true c9; clear c9; by_cases c10 : (bt a0 x3_1) ≤ 57
          ·
           rw [if_pos c10] at H; have c10b0 : decide ((bt a0 x3_1) ≤ 57) = true := decide_eq_true c10; clear c10; have H' := Aside0.mk H; clear H; have p4 : 0 ≤ (x3_1 : Int) := of_decide_eq_true (by first | (with_reducible assumption) | assumption); have q4 : x3_1 < (a0.size : Int) := of_decide_eq_true (by first | (with_reducible assumption) | assumption); have hx4 := bt_at a0 x3_1; replace p4 := eq_true p4; replace q4 := eq_true q4; go_wp2; go_roundg k1
           case measure => have := HK1.out; omega
           case rel => exact ⟨(wrap64 (x3_1 + 1)), (by first | rfl | (simp; done) | (simp [*]; done)), H', ⟨by have := HK1.out; omega⟩, by repeat (first | exact Drawn0.refl _ | apply Drawn0.step)⟩
          ·
           rw [if_neg c10] at H; have c10b0 : decide ((bt a0 x3_1) ≤ 57) = false := decide_eq_false c10; clear c10; by_cases c11 : (bt a0 x3_1) = 45
           ·
            rw [if_pos c11] at H; have c11b0 : ((bt a0 x3_1) == 45) = true := beq_iff_eq.mpr c11; have c11b1 : ((bt a0 x3_1) != 45) = false := bne_eq_false_iff_eq.mpr c11; clear c11; have H' := Aside0.mk H; clear H; have p4 : 0 ≤ (x3_1 : Int) := of_decide_eq_true (by first | (with_reducible assumption) | assumption); have q4 : x3_1 < (a0.size : Int) := of_decide_eq_true (by first | (with_reducible assumption) | assumption); have hx4 := bt_at a0 x3_1; replace p4 := eq_true p4; replace q4 := eq_true q4; go_wp2; go_roundg k1
            case measure => have := HK1.out; omega
            case rel => exact ⟨(wrap64 (x3_1 + 1)), (by first | rfl | (simp; done) | (simp [*]; done)), H', ⟨by have := HK1.out; omega⟩, by repeat (first | exact Drawn0.refl _ | apply Drawn0.step)⟩
           ·
            rw [if_neg c11] at H; have c11b0 : ((bt a0 x3_1) == 45) = false := beq_eq_false_iff_ne.mpr c11; have c11b1 : ((bt a0 x3_1) != 45) = true := bne_iff_ne.mpr c11; by_cases c12 : ((bt a0 x3_1) = 46)
            ·
             rw [if_pos c12] at H; have c12b0 : ((bt a0 x3_1) == 46) = true := beq_iff_eq.mpr c12; have c12b1 : ((bt a0 x3_1) != 46) = false := bne_eq_false_iff_eq.mpr c12; clear c12; have H' := Aside0.mk H; clear H; have p4 : 0 ≤ (x3_1 : Int) := of_decide_eq_true (by first | (with_reducible assumption) | assumption); have q4 : x3_1 < (a0.size : Int) := of_decide_eq_true (by first | (with_reducible assumption) | assumption); have hx4 := bt_at a0 x3_1; replace p4 := eq_true p4; replace q4 := eq_true q4; go_wp2; go_roundg k1
             case measure => have := HK1.out; omega
             case rel => exact ⟨(wrap64 (x3_1 + 1)), (by first | rfl | (simp; done) | (simp [*]; done)), H', ⟨by have := HK1.out; omega⟩, by repeat (first | exact Drawn0.refl _ | apply Drawn0.step)⟩
            ·
             rw [if_neg c12] at H; have c12b0 : ((bt a0 x3_1) == 46) = false := beq_eq_false_iff_ne.mpr c12; have c12b1 : ((bt a0 x3_1) != 46) = true := bne_iff_ne.mpr c12; obtain rfl := Option.some.inj H; have p4 : 0 ≤ (x3_1 : Int) := of_decide_eq_true (by first | (with_reducible assumption) | assumption); have q4 : x3_1 < (a0.size : Int) := of_decide_eq_true (by first | (with_reducible assumption) | assumption); have hx4 := bt_at a0 x3_1; replace p4 := eq_true p4; replace q4 := eq_true q4; go_wp2; go_ret
             exact ⟨by first | rfl | (simp; done) | (simp [*]; done), by repeat (first | exact Drawn0.refl _ | apply Drawn0.step)⟩
         ·
          rw [if_neg c9] at H; have c9b0 : decide (48 ≤ (bt a0 x3_1)) = false := decide_eq_false c9; clear c9; by_cases c13 : (bt a0 x3_1) = 45
          ·
           rw [if_pos c13] at H; have c13b0 : ((bt a0 x3_1) == 45) = true := beq_iff_eq.mpr c13; have c13b1 : ((bt a0 x3_1) != 45) = false := bne_eq_false_iff_eq.mpr c13; clear c13; have H' := Aside0.mk H; clear H; have p4 : 0 ≤ (x3_1 : Int) := of_decide_eq_true (by first | (with_reducible assumption) | assumption); have q4 : x3_1 < (a0.size : Int) := of_decide_eq_true (by first | (with_reducible assumption) | assumption); have hx4 := bt_at a0 x3_1; replace p4 := eq_true p4; replace q4 := eq_true q4; go_wp2; go_roundg k1
           case measure => have := HK1.out; omega
           case rel => exact ⟨(wrap64 (x3_1 + 1)), (by first | rfl | (simp; done) | (simp [*]; done)), H', ⟨by have := HK1.out; omega⟩, by repeat (first | exact Drawn0.refl _ | apply Drawn0.step)⟩
          ·
           rw [if_neg c13] at H; have c13b0 : ((bt a0 x3_1) == 45) = false := beq_eq_false_iff_ne.mpr c13; have c13b1 : ((bt a0 x3_1) != 45) = true := bne_iff_ne.mpr c13; by_cases c14 : ((bt a0 x3_1) = 46)
           ·
            rw [if_pos c14] at H; have c14b0 : ((bt a0 x3_1) == 46) = true := beq_iff_eq.mpr c14; have c14b1 : ((bt a0 x3_1) != 46) = false := bne_eq_false_iff_eq.mpr c14; clear c14; have H' := Aside0.mk H; clear H; have p4 : 0 ≤ (x3_1 : Int) := of_decide_eq_true (by first | (with_reducible assumption) | assumption); have q4 : x3_1 < (a0.size : Int) := of_decide_eq_true (by first | (with_reducible assumption) | assumption); have hx4 := bt_at a0 x3_1; replace p4 := eq_true p4; replace q4 := eq_true q4; go_wp2; go_roundg k1
            case measure => have := HK1.out; omega
            case rel => exact ⟨(wrap64 (x3_1 + 1)), (by first | rfl | (simp; done) | (simp [*]; done)), H', ⟨by have := HK1.out; omega⟩, by repeat (first | exact Drawn0.refl _ | apply Drawn0.step)⟩
           ·
            rw [if_neg c14] at H; have c14b0 : ((bt a0 x3_1) == 46) = false := beq_eq_false_iff_ne.mpr c14; have c14b1 : ((bt a0 x3_1) != 46) = true := bne_iff_ne.mpr c14; obtain rfl := Option.some.inj H; have p4 : 0 ≤ (x3_1 : Int) := of_decide_eq_true (by first | (with_reducible assumption) | assumption); have q4 : x3_1 < (a0.size : Int) := of_decide_eq_true (by first | (with_reducible assumption) | assumption); have hx4 := bt_at a0 x3_1; replace p4 := eq_true p4; replace q4 := eq_true q4; go_wp2; go_ret
            exact ⟨by first | rfl | (simp; done) | (simp [*]; done), by repeat (first | exact Drawn0.refl _ | apply Drawn0.step)⟩
       ·
        rw [if_neg c7] at H; have c7b0 : decide (65 ≤ (bt a0 x3_1)) = false := decide_eq_false c7; clear c7; by_cases c15 : (bt a0 x3_1) ≥ 48
        ·
         rw [if_pos c15] at H; have c15b0 : decide (48 ≤ (bt a0 x3_1)) = true := decide_eq_true c15; clear c15; by_cases c16 : (bt a0 x3_1) ≤ 57
         ·
          rw [if_pos c16] at H; have c16b0 : decide ((bt a0 x3_1) ≤ 57) = true := decide_eq_true c16; clear c16; have H' := Aside0.mk H; clear H; have p4 : 0 ≤ (x3_1 : Int) := of_decide_eq_true (by first | (with_reducible assumption) | assumption); have q4 : x3_1 < (a0.size : Int) := of_decide_eq_true (by first | (with_reducible assumption) | assumption); have hx4 := bt_at a0 x3_1; replace p4 := eq_true p4; replace q4 := eq_true q4; go_wp2; go_roundg k1
          case measure => have := HK1.out; omega
          case rel => exact ⟨(wrap64 (x3_1 + 1)), (by first | rfl | (simp; done) | (simp [*]; done)), H', ⟨by have := HK1.out; omega⟩, by repeat (first | exact Drawn0.refl _ | apply Drawn0.step)⟩
         ·
          rw [if_neg c16] at H; have c16b0 : decide ((bt a0 x3_1) ≤ 57) = false := decide_eq_false c16; clear c16; by_cases c17 : (bt a0 x3_1) = 45
          ·
           rw [if_pos c17] at H; have c17b0 : ((bt a0 x3_1) == 45) = true := beq_iff_eq.mpr c17; have c17b1 : ((bt a0 x3_1) != 45) = false := bne_eq_false_iff_eq.mpr c17; clear c17; have H' := Aside0.mk H; clear H; have p4 : 0 ≤ (x3_1 : Int) := of_decide_eq_true (by first | (with_reducible assumption) | assumption); have q4 : x3_1 < (a0.size : Int) := of_decide_eq_true (by first | (with_reducible assumption) | assumption); have hx4 := bt_at a0 x3_1; replace p4 := eq_true p4; replace q4 := eq_true q4; go_wp2; go_roundg k1
           case measure => have := HK1.out; omega
           case rel => exact ⟨(wrap64 (x3_1 + 1)), (by first | rfl | (simp; done) | (simp [*]; done)), H', ⟨by have := HK1.out; omega⟩, by repeat (first | exact Drawn0.refl _ | apply Drawn0.step)⟩
          ·
           rw [if_neg c17] at H; have c17b0 : ((bt a0 x3_1) == 45) = false := beq_eq_false_iff_ne.mpr c17; have c17b1 : ((bt a0 x3_1) != 45) = true := bne_iff_ne.mpr c17; by_cases c18 : ((bt a0 x3_1) = 46)
           ·
            rw [if_pos c18] at H; have c18b0 : ((bt a0 x3_1) == 46) = true := beq_iff_eq.mpr c18; have c18b1 : ((bt a0 x3_1) != 46) = false := bne_eq_false_iff_eq.mpr c18; clear c18; have H' := Aside0.mk H; clear H; have p4 : 0 ≤ (x3_1 : Int) := of_decide_eq_true (by first | (with_reducible assumption) | assumption); have q4 : x3_1 < (a0.size : Int) := of_decide_eq_true (by first | (with_reducible assumption) | assumption); have hx4 := bt_at a0 x3_1; replace p4 := eq_true p4; replace q4 := eq_true q4; go_wp2; go_roundg k1
            case measure => have := HK1.out; omega
            case rel => exact ⟨(wrap64 (x3_1 + 1)), (by first | rfl | (simp; done) | (simp [*]; done)), H', ⟨by have := HK1.out; omega⟩, by repeat (first | exact Drawn0.refl _ | apply Drawn0.step)⟩
           ·
            rw [if_neg c18] at H; have c18b0 : ((bt a0 x3_1) == 46) = false := beq_eq_false_iff_ne.mpr c18; have c18b1 : ((bt a0 x3_1) != 46) = true := bne_iff_ne.mpr c18; obtain rfl := Option.some.inj H; have p4 : 0 ≤ (x3_1 : Int) := of_decide_eq_true (by first | (with_reducible assumption) | assumption); have q4 : x3_1 < (a0.size : Int) := of_decide_eq_true (by first | (with_reducible assumption) | assumption); have hx4 := bt_at a0 x3_1; replace p4 := eq_true p4; replace q4 := eq_true q4; go_wp2; go_ret
            exact ⟨by first | rfl | (simp; done) | (simp [*]; done), by repeat (first | exact Drawn0.refl _ | apply Drawn0.step)⟩
        ·
         rw [if_neg c15] at H; have c15b0 : decide (48 ≤ (bt a0 x3_1)) = false := decide_eq_false c15; clear c15; by_cases c19 : (bt a0 x3_1) = 45
         ·
          rw [if_pos c19] at H; have c19b0 : ((bt a0 x3_1) == 45) = true := beq_iff_eq.mpr c19; have c19b1 : ((bt a0 x3_1) != 45) = false := bne_eq_false_iff_eq.mpr c19; clear c19; have H' := Aside0.mk H; clear H; have p4 : 0 ≤ (x3_1 : Int) := of_decide_eq_true (by first | (with_reducible assumption) | assumption); have q4 : x3_1 < (a0.size : Int) := of_decide_eq_true (by first | (with_reducible assumption) | assumption); have hx4 := bt_at a0 x3_1; replace p4 := eq_true p4; replace q4 := eq_true q4; go_wp2; go_roundg k1
          case measure => have := HK1.out; omega
          case rel => exact ⟨(wrap64 (x3_1 + 1)), (by first | rfl | (simp; done) | (simp [*]; done)), H', ⟨by have := HK1.out; omega⟩, by repeat (first | exact Drawn0.refl _ | apply Drawn0.step)⟩
         ·
          rw [if_neg c19] at H; have c19b0 : ((bt a0 x3_1) == 45) = false := beq_eq_false_iff_ne.mpr c19; have c19b1 : ((bt a0 x3_1) != 45) = true := bne_iff_ne.mpr c19; by_cases c20 : ((bt a0 x3_1) = 46)
          ·
           rw [if_pos c20] at H; have c20b0 : ((bt a0 x3_1) == 46) = true := beq_iff_eq.mpr c20; have c20b1 : ((bt a0 x3_1) != 46) = false := bne_eq_false_iff_eq.mpr c20; clear c20; have H' := Aside0.mk H; clear H; have p4 : 0 ≤ (x3_1 : Int) := of_decide_eq_true (by first | (with_reducible assumption) | assumption); have q4 : x3_1 < (a0.size : Int) := of_decide_eq_true (by first | (with_reducible assumption) | assumption); have hx4 := bt_at a0 x3_1; replace p4 := eq_true p4; replace q4 := eq_true q4; go_wp2; go_roundg k1
           case measure => have := HK1.out; omega
           case rel => exact ⟨(wrap64 (x3_1 + 1)), (by first | rfl | (simp; done) | (simp [*]; done)), H', ⟨by have := HK1.out; omega⟩, by repeat (first | exact Drawn0.refl _ | apply Drawn0.step)⟩
          ·
           rw [if_neg c20] at H; have c20b0 : ((bt a0 x3_1) == 46) = false := beq_eq_false_iff_ne.mpr c20; have c20b1 : ((bt a0 x3_1) != 46) = true := bne_iff_ne.mpr c20; obtain rfl := Option.some.inj H; have p4 : 0 ≤ (x3_1 : Int) := of_decide_eq_true (by first | (with_reducible assumption) | assumption); have q4 : x3_1 < (a0.size : Int) := of_decide_eq_true (by first | (with_reducible assumption) | assumption); have hx4 := bt_at a0 x3_1; replace p4 := eq_true p4; replace q4 := eq_true q4; go_wp2; go_ret
           exact ⟨by first | rfl | (simp; done) | (simp [*]; done), by repeat (first | exact Drawn0.refl _ | apply Drawn0.step)⟩
     ·
      rw [if_neg c5] at H; have c5b0 : decide (97 ≤ (bt a0 x3_1)) = false := decide_eq_false c5; clear c5; by_cases c21 : (bt a0 x3_1) ≥ 65
      ·
       rw [if_pos c21] at H; have c21b0 : decide (65 ≤ (bt a0 x3_1)) = true := decide_eq_true c21; clear c21; by_cases c22 : (bt a0 x3_1) ≤ 90
       ·
        rw [if_pos c22] at H; have c22b0 : decide ((bt a0 x3_1) ≤ 90) = true := decide_eq_true c22; clear c22; have H' := Aside0.mk H; clear H; have p4 : 0 ≤ (x3_1 : Int) := of_decide_eq_true (by first | (with_reducible assumption) | assumption); have q4 : x3_1 < (a0.size : Int) := of_decide_eq_true (by first | (with_reducible assumption) | assumption); have hx4 := bt_at a0 x3_1; replace p4 := eq_true p4; replace q4 := eq_true q4; go_wp2; go_roundg k1
        case measure => have := HK1.out; omega
        case rel => exact ⟨(wrap64 (x3_1 + 1)), (by first | rfl | (simp; done) | (simp [*]; done)), H', ⟨by have := HK1.out; omega⟩, by repeat (first | exact Drawn0.refl _ | apply Drawn0.step)⟩
       ·
        rw [if_neg c22] at H; have c22b0 : decide ((bt a0 x3_1) ≤ 90) = false := decide_eq_false c22; clear c22; by_cases c23 : (bt a0 x3_1) ≥ 48
        ·
         rw [if_pos c23] at H; have c23b0 : decide (48 ≤ (bt a0 x3_1)) = true := decide_eq_true c23; clear c23; by_cases c24 : (bt a0 x3_1) ≤ 57
         ·
          rw [if_pos c24] at H; have c24b0 : decide ((bt a0 x3_1) ≤ 57) = true := decide_eq_true c24; clear c24; have H' := Aside0.mk H; clear H; have p4 : 0 ≤ (x3_1 : Int) := of_decide_eq_true (by first | (with_reducible assumption) | assumption); have q4 : x3_1 < (a0.size : Int) := of_decide_eq_true (by first | (with_reducible assumption) | assumption); have hx4 := bt_at a0 x3_1; replace p4 := eq_true p4; replace q4 := eq_true q4; go_wp2; go_roundg k1
          case measure => have := HK1.out; omega
          case rel => exact ⟨(wrap64 (x3_1 + 1)), (by first | rfl | (simp; done) | (simp [*]; done)), H', ⟨by have := HK1.out; omega⟩, by repeat (first | exact Drawn0.refl _ | apply Drawn0.step)⟩
         ·
          rw [if_neg c24] at H; have c24b0 : decide ((bt a0 x3_1) ≤ 57) = false := decide_eq_false c24; clear c24; by_cases c25 : (bt a0 x3_1) = 45
          ·
           rw [if_pos c25] at H; have c25b0 : ((bt a0 x3_1) == 45) = true := beq_iff_eq.mpr c25; have c25b1 : ((bt a0 x3_1) != 45) = false := bne_eq_false_iff_eq.mpr c25; clear c25; have H' := Aside0.mk H; clear H; have p4 : 0 ≤ (x3_1 : Int) := of_decide_eq_true (by first | (with_reducible assumption) | assumption); have q4 : x3_1 < (a0.size : Int) := of_decide_eq_true (by first | (with_reducible assumption) | assumption); have hx4 := bt_at a0 x3_1; replace p4 := eq_true p4; replace q4 := eq_true q4; go_wp2; go_roundg k1
           case measure => have := HK1.out; omega
           case rel => exact ⟨(wrap64 (x3_1 + 1)), (by first | rfl | (simp; done) | (simp [*]; done)), H', ⟨by have := HK1.out; omega⟩, by repeat (first | exact Drawn0.refl _ | apply Drawn0.step)⟩
          ·
           rw [if_neg c25] at H; have c25b0 : ((bt a0 x3_1) == 45) = false := beq_eq_false_iff_ne.mpr c25; have c25b1 : ((bt a0 x3_1) != 45) = true := bne_iff_ne.mpr c25; by_cases c26 : ((bt a0 x3_1) = 46)
           ·
            rw [if_pos c26] at H; have c26b0 : ((bt a0 x3_1) == 46) = true := beq_iff_eq.mpr c26; have c26b1 : ((bt a0 x3_1) != 46) = false := bne_eq_false_iff_eq.mpr c26; clear c26; have H' := Aside0.mk H; clear H; have p4 : 0 ≤ (x3_1 : Int) := of_decide_eq_true (by first | (with_reducible assumption) | assumption); have q4 : x3_1 < (a0.size : Int) := of_decide_eq_true (by first | (with_reducible assumption) | assumption); have hx4 := bt_at a0 x3_1; replace p4 := eq_true p4; replace q4 := eq_true q4; go_wp2; go_roundg k1
            case measure => have := HK1.out; omega
            case rel => exact ⟨(wrap64 (x3_1 + 1)), (by first | rfl | (simp; done) | (simp [*]; done)), H', ⟨by have := HK1.out; omega⟩, by repeat (first | exact Drawn0.refl _ | apply Drawn0.step)⟩
           ·
            rw [if_neg c26] at H; have c26b0 : ((bt a0 x3_1) == 46) = false := beq_eq_false_iff_ne.mpr c26; have c26b1 : ((bt a0 x3_1) != 46) = true := bne_iff_ne.mpr c26; obtain rfl := Option.some.inj H; have p4 : 0 ≤ (x3_1 : Int) := of_decide_eq_true (by first | (with_reducible assumption) | assumption); have q4 : x3_1 < (a0.size : Int) := of_decide_eq_true (by first | (with_reducible assumption) | assumption); have hx4 := bt_at a0 x3_1; replace p4 := eq_true p4; replace q4 := eq_true q4; go_wp2; go_ret
            exact ⟨by first | rfl | (simp; done) | (simp [*]; done), by repeat (first | exact Drawn0.refl _ | apply Drawn0.step)⟩
        ·
         rw [if_neg c23] at H; have c23b0 : decide (48 ≤ (bt a0 x3_1)) = false := decide_eq_false c23; clear c23; by_cases c27 : (bt a0 x3_1) = 45
         ·
          rw [if_pos c27] at H; have c27b0 : ((bt a0 x3_1) == 45) = true := beq_iff_eq.mpr c27; have c27b1 : ((bt a0 x3_1) != 45) = false := bne_eq_false_iff_eq.mpr c27; clear c27; have H' := Aside0.mk H; clear H; have p4 : 0 ≤ (x3_1 : Int) := of_decide_eq_true (by first | (with_reducible assumption) | assumption); have q4 : x3_1 < (a0.size : Int) := of_decide_eq_true (by first | (with_reducible assumption) | assumption); have hx4 := bt_at a0 x3_1; replace p4 := eq_true p4; replace q4 := eq_true q4; go_wp2; go_roundg k1
          case measure => have := HK1.out; omega
          case rel => exact ⟨(wrap64 (x3_1 + 1)), (by first | rfl | (simp; done) | (simp [*]; done)), H', ⟨by have := HK1.out; omega⟩, by repeat (first | exact Drawn0.refl _ | apply Drawn0.step)⟩
         ·
          rw [if_neg c27] at H; have c27b0 : ((bt a0 x3_1) == 45) = false := beq_eq_false_iff_ne.mpr c27; have c27b1 : ((bt a0 x3_1) != 45) = true := bne_iff_ne.mpr c27; by_cases c28 : ((bt a0 x3_1) = 46)
          ·
           rw [if_pos c28] at H; have c28b0 : ((bt a0 x3_1) == 46) = true := beq_iff_eq.mpr c28; have c28b1 : ((bt a0 x3_1) != 46) = false := bne_eq_false_iff_eq.mpr c28; clear c28; have H' := Aside0.mk H; clear H; have p4 : 0 ≤ (x3_1 : Int) := of_decide_eq_true (by first | (with_reducible assumption) | assumption); have q4 : x3_1 < (a0.size : Int) := of_decide_eq_true (by first | (with_reducible assumption) | assumption); have hx4 := bt_at a0 x3_1; replace p4 := eq_true p4; replace q4 := eq_true q4; go_wp2; go_roundg k1
           case measure => have := HK1.out; omega
           case rel => exact ⟨(wrap64 (x3_1 + 1)), (by first | rfl | (simp; done) | (simp [*]; done)), H', ⟨by have := HK1.out; omega⟩, by repeat (first | exact Drawn0.refl _ | apply Drawn0.step)⟩
          ·
           rw [if_neg c28] at H; have c28b0 : ((bt a0 x3_1) == 46) = false := beq_eq_false_iff_ne.mpr c28; have c28b1 : ((bt a0 x3_1) != 46) = true := bne_iff_ne.mpr c28; obtain rfl := Option.some.inj H; have p4 : 0 ≤ (x3_1 : Int) := of_decide_eq_true (by first | (with_reducible assumption) | assumption); have q4 : x3_1 < (a0.size : Int) := of_decide_eq_true (by first | (with_reducible assumption) | assumption); have hx4 := bt_at a0 x3_1; replace p4 := eq_true p4; replace q4 := eq_true q4; go_wp2; go_ret
           exact ⟨by first | rfl | (simp; done) | (simp [*]; done), by repeat (first | exact Drawn0.refl _ | apply Drawn0.step)⟩
      ·
       rw [if_neg c21] at H; have c21b0 : decide (65 ≤ (bt a0 x3_1)) = false := decide_eq_false c21; clear c21; by_cases c29 : (bt a0 x3_1) ≥ 48
       ·
        rw [if_pos c29] at H; have c29b0 : decide (48 ≤ (bt a0 x3_1)) = true := decide_eq_true c29; clear c29; by_cases c30 : (bt a0 x3_1) ≤ 57
        ·
         rw [if_pos c30] at H; have c30b0 : decide ((bt a0 x3_1) ≤ 57) = true := decide_eq_true c30; clear c30; have H' := Aside0.mk H; clear H; have p4 : 0 ≤ (x3_1 : Int) := of_decide_eq_true (by first | (with_reducible assumption) | assumption); have q4 : x3_1 < (a0.size : Int) := of_decide_eq_true (by first | (with_reducible assumption) | assumption); have hx4 := bt_at a0 x3_1; replace p4 := eq_true p4; replace q4 := eq_true q4; go_wp2; go_roundg k1
         case measure => have := HK1.out; omega
         case rel => exact ⟨(wrap64 (x3_1 + 1)), (by first | rfl | (simp; done) | (simp [*]; done)), H', ⟨by have := HK1.out; omega⟩, by repeat (first | exact Drawn0.refl _ | apply Drawn0.step)⟩
        ·
         rw [if_neg c30] at H; have c30b0 : decide ((bt a0 x3_1) ≤ 57) = false := decide_eq_false c30; clear c30; by_cases c31 : (bt a0 x3_1) = 45
         ·
          rw [if_pos c31] at H; have c31b0 : ((bt a0 x3_1) == 45) = true := beq_iff_eq.mpr c31; have c31b1 : ((bt a0 x3_1) != 45) = false := bne_eq_false_iff_eq.mpr c31; clear c31; have H' := Aside0.mk H; clear H; have p4 : 0 ≤ (x3_1 : Int) := of_decide_eq_true (by first | (with_reducible assumption) | assumption); have q4 : x3_1 < (a0.size : Int) := of_decide_eq_true (by first | (with_reducible assumption) | assumption); have hx4 := bt_at a0 x3_1; replace p4 := eq_true p4; replace q4 := eq_true q4; go_wp2; go_roundg k1
          case measure => have := HK1.out; omega
          case rel => exact ⟨(wrap64 (x3_1 + 1)), (by first | rfl | (simp; done) | (simp [*]; done)), H', ⟨by have := HK1.out; omega⟩, by repeat (first | exact Drawn0.refl _ | apply Drawn0.step)⟩
         ·
          rw [if_neg c31] at H; have c31b0 : ((bt a0 x3_1) == 45) = false := beq_eq_false_iff_ne.mpr c31; have c31b1 : ((bt a0 x3_1) != 45) = true := bne_iff_ne.mpr c31; by_cases c32 : ((bt a0 x3_1) = 46)
          ·
           rw [if_pos c32] at H; have c32b0 : ((bt a0 x3_1) == 46) = true := beq_iff_eq.mpr c32; have c32b1 : ((bt a0 x3_1) != 46) = false := bne_eq_false_iff_eq.mpr c32; clear c32; have H' := Aside0.mk H; clear H; have p4 : 0 ≤ (x3_1 : Int) := of_decide_eq_true (by first | (with_reducible assumption) | assumption); have q4 : x3_1 < (a0.size : Int) := of_decide_eq_true (by first | (with_reducible assumption) | assumption); have hx4 := bt_at a0 x3_1; replace p4 := eq_true p4; replace q4 := eq_true q4; go_wp2; go_roundg k1
           case measure => have := HK1.out; omega
           case rel => exact ⟨(wrap64 (x3_1 + 1)), (by first | rfl | (simp; done) | (simp [*]; done)), H', ⟨by have := HK1.out; omega⟩, by repeat (first | exact Drawn0.refl _ | apply Drawn0.step)⟩
          ·
           rw [if_neg c32] at H; have c32b0 : ((bt a0 x3_1) == 46) = false := beq_eq_false_iff_ne.mpr c32; have c32b1 : ((bt a0 x3_1) != 46) = true := bne_iff_ne.mpr c32; obtain rfl := Option.some.inj H; have p4 : 0 ≤ (x3_1 : Int) := of_decide_eq_true (by first | (with_reducible assumption) | assumption); have q4 : x3_1 < (a0.size : Int) := of_decide_eq_true (by first | (with_reducible assumption) | assumption); have hx4 := bt_at a0 x3_1; replace p4 := eq_true p4; replace q4 := eq_true q4; go_wp2; go_ret
           exact ⟨by first | rfl | (simp; done) | (simp [*]; done), by repeat (first | exact Drawn0.refl _ | apply Drawn0.step)⟩
       ·
        rw [if_neg c29] at H; have c29b0 : decide (48 ≤ (bt a0 x3_1)) = false := decide_eq_false c29; clear c29; by_cases c33 : (bt a0 x3_1) = 45
        ·
         rw [if_pos c33] at H; have c33b0 : ((bt a0 x3_1) == 45) = true := beq_iff_eq.mpr c33; have c33b1 : ((bt a0 x3_1) != 45) = false := bne_eq_false_iff_eq.mpr c33; clear c33; have H' := Aside0.mk H; clear H; have p4 : 0 ≤ (x3_1 : Int) := of_decide_eq_true (by first | (with_reducible assumption) | assumption); have q4 : x3_1 < (a0.size : Int) := of_decide_eq_true (by first | (with_reducible assumption) | assumption); have hx4 := bt_at a0 x3_1; replace p4 := eq_true p4; replace q4 := eq_true q4; go_wp2; go_roundg k1
         case measure => have := HK1.out; omega
         case rel => exact ⟨(wrap64 (x3_1 + 1)), (by first | rfl | (simp; done) | (simp [*]; done)), H', ⟨by have := HK1.out; omega⟩, by repeat (first | exact Drawn0.refl _ | apply Drawn0.step)⟩
        ·
         rw [if_neg c33] at H; have c33b0 : ((bt a0 x3_1) == 45) = false := beq_eq_false_iff_ne.mpr c33; have c33b1 : ((bt a0 x3_1) != 45) = true := bne_iff_ne.mpr c33; by_cases c34 : ((bt a0 x3_1) = 46)
         ·
          rw [if_pos c34] at H; have c34b0 : ((bt a0 x3_1) == 46) = true := beq_iff_eq.mpr c34; have c34b1 : ((bt a0 x3_1) != 46) = false := bne_eq_false_iff_eq.mpr c34; clear c34; have H' := Aside0.mk H; clear H; have p4 : 0 ≤ (x3_1 : Int) := of_decide_eq_true (by first | (with_reducible assumption) | assumption); have q4 : x3_1 < (a0.size : Int) := of_decide_eq_true (by first | (with_reducible assumption) | assumption); have hx4 := bt_at a0 x3_1; replace p4 := eq_true p4; replace q4 := eq_true q4; go_wp2; go_roundg k1
          case measure => have := HK1.out; omega
          case rel => exact ⟨(wrap64 (x3_1 + 1)), (by first | rfl | (simp; done) | (simp [*]; done)), H', ⟨by have := HK1.out; omega⟩, by repeat (first | exact Drawn0.refl _ | apply Drawn0.step)⟩
         ·
          rw [if_neg c34] at H; have c34b0 : ((bt a0 x3_1) == 46) = false := beq_eq_false_iff_ne.mpr c34; have c34b1 : ((bt a0 x3_1) != 46) = true := bne_iff_ne.mpr c34; obtain rfl := Option.some.inj H; have p4 : 0 ≤ (x3_1 : Int) := of_decide_eq_true (by first | (with_reducible assumption) | assumption); have q4 : x3_1 < (a0.size : Int) := of_decide_eq_true (by first | (with_reducible assumption) | assumption); have hx4 := bt_at a0 x3_1; replace p4 := eq_true p4; replace q4 := eq_true q4; go_wp2; go_ret
          exact ⟨by first | rfl | (simp; done) | (simp [*]; done), by repeat (first | exact Drawn0.refl _ | apply Drawn0.step)⟩
    · rw [if_neg c3] at H; exact absurd H (by simp)
   ·
    rw [if_neg c2] at H; have c2b0 : decide (x3_1 < (a0.size : Int)) = false := decide_eq_false c2; clear c2; by_cases c35 : (a0.size : Int) ≥ 1
    ·
     rw [if_pos c35] at H; have c35b0 : decide (1 ≤ (a0.size : Int)) = true := decide_eq_true c35; have c35b1 : decide (1 ≤ a0.size) = true := decide_eq_true (by omega); clear c35; obtain rfl := Option.some.inj H; go_wp2; go_ret
     exact ⟨by first | rfl | (simp; done) | (simp [*]; done), by repeat (first | exact Drawn0.refl _ | apply Drawn0.step)⟩
    ·
     rw [if_neg c35] at H; have c35b0 : decide (1 ≤ (a0.size : Int)) = false := decide_eq_false c35; have c35b1 : decide (1 ≤ a0.size) = false := decide_eq_false (by omega); clear c35; obtain rfl := Option.some.inj H; go_wp2; go_ret
     exact ⟨by first | rfl | (simp; done) | (simp [*]; done), by repeat (first | exact Drawn0.refl _ | apply Drawn0.step)⟩
def spileref08_isLength.f (a0 : Int) : Option (Bool) := if a0 ≥ 0 then (some (decide (a0 ≤ 100000))) else (some false)
set_option maxHeartbeats 8000000 in
set_option maxRecDepth 100000 in
theorem spileref08_isLength.calls (a0 : Int) (r : Bool) (w : World) (h : spileref08_isLength.f a0 = some r) :
  Calls Tryd.prog 60 #[.int .i64 a0] w fun e w' => e = .returned (.bool r) ∧ Drawn0 w w' := by
 have H : (if a0 ≥ 0 then (some (decide (a0 ≤ 100000))) else (some false)) = some r := h; clear h; by_cases c2 : a0 ≥ 0
 ·
  rw [if_pos c2] at H; have c2b0 : decide (0 ≤ a0) = true := decide_eq_true c2; clear c2; obtain rfl := Option.some.inj H; go_enter Tryd.func60, Tryd.ntmps60
  go_wp2; go_ret
  exact ⟨by first | rfl | (simp; done) | (simp [*]; done), by repeat (first | exact Drawn0.refl _ | apply Drawn0.step)⟩
 ·
  rw [if_neg c2] at H; have c2b0 : decide (0 ≤ a0) = false := decide_eq_false c2; clear c2; obtain rfl := Option.some.inj H; go_enter Tryd.func60, Tryd.ntmps60
  go_wp2; go_ret
  exact ⟨by first | rfl | (simp; done) | (simp [*]; done), by repeat (first | exact Drawn0.refl _ | apply Drawn0.step)⟩
end Go.Proofs.YtnhmlneebnkjcaaDoor.Pr
namespace Go.Proofs.YtnhmlneebnkjcaaDoor.Pr
open Go.RowKit Go.Proofs.YtnhmlneebnkjcaaDoorW.PrintWords Go.Proofs.YtnhmlneebnkjcaaDoorW.PrintLast Go.Proofs.YtnhmlneebnkjcaaDoorW.PrintMore Go.Proofs.YtnhmlneebnkjcaaDoor.X
attribute [local go_sem] max2_int min2_int max_two min_two max_three min_three max_four min_four   -- for this text's walks alone
set_option linter.unusedVariables false
set_option linter.unusedSimpArgs false
mutual
def spileref08_Check.l0 : Nat → List (S46) → Int → Option (Int)
 | 0, _, _ => none
 | k + 1, x0, x3 => if x3 < (x0.length : Int) then (if 0 ≤ x3 then ((spileref08_isLength.f ((rd_T46 x0 x3).f0)).bind fun t192 => (if t192 = true then ((spileref08_isLength.f ((rd_T46 x0 x3).f1)).bind fun t194 => (if t194 = true then (spileref08_Check.l0 k x0 (wrap64 (x3 + 1))) else (some 2))) else (some 2))) else (none)) else (spileref08_Check.l1 k x0 0)
def spileref08_Check.l1 : Nat → List (S46) → Int → Option (Int)
 | 0, _, _ => none
 | k + 1, x0, x4 => if x4 < (x0.length : Int) then (if x4 = 0 then (if 0 ≤ x4 then (if ((rd_T46 x0 x4).f0) = 0 then (if x4 > 0 then (if 0 ≤ (wrap64 (x4 - 1)) then (if (wrap64 (x4 - 1)) < (x0.length : Int) then (if ((rd_T46 x0 (wrap64 (x4 - 1))).f0) ≥ ((rd_T46 x0 x4).f0) then (some 5) else (spileref08_Check.l1 k x0 (wrap64 (x4 + 1)))) else (none)) else (none)) else (spileref08_Check.l1 k x0 (wrap64 (x4 + 1)))) else (some 5)) else (none)) else (if x4 > 0 then (if 0 ≤ (wrap64 (x4 - 1)) then (if (wrap64 (x4 - 1)) < (x0.length : Int) then (if 0 ≤ x4 then (if ((rd_T46 x0 (wrap64 (x4 - 1))).f0) ≥ ((rd_T46 x0 x4).f0) then (some 5) else (spileref08_Check.l1 k x0 (wrap64 (x4 + 1)))) else (none)) else (none)) else (none)) else (spileref08_Check.l1 k x0 (wrap64 (x4 + 1))))) else (spileref08_Check.l2 k x0 0)
def spileref08_Check.l2 : Nat → List (S46) → Int → Option (Int)
 | 0, _, _ => none
 | k + 1, x0, x5 => if x5 < (x0.length : Int) then (if 0 ≤ x5 then (if ((rd_T46 x0 x5).f1) = 0 then (some 16) else (spileref08_Check.l2 k x0 (wrap64 (x5 + 1)))) else (none)) else (spileref08_Check.l3 k x0 false 1)
def spileref08_Check.l3 : Nat → List (S46) → Bool → Int → Option (Int)
 | 0, _, _, _ => none
 | k + 1, x0, x6, x7 => if x7 < (x0.length : Int) then (if x6 = true then (if 0 ≤ x7 then (if 0 ≤ (wrap64 (x7 - 1)) then (if (wrap64 (x7 - 1)) < (x0.length : Int) then (if ((rd_T46 x0 x7).f1) > ((rd_T46 x0 (wrap64 (x7 - 1))).f1) then (some 10) else (spileref08_Check.l3 k x0 true (wrap64 (x7 + 1)))) else (none)) else (none)) else (none)) else (if 0 ≤ x7 then (if 0 ≤ (wrap64 (x7 - 1)) then (if (wrap64 (x7 - 1)) < (x0.length : Int) then (spileref08_Check.l3 k x0 (decide (((rd_T46 x0 x7).f1) < ((rd_T46 x0 (wrap64 (x7 - 1))).f1))) (wrap64 (x7 + 1))) else (none)) else (none)) else (none))) else (some 0)
end
def spileref08_Check.f (k : Nat) (l0 : List (S46)) : Option (Int) := if (l0.length : Int) < 2 then (some 9) else (if (l0.length : Int) > 32 then (some 8) else (spileref08_Check.l0 k l0 0))
set_option maxHeartbeats 8000000 in
set_option maxRecDepth 100000 in
theorem spileref08_Check.calls (k : Nat) (A0 : Option Addr) (c0 : Nat) (l0 : List (S46)) (r : Int) (w : World) (hr0 : Kd.C k46 w A0 l0.length l0) (hc0 : l0.length ≤ c0) (h : spileref08_Check.f k l0 = some r) :
  Calls Tryd.prog 41 #[.slice A0 l0.length c0] w fun e w' => e = .returned (.int .i64 r) ∧ Drawn0 w w' := by
 have HR0 := Aside0.mk hr0; have HC0 := Aside0.mk hc0; clear hr0 hc0; have H : (if (l0.length : Int) < 2 then (some 9) else (if (l0.length : Int) > 32 then (some 8) else (spileref08_Check.l0 k l0 0))) = some r := h; clear h; by_cases c2 : (l0.length : Int) < 2
 ·
  rw [if_pos c2] at H; have c2b0 : decide ((l0.length : Int) < 2) = true := decide_eq_true c2; have c2b1 : decide (l0.length < 2) = true := decide_eq_true (by omega); clear c2; obtain rfl := Option.some.inj H; go_enter Tryd.func41, Tryd.ntmps41
  go_wp2; repeat (go_quiet (fail); try go_wp2)
  go_ret
  exact ⟨by first | rfl | (simp; done) | (simp [*]; done), by repeat (first | exact Drawn0.refl _ | apply Drawn0.step)⟩
 ·
  rw [if_neg c2] at H; have c2b0 : decide ((l0.length : Int) < 2) = false := decide_eq_false c2; have c2b1 : decide (l0.length < 2) = false := decide_eq_false (by omega); clear c2; by_cases c3 : (l0.length : Int) > 32
  ·
   rw [if_pos c3] at H; have c3b0 : decide (32 < (l0.length : Int)) = true := decide_eq_true c3; have c3b1 : decide (32 < l0.length) = true := decide_eq_true (by omega); clear c3; obtain rfl := Option.some.inj H; go_enter Tryd.func41, Tryd.ntmps41
   go_wp2; repeat (go_quiet (fail); try go_wp2)
   go_ret
   exact ⟨by first | rfl | (simp; done) | (simp [*]; done), by repeat (first | exact Drawn0.refl _ | apply Drawn0.step)⟩
  ·
   rw [if_neg c3] at H; have c3b0 : decide (32 < (l0.length : Int)) = false := decide_eq_false c3; have c3b1 : decide (32 < l0.length) = false := decide_eq_false (by omega); clear c3; have H' := Aside0.mk H; clear H; go_enter Tryd.func41, Tryd.ntmps41
   go_wp2; repeat (go_quiet (fail); try go_wp2)
   go_loopg [3] k (fun kq v3 w' => ∃ (x3_1 : Int), v3 = .int .i64 x3_1 ∧ Aside0 (spileref08_Check.l0 kq l0 x3_1 = some r) ∧ Aside0 (kq ≤ k) ∧ Drawn0 w w')
   case atStart => exact ⟨(0), (by first | rfl | (simp; done) | (simp [*]; done)), H', ⟨Nat.le_refl _⟩, by repeat (first | exact Drawn0.refl _ | apply Drawn0.step)⟩
   case round =>
    clear H'; try clear c2
    try clear c2b0
    try clear c2b1
    try clear p2
    try clear c3
    try clear c3b0
    try clear c3b1
    obtain ⟨x3_1, rfl, HA, HK1, ⟨m1, rfl⟩⟩ := hrel
    cases gk with
    | zero => exact absurd HA.out (by simp [spileref08_Check.l0])
    | succ k1 =>
     have H := HA.out; clear HA; simp only [spileref08_Check.l0] at H; by_cases c4 : x3_1 < (l0.length : Int)
     ·
      rw [if_pos c4] at H; have c4b0 : decide (x3_1 < (l0.length : Int)) = true := decide_eq_true c4; clear c4; by_cases c5 : 0 ≤ x3_1
      ·
       rw [if_pos c5] at H; have c5b0 : decide (0 ≤ x3_1) = true := decide_eq_true c5; clear c5; replace H := Option.bind_eq_some_iff.mp H; obtain ⟨t192, A60, H⟩ := H; replace H : (if t192 = true then ((spileref08_isLength.f ((rd_T46 l0 x3_1).f1)).bind fun t194 => (if t194 = true then (spileref08_Check.l0 k1 l0 (wrap64 (x3_1 + 1))) else (some 2))) else (some 2)) = some r := H; have A6 := Aside0.mk A60; clear A60; by_cases c7 : t192 = true
       ·
        subst c7; have H1 : ((spileref08_isLength.f ((rd_T46 l0 x3_1).f1)).bind fun t194 => (if t194 = true then (spileref08_Check.l0 k1 l0 (wrap64 (x3_1 + 1))) else (some 2))) = some r := by rw [if_pos rfl] at H; exact H
        clear H; have H := H1; clear H1; replace H := Option.bind_eq_some_iff.mp H; obtain ⟨t194, A80, H⟩ := H; replace H : (if t194 = true then (spileref08_Check.l0 k1 l0 (wrap64 (x3_1 + 1))) else (some 2)) = some r := H; have A8 := Aside0.mk A80; clear A80; by_cases c9 : t194 = true
        ·
         subst c9; have H1 : (spileref08_Check.l0 k1 l0 (wrap64 (x3_1 + 1))) = some r := by rw [if_pos rfl] at H; exact H
         clear H; have H := H1; clear H1; have H' := Aside0.mk H; clear H; have p191 : 0 ≤ (x3_1 : Int) := of_decide_eq_true (by first | (with_reducible assumption) | assumption); have q191 : x3_1 < (l0.length : Int) := of_decide_eq_true (by first | (with_reducible assumption) | assumption); obtain ⟨ad191, e191, hx191_0, hx191_1⟩ := at_T46 HR0.out x3_1 p191 q191; cases e191; replace p191 := eq_true p191; replace q191 := eq_true q191; go_wp2_with (first | (go_at_call 60; (with_reducible refine (spileref08_isLength.calls ((rd_T46 l0 x3_1).f0) true _ A6.out).mono ?_); rintro e w' ⟨rfl, ⟨nd, rfl⟩⟩; (try first | exact ⟨rfl, _, World.drewN_drewN _ _ _⟩ | exact ⟨rfl, _, Eq.trans (World.drewN_drewN _ _ _) (congrArg (World.drewN _) (Nat.add_assoc _ _ _))⟩); have p193 : 0 ≤ (x3_1 : Int) := of_decide_eq_true (by first | (with_reducible assumption) | assumption); have q193 : x3_1 < (l0.length : Int) := of_decide_eq_true (by first | (with_reducible assumption) | assumption); obtain ⟨ad193, e193, hx193_0, hx193_1⟩ := at_T46 HR0.out x3_1 p193 q193; obtain rfl : ad191 = ad193 := (by injection e193); replace p193 := eq_true p193; replace q193 := eq_true q193) | (go_at_call 60; (with_reducible refine (spileref08_isLength.calls ((rd_T46 l0 x3_1).f1) true _ A8.out).mono ?_); rintro e w' ⟨rfl, ⟨nd, rfl⟩⟩; (try first | exact ⟨rfl, _, World.drewN_drewN _ _ _⟩ | exact ⟨rfl, _, Eq.trans (World.drewN_drewN _ _ _) (congrArg (World.drewN _) (Nat.add_assoc _ _ _))⟩)))
         repeat (go_quiet (first | (go_at_call 60; (with_reducible refine (spileref08_isLength.calls ((rd_T46 l0 x3_1).f0) true _ A6.out).mono ?_); rintro e w' ⟨rfl, ⟨nd, rfl⟩⟩; (try first | exact ⟨rfl, _, World.drewN_drewN _ _ _⟩ | exact ⟨rfl, _, Eq.trans (World.drewN_drewN _ _ _) (congrArg (World.drewN _) (Nat.add_assoc _ _ _))⟩); have p193 : 0 ≤ (x3_1 : Int) := of_decide_eq_true (by first | (with_reducible assumption) | assumption); have q193 : x3_1 < (l0.length : Int) := of_decide_eq_true (by first | (with_reducible assumption) | assumption); obtain ⟨ad193, e193, hx193_0, hx193_1⟩ := at_T46 HR0.out x3_1 p193 q193; obtain rfl : ad191 = ad193 := (by injection e193); replace p193 := eq_true p193; replace q193 := eq_true q193) | (go_at_call 60; (with_reducible refine (spileref08_isLength.calls ((rd_T46 l0 x3_1).f1) true _ A8.out).mono ?_); rintro e w' ⟨rfl, ⟨nd, rfl⟩⟩; (try first | exact ⟨rfl, _, World.drewN_drewN _ _ _⟩ | exact ⟨rfl, _, Eq.trans (World.drewN_drewN _ _ _) (congrArg (World.drewN _) (Nat.add_assoc _ _ _))⟩))); try go_wp2_with (first | (go_at_call 60; (with_reducible refine (spileref08_isLength.calls ((rd_T46 l0 x3_1).f0) true _ A6.out).mono ?_); rintro e w' ⟨rfl, ⟨nd, rfl⟩⟩; (try first | exact ⟨rfl, _, World.drewN_drewN _ _ _⟩ | exact ⟨rfl, _, Eq.trans (World.drewN_drewN _ _ _) (congrArg (World.drewN _) (Nat.add_assoc _ _ _))⟩); have p193 : 0 ≤ (x3_1 : Int) := of_decide_eq_true (by first | (with_reducible assumption) | assumption); have q193 : x3_1 < (l0.length : Int) := of_decide_eq_true (by first | (with_reducible assumption) | assumption); obtain ⟨ad193, e193, hx193_0, hx193_1⟩ := at_T46 HR0.out x3_1 p193 q193; obtain rfl : ad191 = ad193 := (by injection e193); replace p193 := eq_true p193; replace q193 := eq_true q193) | (go_at_call 60; (with_reducible refine (spileref08_isLength.calls ((rd_T46 l0 x3_1).f1) true _ A8.out).mono ?_); rintro e w' ⟨rfl, ⟨nd, rfl⟩⟩; (try first | exact ⟨rfl, _, World.drewN_drewN _ _ _⟩ | exact ⟨rfl, _, Eq.trans (World.drewN_drewN _ _ _) (congrArg (World.drewN _) (Nat.add_assoc _ _ _))⟩))))
         go_roundg k1
         case measure => have := HK1.out; omega
         case rel => exact ⟨(wrap64 (x3_1 + 1)), (by first | rfl | (simp; done) | (simp [*]; done)), H', ⟨by have := HK1.out; omega⟩, by repeat (first | exact Drawn0.refl _ | apply Drawn0.step)⟩
        ·
         replace c9 := Bool.eq_false_iff.mpr c9; subst c9; have H1 : (some 2) = some r := by rw [if_neg (show ¬ (false = true) by decide)] at H; exact H
         clear H; have H := H1; clear H1; obtain rfl := Option.some.inj H; have p191 : 0 ≤ (x3_1 : Int) := of_decide_eq_true (by first | (with_reducible assumption) | assumption); have q191 : x3_1 < (l0.length : Int) := of_decide_eq_true (by first | (with_reducible assumption) | assumption); obtain ⟨ad191, e191, hx191_0, hx191_1⟩ := at_T46 HR0.out x3_1 p191 q191; cases e191; replace p191 := eq_true p191; replace q191 := eq_true q191; go_wp2_with (first | (go_at_call 60; (with_reducible refine (spileref08_isLength.calls ((rd_T46 l0 x3_1).f0) true _ A6.out).mono ?_); rintro e w' ⟨rfl, ⟨nd, rfl⟩⟩; (try first | exact ⟨rfl, _, World.drewN_drewN _ _ _⟩ | exact ⟨rfl, _, Eq.trans (World.drewN_drewN _ _ _) (congrArg (World.drewN _) (Nat.add_assoc _ _ _))⟩); have p193 : 0 ≤ (x3_1 : Int) := of_decide_eq_true (by first | (with_reducible assumption) | assumption); have q193 : x3_1 < (l0.length : Int) := of_decide_eq_true (by first | (with_reducible assumption) | assumption); obtain ⟨ad193, e193, hx193_0, hx193_1⟩ := at_T46 HR0.out x3_1 p193 q193; obtain rfl : ad191 = ad193 := (by injection e193); replace p193 := eq_true p193; replace q193 := eq_true q193) | (go_at_call 60; (with_reducible refine (spileref08_isLength.calls ((rd_T46 l0 x3_1).f1) false _ A8.out).mono ?_); rintro e w' ⟨rfl, ⟨nd, rfl⟩⟩; (try first | exact ⟨rfl, _, World.drewN_drewN _ _ _⟩ | exact ⟨rfl, _, Eq.trans (World.drewN_drewN _ _ _) (congrArg (World.drewN _) (Nat.add_assoc _ _ _))⟩)))
         repeat (go_quiet (first | (go_at_call 60; (with_reducible refine (spileref08_isLength.calls ((rd_T46 l0 x3_1).f0) true _ A6.out).mono ?_); rintro e w' ⟨rfl, ⟨nd, rfl⟩⟩; (try first | exact ⟨rfl, _, World.drewN_drewN _ _ _⟩ | exact ⟨rfl, _, Eq.trans (World.drewN_drewN _ _ _) (congrArg (World.drewN _) (Nat.add_assoc _ _ _))⟩); have p193 : 0 ≤ (x3_1 : Int) := of_decide_eq_true (by first | (with_reducible assumption) | assumption); have q193 : x3_1 < (l0.length : Int) := of_decide_eq_true (by first | (with_reducible assumption) | assumption); obtain ⟨ad193, e193, hx193_0, hx193_1⟩ := at_T46 HR0.out x3_1 p193 q193; obtain rfl : ad191 = ad193 := (by injection e193); replace p193 := eq_true p193; replace q193 := eq_true q193) | (go_at_call 60; (with_reducible refine (spileref08_isLength.calls ((rd_T46 l0 x3_1).f1) false _ A8.out).mono ?_); rintro e w' ⟨rfl, ⟨nd, rfl⟩⟩; (try first | exact ⟨rfl, _, World.drewN_drewN _ _ _⟩ | exact ⟨rfl, _, Eq.trans (World.drewN_drewN _ _ _) (congrArg (World.drewN _) (Nat.add_assoc _ _ _))⟩))); try go_wp2_with (first | (go_at_call 60; (with_reducible refine (spileref08_isLength.calls ((rd_T46 l0 x3_1).f0) true _ A6.out).mono ?_); rintro e w' ⟨rfl, ⟨nd, rfl⟩⟩; (try first | exact ⟨rfl, _, World.drewN_drewN _ _ _⟩ | exact ⟨rfl, _, Eq.trans (World.drewN_drewN _ _ _) (congrArg (World.drewN _) (Nat.add_assoc _ _ _))⟩); have p193 : 0 ≤ (x3_1 : Int) := of_decide_eq_true (by first | (with_reducible assumption) | assumption); have q193 : x3_1 < (l0.length : Int) := of_decide_eq_true (by first | (with_reducible assumption) | assumption); obtain ⟨ad193, e193, hx193_0, hx193_1⟩ := at_T46 HR0.out x3_1 p193 q193; obtain rfl : ad191 = ad193 := (by injection e193); replace p193 := eq_true p193; replace q193 := eq_true q193) | (go_at_call 60; (with_reducible refine (spileref08_isLength.calls ((rd_T46 l0 x3_1).f1) false _ A8.out).mono ?_); rintro e w' ⟨rfl, ⟨nd, rfl⟩⟩; (try first | exact ⟨rfl, _, World.drewN_drewN _ _ _⟩ | exact ⟨rfl, _, Eq.trans (World.drewN_drewN _ _ _) (congrArg (World.drewN _) (Nat.add_assoc _ _ _))⟩))))
         go_ret
         exact ⟨by first | rfl | (simp; done) | (simp [*]; done), by repeat (first | exact Drawn0.refl _ | apply Drawn0.step)⟩
       ·
        replace c7 := Bool.eq_false_iff.mpr c7; subst c7; have H1 : (some 2) = some r := by rw [if_neg (show ¬ (false = true) by decide)] at H; exact H
        clear H; have H := H1; clear H1; obtain rfl := Option.some.inj H; have p191 : 0 ≤ (x3_1 : Int) := of_decide_eq_true (by first | (with_reducible assumption) | assumption); have q191 : x3_1 < (l0.length : Int) := of_decide_eq_true (by first | (with_reducible assumption) | assumption); obtain ⟨ad191, e191, hx191_0, hx191_1⟩ := at_T46 HR0.out x3_1 p191 q191; cases e191; replace p191 := eq_true p191; replace q191 := eq_true q191; go_wp2_with (first | (go_at_call 60; (with_reducible refine (spileref08_isLength.calls ((rd_T46 l0 x3_1).f0) false _ A6.out).mono ?_); rintro e w' ⟨rfl, ⟨nd, rfl⟩⟩; (try first | exact ⟨rfl, _, World.drewN_drewN _ _ _⟩ | exact ⟨rfl, _, Eq.trans (World.drewN_drewN _ _ _) (congrArg (World.drewN _) (Nat.add_assoc _ _ _))⟩)))
        repeat (go_quiet (first | (go_at_call 60; (with_reducible refine (spileref08_isLength.calls ((rd_T46 l0 x3_1).f0) false _ A6.out).mono ?_); rintro e w' ⟨rfl, ⟨nd, rfl⟩⟩; (try first | exact ⟨rfl, _, World.drewN_drewN _ _ _⟩ | exact ⟨rfl, _, Eq.trans (World.drewN_drewN _ _ _) (congrArg (World.drewN _) (Nat.add_assoc _ _ _))⟩))); try go_wp2_with (first | (go_at_call 60; (with_reducible refine (spileref08_isLength.calls ((rd_T46 l0 x3_1).f0) false _ A6.out).mono ?_); rintro e w' ⟨rfl, ⟨nd, rfl⟩⟩; (try first | exact ⟨rfl, _, World.drewN_drewN _ _ _⟩ | exact ⟨rfl, _, Eq.trans (World.drewN_drewN _ _ _) (congrArg (World.drewN _) (Nat.add_assoc _ _ _))⟩))))
        go_ret
        exact ⟨by first | rfl | (simp; done) | (simp [*]; done), by repeat (first | exact Drawn0.refl _ | apply Drawn0.step)⟩
      · rw [if_neg c5] at H; exact absurd H (by simp)
     ·
      rw [if_neg c4] at H; have c4b0 : decide (x3_1 < (l0.length : Int)) = false := decide_eq_false c4; clear c4; have H' := Aside0.mk H; clear H; go_wp2; repeat (go_quiet (fail); try go_wp2)
      go_loopg [4] k1 (fun kq v4 w' => ∃ (x4_2 : Int), v4 = .int .i64 x4_2 ∧ Aside0 (spileref08_Check.l1 kq l0 x4_2 = some r) ∧ Aside0 (kq ≤ k1) ∧ Drawn0 w w')
      case atStart => exact ⟨(0), (by first | rfl | (simp; done) | (simp [*]; done)), H', ⟨Nat.le_refl _⟩, by repeat (first | exact Drawn0.refl _ | apply Drawn0.step)⟩
      case round =>
       clear H'; try clear p1
       try clear q1
       try clear hx1
       try clear c2
       try clear c2b0
       try clear c2b1
       try clear p2
       try clear c3
       try clear c3b0
       try clear c3b1
       try clear c4
       try clear c4b0
       try clear c5
       try clear c5b0
       try clear p6
       try clear c7
       try clear c9
       try clear hx191_0
       try clear hx191_1
       try clear hx193_0
       try clear hx193_1
       try clear p191
       try clear p193
       try clear p2
       try clear q191
       try clear q193
       obtain ⟨x4_2, rfl, HA, HK2, ⟨m2, rfl⟩⟩ := hrel
       cases gk with
       | zero => exact absurd HA.out (by simp [spileref08_Check.l1])
       | succ k2 =>
        have H := HA.out; clear HA; simp only [spileref08_Check.l1] at H; by_cases c10 : x4_2 < (l0.length : Int)
        ·
         rw [if_pos c10] at H; have c10b0 : decide (x4_2 < (l0.length : Int)) = true := decide_eq_true c10; clear c10; by_cases c11 : x4_2 = 0
         ·
          rw [if_pos c11] at H; have c11b0 : (x4_2 == 0) = true := beq_iff_eq.mpr c11; have c11b1 : (x4_2 != 0) = false := bne_eq_false_iff_eq.mpr c11; clear c11; by_cases c12 : 0 ≤ x4_2
          ·
           rw [if_pos c12] at H; have c12b0 : decide (0 ≤ x4_2) = true := decide_eq_true c12; clear c12; by_cases c13 : ((rd_T46 l0 x4_2).f0) = 0
           ·
            rw [if_pos c13] at H; have c13b0 : (((rd_T46 l0 x4_2).f0) == 0) = true := beq_iff_eq.mpr c13; have c13b1 : (((rd_T46 l0 x4_2).f0) != 0) = false := bne_eq_false_iff_eq.mpr c13; clear c13; by_cases c14 : x4_2 > 0
            ·
             rw [if_pos c14] at H; have c14b0 : decide (0 < x4_2) = true := decide_eq_true c14; clear c14; obtain ⟨ji15, hji15⟩ : ∃ j_ : Int, (wrap64 (x4_2 - 1)) = j_ := ⟨_, rfl⟩; replace H : (if 0 ≤ (ji15) then (if (ji15) < (l0.length : Int) then (if ((rd_T46 l0 (ji15)).f0) ≥ ((rd_T46 l0 x4_2).f0) then (some 5) else (spileref08_Check.l1 k2 l0 (wrap64 (x4_2 + 1)))) else (none)) else (none)) = some r := by first | (rw [hji15] at H; exact H) | (simp only [hji15] at H ⊢; exact H)
             have hji15w : (IntKind.i64.wrap (x4_2 - 1)) = ji15 := (i64_w _).trans hji15; by_cases c16 : 0 ≤ (ji15)
             ·
              rw [if_pos c16] at H; have c16b0 : decide (0 ≤ (ji15)) = true := decide_eq_true c16; clear c16; by_cases c17 : (ji15) < (l0.length : Int)
              ·
               rw [if_pos c17] at H; have c17b0 : decide ((ji15) < (l0.length : Int)) = true := decide_eq_true c17; clear c17; by_cases c18 : ((rd_T46 l0 (ji15)).f0) ≥ ((rd_T46 l0 x4_2).f0)
               ·
                rw [if_pos c18] at H; have c18b0 : decide (((rd_T46 l0 x4_2).f0) ≤ ((rd_T46 l0 (ji15)).f0)) = true := decide_eq_true c18; clear c18; obtain rfl := Option.some.inj H; have p195 : 0 ≤ (x4_2 : Int) := of_decide_eq_true (by first | (with_reducible assumption) | assumption); have q195 : x4_2 < (l0.length : Int) := of_decide_eq_true (by first | (with_reducible assumption) | assumption); obtain ⟨ad195, e195, hx195_0, hx195_1⟩ := at_T46 HR0.out x4_2 p195 q195; cases e195; replace p195 := eq_true p195; replace q195 := eq_true q195; have p196 : 0 ≤ ((ji15) : Int) := of_decide_eq_true (by first | (with_reducible assumption) | assumption); have q196 : (ji15) < (l0.length : Int) := of_decide_eq_true (by first | (with_reducible assumption) | assumption); obtain ⟨ad196, e196, hx196_0, hx196_1⟩ := at_T46 HR0.out (ji15) p196 q196; obtain rfl : ad195 = ad196 := (by injection e196); replace p196 := eq_true p196; replace q196 := eq_true q196; have p197 : 0 ≤ (x4_2 : Int) := of_decide_eq_true (by first | (with_reducible assumption) | assumption); have q197 : x4_2 < (l0.length : Int) := of_decide_eq_true (by first | (with_reducible assumption) | assumption); obtain ⟨ad197, e197, hx197_0, hx197_1⟩ := at_T46 HR0.out x4_2 p197 q197; obtain rfl : ad195 = ad197 := (by injection e197); replace p197 := eq_true p197; replace q197 := eq_true q197; go_wp2; repeat (go_quiet (fail); try go_wp2)
                go_ret
                exact ⟨by first | rfl | (simp; done) | (simp only [← hji15] <;> (first | rfl | simp)) | (simp [*]; done), by repeat (first | exact Drawn0.refl _ | apply Drawn0.step)⟩
               ·
                rw [if_neg c18] at H; have c18b0 : decide (((rd_T46 l0 x4_2).f0) ≤ ((rd_T46 l0 (ji15)).f0)) = false := decide_eq_false c18; clear c18; have H' := Aside0.mk H; clear H; have p195 : 0 ≤ (x4_2 : Int) := of_decide_eq_true (by first | (with_reducible assumption) | assumption); have q195 : x4_2 < (l0.length : Int) := of_decide_eq_true (by first | (with_reducible assumption) | assumption); obtain ⟨ad195, e195, hx195_0, hx195_1⟩ := at_T46 HR0.out x4_2 p195 q195; cases e195; replace p195 := eq_true p195; replace q195 := eq_true q195; have p196 : 0 ≤ ((ji15) : Int) := of_decide_eq_true (by first | (with_reducible assumption) | assumption); have q196 : (ji15) < (l0.length : Int) := of_decide_eq_true (by first | (with_reducible assumption) | assumption); obtain ⟨ad196, e196, hx196_0, hx196_1⟩ := at_T46 HR0.out (ji15) p196 q196; obtain rfl : ad195 = ad196 := (by injection e196); replace p196 := eq_true p196; replace q196 := eq_true q196; have p197 : 0 ≤ (x4_2 : Int) := of_decide_eq_true (by first | (with_reducible assumption) | assumption); have q197 : x4_2 < (l0.length : Int) := of_decide_eq_true (by first | (with_reducible assumption) | assumption); obtain ⟨ad197, e197, hx197_0, hx197_1⟩ := at_T46 HR0.out x4_2 p197 q197; obtain rfl : ad195 = ad197 := (by injection e197); replace p197 := eq_true p197; replace q197 := eq_true q197; go_wp2; repeat (go_quiet (fail); try go_wp2)
                go_roundg k2
                case measure => have := HK1.out; have := HK2.out; omega
                case rel => exact ⟨(wrap64 (x4_2 + 1)), (by first | rfl | (simp; done) | (simp [*]; done)), H', ⟨by have := HK1.out; have := HK2.out; omega⟩, by repeat (first | exact Drawn0.refl _ | apply Drawn0.step)⟩
              · rw [if_neg c17] at H; exact absurd H (by simp)
             · rw [if_neg c16] at H; exact absurd H (by simp)
            ·
             rw [if_neg c14] at H; have c14b0 : decide (0 < x4_2) = false := decide_eq_false c14; clear c14; have H' := Aside0.mk H; clear H; have p195 : 0 ≤ (x4_2 : Int) := of_decide_eq_true (by first | (with_reducible assumption) | assumption); have q195 : x4_2 < (l0.length : Int) := of_decide_eq_true (by first | (with_reducible assumption) | assumption); obtain ⟨ad195, e195, hx195_0, hx195_1⟩ := at_T46 HR0.out x4_2 p195 q195; cases e195; replace p195 := eq_true p195; replace q195 := eq_true q195; go_wp2; repeat (go_quiet (fail); try go_wp2)
             go_roundg k2
             case measure => have := HK1.out; have := HK2.out; omega
             case rel => exact ⟨(wrap64 (x4_2 + 1)), (by first | rfl | (simp; done) | (simp [*]; done)), H', ⟨by have := HK1.out; have := HK2.out; omega⟩, by repeat (first | exact Drawn0.refl _ | apply Drawn0.step)⟩
           ·
            rw [if_neg c13] at H; have c13b0 : (((rd_T46 l0 x4_2).f0) == 0) = false := beq_eq_false_iff_ne.mpr c13; have c13b1 : (((rd_T46 l0 x4_2).f0) != 0) = true := bne_iff_ne.mpr c13; obtain rfl := Option.some.inj H; have p195 : 0 ≤ (x4_2 : Int) := of_decide_eq_true (by first | (with_reducible assumption) | assumption); have q195 : x4_2 < (l0.length : Int) := of_decide_eq_true (by first | (with_reducible assumption) | assumption); obtain ⟨ad195, e195, hx195_0, hx195_1⟩ := at_T46 HR0.out x4_2 p195 q195; cases e195; replace p195 := eq_true p195; replace q195 := eq_true q195; go_wp2; repeat (go_quiet (fail); try go_wp2)
            go_ret
            exact ⟨by first | rfl | (simp; done) | (simp [*]; done), by repeat (first | exact Drawn0.refl _ | apply Drawn0.step)⟩
          · rw [if_neg c12] at H; exact absurd H (by simp)
         ·
          rw [if_neg c11] at H; have c11b0 : (x4_2 == 0) = false := beq_eq_false_iff_ne.mpr c11; have c11b1 : (x4_2 != 0) = true := bne_iff_ne.mpr c11; by_cases c19 : x4_2 > 0
          ·
           rw [if_pos c19] at H; have c19b0 : decide (0 < x4_2) = true := decide_eq_true c19; clear c19; obtain ⟨ji20, hji20⟩ : ∃ j_ : Int, (wrap64 (x4_2 - 1)) = j_ := ⟨_, rfl⟩; replace H : (if 0 ≤ (ji20) then (if (ji20) < (l0.length : Int) then (if 0 ≤ x4_2 then (if ((rd_T46 l0 (ji20)).f0) ≥ ((rd_T46 l0 x4_2).f0) then (some 5) else (spileref08_Check.l1 k2 l0 (wrap64 (x4_2 + 1)))) else (none)) else (none)) else (none)) = some r := by first | (rw [hji20] at H; exact H) | (simp only [hji20] at H ⊢; exact H)
           have hji20w : (IntKind.i64.wrap (x4_2 - 1)) = ji20 := (i64_w _).trans hji20; by_cases c21 : 0 ≤ (ji20)
           ·
            rw [if_pos c21] at H; have c21b0 : decide (0 ≤ (ji20)) = true := decide_eq_true c21; clear c21; by_cases c22 : (ji20) < (l0.length : Int)
            ·
             rw [if_pos c22] at H; have c22b0 : decide ((ji20) < (l0.length : Int)) = true := decide_eq_true c22; clear c22; by_cases c23 : 0 ≤ x4_2
             ·
              rw [if_pos c23] at H; have c23b0 : decide (0 ≤ x4_2) = true := decide_eq_true c23; clear c23; by_cases c24 : ((rd_T46 l0 (ji20)).f0) ≥ ((rd_T46 l0 x4_2).f0)
              ·
               rw [if_pos c24] at H; have c24b0 : decide (((rd_T46 l0 x4_2).f0) ≤ ((rd_T46 l0 (ji20)).f0)) = true := decide_eq_true c24; clear c24; obtain rfl := Option.some.inj H; have p198 : 0 ≤ ((ji20) : Int) := of_decide_eq_true (by first | (with_reducible assumption) | assumption); have q198 : (ji20) < (l0.length : Int) := of_decide_eq_true (by first | (with_reducible assumption) | assumption); obtain ⟨ad198, e198, hx198_0, hx198_1⟩ := at_T46 HR0.out (ji20) p198 q198; cases e198; replace p198 := eq_true p198; replace q198 := eq_true q198; have p199 : 0 ≤ (x4_2 : Int) := of_decide_eq_true (by first | (with_reducible assumption) | assumption); have q199 : x4_2 < (l0.length : Int) := of_decide_eq_true (by first | (with_reducible assumption) | assumption); obtain ⟨ad199, e199, hx199_0, hx199_1⟩ := at_T46 HR0.out x4_2 p199 q199; obtain rfl : ad198 = ad199 := (by injection e199); replace p199 := eq_true p199; replace q199 := eq_true q199; go_wp2; repeat (go_quiet (fail); try go_wp2)
               go_ret
               exact ⟨by first | rfl | (simp; done) | (simp only [← hji20] <;> (first | rfl | simp)) | (simp [*]; done), by repeat (first | exact Drawn0.refl _ | apply Drawn0.step)⟩
              ·
               rw [if_neg c24] at H; have c24b0 : decide (((rd_T46 l0 x4_2).f0) ≤ ((rd_T46 l0 (ji20)).f0)) = false := decide_eq_false c24; clear c24; have H' := Aside0.mk H; clear H; have p198 : 0 ≤ ((ji20) : Int) := of_decide_eq_true (by first | (with_reducible assumption) | assumption); have q198 : (ji20) < (l0.length : Int) := of_decide_eq_true (by first | (with_reducible assumption) | assumption); obtain ⟨ad198, e198, hx198_0, hx198_1⟩ := at_T46 HR0.out (ji20) p198 q198; cases e198; replace p198 := eq_true p198; replace q198 := eq_true q198; have p199 : 0 ≤ (x4_2 : Int) := of_decide_eq_true (by first | (with_reducible assumption) | assumption); have q199 : x4_2 < (l0.length : Int) := of_decide_eq_true (by first | (with_reducible assumption) | assumption); obtain ⟨ad199, e199, hx199_0, hx199_1⟩ := at_T46 HR0.out x4_2 p199 q199; obtain rfl : ad198 = ad199 := (by injection e199); replace p199 := eq_true p199; replace q199 := eq_true q199; go_wp2; repeat (go_quiet (fail); try go_wp2)
               go_roundg k2
               case measure => have := HK1.out; have := HK2.out; omega
               case rel => exact ⟨(wrap64 (x4_2 + 1)), (by first | rfl | (simp; done) | (simp [*]; done)), H', ⟨by have := HK1.out; have := HK2.out; omega⟩, by repeat (first | exact Drawn0.refl _ | apply Drawn0.step)⟩
             · rw [if_neg c23] at H; exact absurd H (by simp)
            · rw [if_neg c22] at H; exact absurd H (by simp)
           · rw [if_neg c21] at H; exact absurd H (by simp)
          ·
           rw [if_neg c19] at H; have c19b0 : decide (0 < x4_2) = false := decide_eq_false c19; clear c19; have H' := Aside0.mk H; clear H; go_wp2; repeat (go_quiet (fail); try go_wp2)
           go_roundg k2
           case measure => have := HK1.out; have := HK2.out; omega
           case rel => exact ⟨(wrap64 (x4_2 + 1)), (by first | rfl | (simp; done) | (simp [*]; done)), H', ⟨by have := HK1.out; have := HK2.out; omega⟩, by repeat (first | exact Drawn0.refl _ | apply Drawn0.step)⟩
        ·
         rw [if_neg c10] at H; have c10b0 : decide (x4_2 < (l0.length : Int)) = false := decide_eq_false c10; clear c10; have H' := Aside0.mk H; clear H; go_wp2; repeat (go_quiet (fail); try go_wp2)
         go_loopg [5] k2 (fun kq v5 w' => ∃ (x5_3 : Int), v5 = .int .i64 x5_3 ∧ Aside0 (spileref08_Check.l2 kq l0 x5_3 = some r) ∧ Aside0 (kq ≤ k2) ∧ Drawn0 w w')
         case atStart => exact ⟨(0), (by first | rfl | (simp; done) | (simp [*]; done)), H', ⟨Nat.le_refl _⟩, by repeat (first | exact Drawn0.refl _ | apply Drawn0.step)⟩
         case round =>
          clear H'; try clear c1
          try clear p1
          try clear q1
          try clear hx1
          try clear c2
          try clear c2b0
          try clear c2b1
          try clear p2
          try clear c3
          try clear c3b0
          try clear c3b1
          try clear c4
          try clear c4b0
          try clear c5
          try clear c5b0
          try clear p6
          try clear c7
          try clear c9
          try clear c10
          try clear c10b0
          try clear c11
          try clear c11b0
          try clear c11b1
          try clear c12
          try clear c12b0
          try clear c13
          try clear c13b0
          try clear c13b1
          try clear c14
          try clear c14b0
          try clear c16
          try clear c16b0
          try clear c17
          try clear c17b0
          try clear c18
          try clear c18b0
          try clear c19
          try clear c19b0
          try clear p19
          try clear q19
          try clear hx19
          try clear c21
          try clear c21b0
          try clear c22
          try clear c22b0
          try clear c23
          try clear c23b0
          try clear c24
          try clear c24b0
          try clear hx191_0
          try clear hx191_1
          try clear hx193_0
          try clear hx193_1
          try clear hx195_0
          try clear hx195_1
          try clear hx196_0
          try clear hx196_1
          try clear hx197_0
          try clear hx197_1
          try clear hx198_0
          try clear hx198_1
          try clear hx199_0
          try clear hx199_1
          try clear p1
          try clear p191
          try clear p193
          try clear p195
          try clear p196
          try clear p197
          try clear p198
          try clear p199
          try clear p2
          try clear p6
          try clear q1
          try clear q191
          try clear q193
          try clear q195
          try clear q196
          try clear q197
          try clear q198
          try clear q199
          obtain ⟨x5_3, rfl, HA, HK3, ⟨m3, rfl⟩⟩ := hrel
          cases gk with
          | zero => exact absurd HA.out (by simp [spileref08_Check.l2])
          | succ k3 =>
           have H := HA.out; clear HA; simp only [spileref08_Check.l2] at H; by_cases c25 : x5_3 < (l0.length : Int)
           ·
            rw [if_pos c25] at H; have c25b0 : decide (x5_3 < (l0.length : Int)) = true := decide_eq_true c25; clear c25; by_cases c26 : 0 ≤ x5_3
            ·
             rw [if_pos c26] at H; have c26b0 : decide (0 ≤ x5_3) = true := decide_eq_true c26; clear c26; by_cases c27 : ((rd_T46 l0 x5_3).f1) = 0
             ·
              rw [if_pos c27] at H; have c27b0 : (((rd_T46 l0 x5_3).f1) == 0) = true := beq_iff_eq.mpr c27; have c27b1 : (((rd_T46 l0 x5_3).f1) != 0) = false := bne_eq_false_iff_eq.mpr c27; clear c27; obtain rfl := Option.some.inj H; have p200 : 0 ≤ (x5_3 : Int) := of_decide_eq_true (by first | (with_reducible assumption) | assumption); have q200 : x5_3 < (l0.length : Int) := of_decide_eq_true (by first | (with_reducible assumption) | assumption); obtain ⟨ad200, e200, hx200_0, hx200_1⟩ := at_T46 HR0.out x5_3 p200 q200; cases e200; replace p200 := eq_true p200; replace q200 := eq_true q200; go_wp2; repeat (go_quiet (fail); try go_wp2)
              go_ret
              exact ⟨by first | rfl | (simp; done) | (simp [*]; done), by repeat (first | exact Drawn0.refl _ | apply Drawn0.step)⟩
             ·
              rw [if_neg c27] at H; have c27b0 : (((rd_T46 l0 x5_3).f1) == 0) = false := beq_eq_false_iff_ne.mpr c27; have c27b1 : (((rd_T46 l0 x5_3).f1) != 0) = true := bne_iff_ne.mpr c27; have H' := Aside0.mk H; clear H; have p200 : 0 ≤ (x5_3 : Int) := of_decide_eq_true (by first | (with_reducible assumption) | assumption); have q200 : x5_3 < (l0.length : Int) := of_decide_eq_true (by first | (with_reducible assumption) | assumption); obtain ⟨ad200, e200, hx200_0, hx200_1⟩ := at_T46 HR0.out x5_3 p200 q200; cases e200; replace p200 := eq_true p200; replace q200 := eq_true q200; go_wp2; repeat (go_quiet (fail); try go_wp2)
              go_roundg k3
              case measure => have := HK1.out; have := HK2.out; have := HK3.out; omega
              case rel => exact ⟨(wrap64 (x5_3 + 1)), (by first | rfl | (simp; done) | (simp [*]; done)), H', ⟨by have := HK1.out; have := HK2.out; have := HK3.out; omega⟩, by repeat (first | exact Drawn0.refl _ | apply Drawn0.step)⟩
            · rw [if_neg c26] at H; exact absurd H (by simp)
           ·
            rw [if_neg c25] at H; have c25b0 : decide (x5_3 < (l0.length : Int)) = false := decide_eq_false c25; clear c25; have H' := Aside0.mk H; clear H; go_wp2; repeat (go_quiet (fail); try go_wp2)
            go_loopg [6, 7] k3 (fun kq v6 v7 w' => ∃ (x6_4 : Bool) (x7_4 : Int), v6 = .bool x6_4 ∧ v7 = .int .i64 x7_4 ∧ Aside0 (spileref08_Check.l3 kq l0 x6_4 x7_4 = some r) ∧ Aside0 (kq ≤ k3) ∧ Drawn0 w w')
            case atStart => exact ⟨(false), (1), (by first | rfl | (simp; done) | (simp [*]; done)), (by first | rfl | (simp; done) | (simp [*]; done)), H', ⟨Nat.le_refl _⟩, by repeat (first | exact Drawn0.refl _ | apply Drawn0.step)⟩
            case round =>
             clear H'; try clear c1
             try clear p1
             try clear q1
             try clear hx1
             try clear c2
             try clear c2b0
             try clear c2b1
             try clear p2
             try clear q2
             try clear hx2
             try clear c3
             try clear c3b0
             try clear c3b1
             try clear c4
             try clear c4b0
             try clear c5
             try clear c5b0
             try clear p6
             try clear c7
             try clear c9
             try clear c10
             try clear c10b0
             try clear c11
             try clear c11b0
             try clear c11b1
             try clear c12
             try clear c12b0
             try clear c13
             try clear c13b0
             try clear c13b1
             try clear c14
             try clear c14b0
             try clear c16
             try clear c16b0
             try clear c17
             try clear c17b0
             try clear c18
             try clear c18b0
             try clear c19
             try clear c19b0
             try clear p19
             try clear q19
             try clear hx19
             try clear p20
             try clear q20
             try clear hx20
             try clear c21
             try clear c21b0
             try clear c22
             try clear c22b0
             try clear c23
             try clear c23b0
             try clear c24
             try clear c24b0
             try clear c25
             try clear c25b0
             try clear c26
             try clear c26b0
             try clear c27
             try clear c27b0
             try clear c27b1
             try clear hx191_0
             try clear hx191_1
             try clear hx193_0
             try clear hx193_1
             try clear hx195_0
             try clear hx195_1
             try clear hx196_0
             try clear hx196_1
             try clear hx197_0
             try clear hx197_1
             try clear hx198_0
             try clear hx198_1
             try clear hx199_0
             try clear hx199_1
             try clear hx200_0
             try clear hx200_1
             try clear p1
             try clear p19
             try clear p191
             try clear p193
             try clear p195
             try clear p196
             try clear p197
             try clear p198
             try clear p199
             try clear p2
             try clear p200
             try clear p6
             try clear q1
             try clear q19
             try clear q191
             try clear q193
             try clear q195
             try clear q196
             try clear q197
             try clear q198
             try clear q199
             try clear q200
             obtain ⟨x6_4, x7_4, rfl, rfl, HA, HK4, ⟨m4, rfl⟩⟩ := hrel
             cases gk with
             | zero => exact absurd HA.out (by simp [spileref08_Check.l3])
             | succ k4 =>
              have H := HA.out; clear HA; simp only [spileref08_Check.l3] at H; by_cases c28 : x7_4 < (l0.length : Int)
              ·
               rw [if_pos c28] at H; have c28b0 : decide (x7_4 < (l0.length : Int)) = true := decide_eq_true c28; clear c28; by_cases c29 : x6_4 = true
               ·
                subst c29; have H1 : (if 0 ≤ x7_4 then (if 0 ≤ (wrap64 (x7_4 - 1)) then (if (wrap64 (x7_4 - 1)) < (l0.length : Int) then (if ((rd_T46 l0 x7_4).f1) > ((rd_T46 l0 (wrap64 (x7_4 - 1))).f1) then (some 10) else (spileref08_Check.l3 k4 l0 true (wrap64 (x7_4 + 1)))) else (none)) else (none)) else (none)) = some r := by rw [if_pos rfl] at H; exact H
                clear H; have H := H1; clear H1; by_cases c30 : 0 ≤ x7_4
                ·
                 rw [if_pos c30] at H; have c30b0 : decide (0 ≤ x7_4) = true := decide_eq_true c30; clear c30; obtain ⟨ji31, hji31⟩ : ∃ j_ : Int, (wrap64 (x7_4 - 1)) = j_ := ⟨_, rfl⟩; replace H : (if 0 ≤ (ji31) then (if (ji31) < (l0.length : Int) then (if ((rd_T46 l0 x7_4).f1) > ((rd_T46 l0 (ji31)).f1) then (some 10) else (spileref08_Check.l3 k4 l0 true (wrap64 (x7_4 + 1)))) else (none)) else (none)) = some r := by first | (rw [hji31] at H; exact H) | (simp only [hji31] at H ⊢; exact H)
                 have hji31w : (IntKind.i64.wrap (x7_4 - 1)) = ji31 := (i64_w _).trans hji31; by_cases c32 : 0 ≤ (ji31)
                 ·
                  rw [if_pos c32] at H; have c32b0 : decide (0 ≤ (ji31)) = true := decide_eq_true c32; clear c32; by_cases c33 : (ji31) < (l0.length : Int)
                  ·
                   rw [if_pos c33] at H; have c33b0 : decide ((ji31) < (l0.length : Int)) = true := decide_eq_true c33; clear c33; by_cases c34 : ((rd_T46 l0 x7_4).f1) > ((rd_T46 l0 (ji31)).f1)
                   ·
                    rw [if_pos c34] at H; have c34b0 : decide (((rd_T46 l0 (ji31)).f1) < ((rd_T46 l0 x7_4).f1)) = true := decide_eq_true c34; clear c34; obtain rfl := Option.some.inj H; have p201 : 0 ≤ (x7_4 : Int) := of_decide_eq_true (by first | (with_reducible assumption) | assumption); have q201 : x7_4 < (l0.length : Int) := of_decide_eq_true (by first | (with_reducible assumption) | assumption); obtain ⟨ad201, e201, hx201_0, hx201_1⟩ := at_T46 HR0.out x7_4 p201 q201; cases e201; replace p201 := eq_true p201; replace q201 := eq_true q201; have p202 : 0 ≤ ((ji31) : Int) := of_decide_eq_true (by first | (with_reducible assumption) | assumption); have q202 : (ji31) < (l0.length : Int) := of_decide_eq_true (by first | (with_reducible assumption) | assumption); obtain ⟨ad202, e202, hx202_0, hx202_1⟩ := at_T46 HR0.out (ji31) p202 q202; obtain rfl : ad201 = ad202 := (by injection e202); replace p202 := eq_true p202; replace q202 := eq_true q202; go_wp2; repeat (go_quiet (fail); try go_wp2)
                    go_ret
                    exact ⟨by first | rfl | (simp; done) | (simp only [← hji31] <;> (first | rfl | simp)) | (simp [*]; done), by repeat (first | exact Drawn0.refl _ | apply Drawn0.step)⟩
                   ·
                    rw [if_neg c34] at H; have c34b0 : decide (((rd_T46 l0 (ji31)).f1) < ((rd_T46 l0 x7_4).f1)) = false := decide_eq_false c34; clear c34; have H' := Aside0.mk H; clear H; have p201 : 0 ≤ (x7_4 : Int) := of_decide_eq_true (by first | (with_reducible assumption) | assumption); have q201 : x7_4 < (l0.length : Int) := of_decide_eq_true (by first | (with_reducible assumption) | assumption); obtain ⟨ad201, e201, hx201_0, hx201_1⟩ := at_T46 HR0.out x7_4 p201 q201; cases e201; replace p201 := eq_true p201; replace q201 := eq_true q201; have p202 : 0 ≤ ((ji31) : Int) := of_decide_eq_true (by first | (with_reducible assumption) | assumption); have q202 : (ji31) < (l0.length : Int) := of_decide_eq_true (by first | (with_reducible assumption) | assumption); obtain ⟨ad202, e202, hx202_0, hx202_1⟩ := at_T46 HR0.out (ji31) p202 q202; obtain rfl : ad201 = ad202 := (by injection e202); replace p202 := eq_true p202; replace q202 := eq_true q202; go_wp2; repeat (go_quiet (fail); try go_wp2)
                    go_roundg k4
                    case measure => have := HK1.out; have := HK2.out; have := HK3.out; have := HK4.out; omega
                    case rel => exact ⟨(true), (wrap64 (x7_4 + 1)), (by first | rfl | (simp; done) | (simp [*]; done)), (by first | rfl | (simp; done) | (simp [*]; done)), H', ⟨by have := HK1.out; have := HK2.out; have := HK3.out; have := HK4.out; omega⟩, by repeat (first | exact Drawn0.refl _ | apply Drawn0.step)⟩
                  · rw [if_neg c33] at H; exact absurd H (by simp)
                 · rw [if_neg c32] at H; exact absurd H (by simp)
                · rw [if_neg c30] at H; exact absurd H (by simp)
               ·
                replace c29 := Bool.eq_false_iff.mpr c29; subst c29; have H1 : (if 0 ≤ x7_4 then (if 0 ≤ (wrap64 (x7_4 - 1)) then (if (wrap64 (x7_4 - 1)) < (l0.length : Int) then (spileref08_Check.l3 k4 l0 (decide (((rd_T46 l0 x7_4).f1) < ((rd_T46 l0 (wrap64 (x7_4 - 1))).f1))) (wrap64 (x7_4 + 1))) else (none)) else (none)) else (none)) = some r := by rw [if_neg (show ¬ (false = true) by decide)] at H; exact H
                clear H; have H := H1; clear H1; by_cases c35 : 0 ≤ x7_4
                ·
                 rw [if_pos c35] at H; have c35b0 : decide (0 ≤ x7_4) = true := decide_eq_true c35; clear c35; obtain ⟨ji36, hji36⟩ : ∃ j_ : Int, (wrap64 (x7_4 - 1)) = j_ := ⟨_, rfl⟩; replace H : (if 0 ≤ (ji36) then (if (ji36) < (l0.length : Int) then (spileref08_Check.l3 k4 l0 (decide (((rd_T46 l0 x7_4).f1) < ((rd_T46 l0 (ji36)).f1))) (wrap64 (x7_4 + 1))) else (none)) else (none)) = some r := by first | (rw [hji36] at H; exact H) | (simp only [hji36] at H ⊢; exact H)
                 have hji36w : (IntKind.i64.wrap (x7_4 - 1)) = ji36 := (i64_w _).trans hji36; by_cases c37 : 0 ≤ (ji36)
                 ·
                  rw [if_pos c37] at H; have c37b0 : decide (0 ≤ (ji36)) = true := decide_eq_true c37; clear c37; by_cases c38 : (ji36) < (l0.length : Int)
                  ·
                   rw [if_pos c38] at H; have c38b0 : decide ((ji36) < (l0.length : Int)) = true := decide_eq_true c38; clear c38; have H' := Aside0.mk H; clear H; have p203 : 0 ≤ (x7_4 : Int) := of_decide_eq_true (by first | (with_reducible assumption) | assumption); have q203 : x7_4 < (l0.length : Int) := of_decide_eq_true (by first | (with_reducible assumption) | assumption); obtain ⟨ad203, e203, hx203_0, hx203_1⟩ := at_T46 HR0.out x7_4 p203 q203; cases e203; replace p203 := eq_true p203; replace q203 := eq_true q203; have p204 : 0 ≤ ((ji36) : Int) := of_decide_eq_true (by first | (with_reducible assumption) | assumption); have q204 : (ji36) < (l0.length : Int) := of_decide_eq_true (by first | (with_reducible assumption) | assumption); obtain ⟨ad204, e204, hx204_0, hx204_1⟩ := at_T46 HR0.out (ji36) p204 q204; obtain rfl : ad203 = ad204 := (by injection e204); replace p204 := eq_true p204; replace q204 := eq_true q204; go_wp2; repeat (go_quiet (fail); try go_wp2)
                   go_roundg k4
                   case measure => have := HK1.out; have := HK2.out; have := HK3.out; have := HK4.out; omega
                   case rel => exact ⟨(decide (((rd_T46 l0 x7_4).f1) < ((rd_T46 l0 (ji36)).f1))), (wrap64 (x7_4 + 1)), (by first | rfl | (simp; done) | (simp only [← hji36] <;> (first | rfl | simp)) | (simp [*]; done)), (by first | rfl | (simp; done) | (simp [*]; done)), H', ⟨by have := HK1.out; have := HK2.out; have := HK3.out; have := HK4.out; omega⟩, by repeat (first | exact Drawn0.refl _ | apply Drawn0.step)⟩
                  · rw [if_neg c38] at H; exact absurd H (by simp)
                 · rw [if_neg c37] at H; exact absurd H (by simp)
                · rw [if_neg c35] at H; exact absurd H (by simp)
              ·
               rw [if_neg c28] at H; have c28b0 : decide (x7_4 < (l0.length : Int)) = false := decide_eq_false c28; clear c28; obtain rfl := Option.some.inj H; go_wp2; repeat (go_quiet (fail); try go_wp2)
               go_ret
               exact ⟨by first | rfl | (simp; done) | (simp [*]; done), by repeat (first | exact Drawn0.refl _ | apply Drawn0.step)⟩
end Go.Proofs.YtnhmlneebnkjcaaDoor.Pr
namespace Go.Proofs.YtnhmlneebnkjcaaDoor.Pr
open Go.RowKit Go.Proofs.YtnhmlneebnkjcaaDoorW.PrintWords Go.Proofs.YtnhmlneebnkjcaaDoorW.PrintLast Go.Proofs.YtnhmlneebnkjcaaDoorW.PrintMore Go.Proofs.YtnhmlneebnkjcaaDoor.X
attribute [local go_sem] max2_int min2_int max_two min_two max_three min_three max_four min_four   -- for this text's walks alone
set_option linter.unusedVariables false
set_option linter.unusedSimpArgs false
def spileref09_Check.f (k : Nat) (a0_0 : ByteArray) (a0_1 : Int) (l0_2 : List (S46)) (a0_3 : Int) : Option (Int) := (spileref09_IsName.f k a0_0).bind fun t206 => (if t206 = true then (if a0_1 = 1 then (if a0_3 < 0 then (some 2) else (if a0_3 > 1073741824 then (some 2) else ((spileref08_Check.f k l0_2).bind fun t207 => (some t207)))) else (if a0_1 = 2 then (if a0_3 < 0 then (some 2) else (if a0_3 > 1073741824 then (some 2) else ((spileref08_Check.f k l0_2).bind fun t208 => (some t208)))) else (some 2))) else (some 4))
set_option maxHeartbeats 8000000 in
set_option maxRecDepth 100000 in
theorem spileref09_Check.calls (k : Nat) (a0_0 : ByteArray) (a0_1 : Int) (A0_2 : Option Addr) (c0_2 : Nat) (l0_2 : List (S46)) (a0_3 : Int) (r : Int) (w : World) (hr0_2 : Kd.C k46 w A0_2 l0_2.length l0_2) (hc0_2 : l0_2.length ≤ c0_2) (h : spileref09_Check.f k a0_0 a0_1 l0_2 a0_3 = some r) :
  Calls Tryd.prog 21 #[.agg #[.string a0_0, .int .i64 a0_1, .slice A0_2 l0_2.length c0_2, .int .i64 a0_3]] w fun e w' => e = .returned (.int .i64 r) ∧ Below w.heap.size w w' := by
 have hu27 := Tryd.underlying27; have HR0_2 := Aside0.mk hr0_2; have HC0_2 := Aside0.mk hc0_2; clear hr0_2 hc0_2; have HB := Aside0.mk (Below.refl w.heap.size w); have H : ((spileref09_IsName.f k a0_0).bind fun t206 => (if t206 = true then (if a0_1 = 1 then (if a0_3 < 0 then (some 2) else (if a0_3 > 1073741824 then (some 2) else ((spileref08_Check.f k l0_2).bind fun t207 => (some t207)))) else (if a0_1 = 2 then (if a0_3 < 0 then (some 2) else (if a0_3 > 1073741824 then (some 2) else ((spileref08_Check.f k l0_2).bind fun t208 => (some t208)))) else (some 2))) else (some 4))) = some r := h; clear h; replace H := Option.bind_eq_some_iff.mp H; obtain ⟨t206, A20, H⟩ := H; replace H : (if t206 = true then (if a0_1 = 1 then (if a0_3 < 0 then (some 2) else (if a0_3 > 1073741824 then (some 2) else ((spileref08_Check.f k l0_2).bind fun t207 => (some t207)))) else (if a0_1 = 2 then (if a0_3 < 0 then (some 2) else (if a0_3 > 1073741824 then (some 2) else ((spileref08_Check.f k l0_2).bind fun t208 => (some t208)))) else (some 2))) else (some 4)) = some r := H; have A2 := Aside0.mk A20; clear A20; by_cases c3 : t206 = true
 ·
  subst c3; have H1 : (if a0_1 = 1 then (if a0_3 < 0 then (some 2) else (if a0_3 > 1073741824 then (some 2) else ((spileref08_Check.f k l0_2).bind fun t207 => (some t207)))) else (if a0_1 = 2 then (if a0_3 < 0 then (some 2) else (if a0_3 > 1073741824 then (some 2) else ((spileref08_Check.f k l0_2).bind fun t208 => (some t208)))) else (some 2))) = some r := by rw [if_pos rfl] at H; exact H
  clear H; have H := H1; clear H1; by_cases c4 : a0_1 = 1
  ·
   rw [if_pos c4] at H; have c4b0 : (a0_1 == 1) = true := beq_iff_eq.mpr c4; have c4b1 : (a0_1 != 1) = false := bne_eq_false_iff_eq.mpr c4; clear c4; by_cases c5 : a0_3 < 0
   ·
    rw [if_pos c5] at H; have c5b0 : decide (a0_3 < 0) = true := decide_eq_true c5; clear c5; obtain rfl := Option.some.inj H; go_enter Tryd.func21, Tryd.ntmps21
    go_wp2_with (first | ((with_reducible refine gate_dst (N := 1) rfl ?_); refine box_event ?hg (N := 1) ?hd (cs := #[.string a0_0, .int .i64 a0_1, .slice A0_2 l0_2.length c0_2, .int .i64 a0_3]) (t := 27) ?hr ?_; (case hd => rfl); (case hg => rfl); (case hr => first | (go_simp; done) | (go_simp; rfl)); intro gb205 hg w6 hbox hb; have n0_ := Aside0.mk (below_step (by repeat (first | (with_reducible first | exact HB.out | apply below_alloc | apply pw_below_drewN | apply below_drew1) | exact HB.out)) hb); have n1_ := Aside0.mk (hbox); have n2_ := Aside0.mk ((by rw [hg]; exact (below_size (by repeat (first | (with_reducible first | exact HB.out | apply below_alloc | apply pw_below_drewN | apply below_drew1) | exact HB.out))) : w.heap.size ≤ gb205)); have n3_ := Aside0.mk ((by rw [hg]; exact (below_size (by repeat (first | (with_reducible first | exact HB.out | apply below_alloc | apply pw_below_drewN | apply below_drew1) | exact HB.out))) : w.heap.size ≤ gb205)); clear HB; have HB := n0_; have BK205 := n1_; have GW205 := n2_; have GE205 := n3_; clear n0_ n1_ n2_ n3_; clear hb hbox hg; have hcz7_0 : w6.cell? ⟨gb205, 0, none⟩ = some (.string a0_0) := (blk_cell BK205.out 0).trans rfl; have hcz7_1 : w6.cell? ⟨gb205, 1, none⟩ = some (.int .i64 a0_1) := (blk_cell BK205.out 1).trans rfl; have hcz7_2 : w6.cell? ⟨gb205, 2, none⟩ = some (.slice A0_2 l0_2.length c0_2) := (blk_cell BK205.out 2).trans rfl; have hcz7_3 : w6.cell? ⟨gb205, 3, none⟩ = some (.int .i64 a0_3) := (blk_cell BK205.out 3).trans rfl; have hfz7_0 := blk_frozen BK205.out 0; have hfz7_1 := blk_frozen BK205.out 1; have hfz7_2 := blk_frozen BK205.out 2; have hfz7_3 := blk_frozen BK205.out 3) | ((with_reducible refine gate_callee (f := 40) rfl ?_); refine goesL_ (some 5) rfl rfl Tryd.func40 (by kernel_rfl) rfl #[.string a0_0] rfl (by (try simp only [List.map_toArray, List.map_cons, List.map_nil]); first | done | rfl | (simp only [List.length_drop, List.length_take]; rfl)) ?_; (with_reducible refine (spileref09_IsName.calls k a0_0 true _ A2.out).mono ?_); rintro e w' ⟨rfl, ⟨nd, rfl⟩⟩; refine ⟨_, rfl, ?_⟩))
    go_ret
    exact ⟨by first | rfl | (simp [errW_none, errW_some] <;> rfl) | (simp [*, errW_none, errW_some] <;> rfl), by repeat (first | (with_reducible first | exact HB.out | apply below_alloc | apply pw_below_drewN | apply below_drew1 | refine below_set ?_ GE205.out) | exact HB.out)⟩
   ·
    rw [if_neg c5] at H; have c5b0 : decide (a0_3 < 0) = false := decide_eq_false c5; clear c5; by_cases c8 : a0_3 > 1073741824
    ·
     rw [if_pos c8] at H; have c8b0 : decide (1073741824 < a0_3) = true := decide_eq_true c8; clear c8; obtain rfl := Option.some.inj H; go_enter Tryd.func21, Tryd.ntmps21
     go_wp2_with (first | ((with_reducible refine gate_dst (N := 1) rfl ?_); refine box_event ?hg (N := 1) ?hd (cs := #[.string a0_0, .int .i64 a0_1, .slice A0_2 l0_2.length c0_2, .int .i64 a0_3]) (t := 27) ?hr ?_; (case hd => rfl); (case hg => rfl); (case hr => first | (go_simp; done) | (go_simp; rfl)); intro gb205 hg w9 hbox hb; have n0_ := Aside0.mk (below_step (by repeat (first | (with_reducible first | exact HB.out | apply below_alloc | apply pw_below_drewN | apply below_drew1) | exact HB.out)) hb); have n1_ := Aside0.mk (hbox); have n2_ := Aside0.mk ((by rw [hg]; exact (below_size (by repeat (first | (with_reducible first | exact HB.out | apply below_alloc | apply pw_below_drewN | apply below_drew1) | exact HB.out))) : w.heap.size ≤ gb205)); have n3_ := Aside0.mk ((by rw [hg]; exact (below_size (by repeat (first | (with_reducible first | exact HB.out | apply below_alloc | apply pw_below_drewN | apply below_drew1) | exact HB.out))) : w.heap.size ≤ gb205)); clear HB; have HB := n0_; have BK205 := n1_; have GW205 := n2_; have GE205 := n3_; clear n0_ n1_ n2_ n3_; clear hb hbox hg; have hcz10_0 : w9.cell? ⟨gb205, 0, none⟩ = some (.string a0_0) := (blk_cell BK205.out 0).trans rfl; have hcz10_1 : w9.cell? ⟨gb205, 1, none⟩ = some (.int .i64 a0_1) := (blk_cell BK205.out 1).trans rfl; have hcz10_2 : w9.cell? ⟨gb205, 2, none⟩ = some (.slice A0_2 l0_2.length c0_2) := (blk_cell BK205.out 2).trans rfl; have hcz10_3 : w9.cell? ⟨gb205, 3, none⟩ = some (.int .i64 a0_3) := (blk_cell BK205.out 3).trans rfl; have hfz10_0 := blk_frozen BK205.out 0; have hfz10_1 := blk_frozen BK205.out 1; have hfz10_2 := blk_frozen BK205.out 2; have hfz10_3 := blk_frozen BK205.out 3) | ((with_reducible refine gate_callee (f := 40) rfl ?_); refine goesL_ (some 5) rfl rfl Tryd.func40 (by kernel_rfl) rfl #[.string a0_0] rfl (by (try simp only [List.map_toArray, List.map_cons, List.map_nil]); first | done | rfl | (simp only [List.length_drop, List.length_take]; rfl)) ?_; (with_reducible refine (spileref09_IsName.calls k a0_0 true _ A2.out).mono ?_); rintro e w' ⟨rfl, ⟨nd, rfl⟩⟩; refine ⟨_, rfl, ?_⟩))
     go_ret
     exact ⟨by first | rfl | (simp [errW_none, errW_some] <;> rfl) | (simp [*, errW_none, errW_some] <;> rfl), by repeat (first | (with_reducible first | exact HB.out | apply below_alloc | apply pw_below_drewN | apply below_drew1 | refine below_set ?_ GE205.out) | exact HB.out)⟩
    ·
     rw [if_neg c8] at H; have c8b0 : decide (1073741824 < a0_3) = false := decide_eq_false c8; clear c8; replace H := Option.bind_eq_some_iff.mp H; obtain ⟨t207, A110, H⟩ := H; replace H : (some t207) = some r := H; have A11 := Aside0.mk A110; clear A110; obtain rfl := Option.some.inj H; go_enter Tryd.func21, Tryd.ntmps21
     go_wp2_with (first | ((with_reducible refine gate_dst (N := 1) rfl ?_); refine box_event ?hg (N := 1) ?hd (cs := #[.string a0_0, .int .i64 a0_1, .slice A0_2 l0_2.length c0_2, .int .i64 a0_3]) (t := 27) ?hr ?_; (case hd => rfl); (case hg => rfl); (case hr => first | (go_simp; done) | (go_simp; rfl)); intro gb205 hg w12 hbox hb; have n0_ := Aside0.mk (below_step (by repeat (first | (with_reducible first | exact HB.out | apply below_alloc | apply pw_below_drewN | apply below_drew1) | exact HB.out)) hb); have n1_ := Aside0.mk (hbox); have n2_ := Aside0.mk ((by rw [hg]; exact (below_size (by repeat (first | (with_reducible first | exact HB.out | apply below_alloc | apply pw_below_drewN | apply below_drew1) | exact HB.out))) : w.heap.size ≤ gb205)); have n3_ := Aside0.mk ((by rw [hg]; exact (below_size (by repeat (first | (with_reducible first | exact HB.out | apply below_alloc | apply pw_below_drewN | apply below_drew1) | exact HB.out))) : w.heap.size ≤ gb205)); clear HB; have HB := n0_; have BK205 := n1_; have GW205 := n2_; have GE205 := n3_; clear n0_ n1_ n2_ n3_; clear hb hbox hg; have hcz13_0 : w12.cell? ⟨gb205, 0, none⟩ = some (.string a0_0) := (blk_cell BK205.out 0).trans rfl; have hcz13_1 : w12.cell? ⟨gb205, 1, none⟩ = some (.int .i64 a0_1) := (blk_cell BK205.out 1).trans rfl; have hcz13_2 : w12.cell? ⟨gb205, 2, none⟩ = some (.slice A0_2 l0_2.length c0_2) := (blk_cell BK205.out 2).trans rfl; have hcz13_3 : w12.cell? ⟨gb205, 3, none⟩ = some (.int .i64 a0_3) := (blk_cell BK205.out 3).trans rfl; have hfz13_0 := blk_frozen BK205.out 0; have hfz13_1 := blk_frozen BK205.out 1; have hfz13_2 := blk_frozen BK205.out 2; have hfz13_3 := blk_frozen BK205.out 3) | ((with_reducible refine gate_callee (f := 40) rfl ?_); refine goesL_ (some 5) rfl rfl Tryd.func40 (by kernel_rfl) rfl #[.string a0_0] rfl (by (try simp only [List.map_toArray, List.map_cons, List.map_nil]); first | done | rfl | (simp only [List.length_drop, List.length_take]; rfl)) ?_; (with_reducible refine (spileref09_IsName.calls k a0_0 true _ A2.out).mono ?_); rintro e w' ⟨rfl, ⟨nd, rfl⟩⟩; refine ⟨_, rfl, ?_⟩) | ((with_reducible refine gate_callee (f := 41) rfl ?_); refine goesL_ (some 27) rfl rfl Tryd.func41 (by kernel_rfl) rfl #[.slice A0_2 l0_2.length c0_2] rfl (by (try simp only [List.map_toArray, List.map_cons, List.map_nil]); first | done | rfl | (simp only [List.length_drop, List.length_take]; rfl)) ?_; (with_reducible refine (spileref08_Check.calls k _ _ l0_2 t207 _ ?side1 ?side2 A11.out).mono ?_); (case side1 => repeat (first | exact (Kd.C_below HR0_2.out (by repeat (first | (with_reducible first | exact HB.out | apply below_alloc | apply pw_below_drewN | apply below_drew1 | refine below_set ?_ GE205.out) | exact HB.out))) | (with_reducible refine Kd.C_alloc ?_ _) | (with_reducible refine Kd.C_drewN ?_ _) | (with_reducible refine Kd.C_drew ?_))); (case side2 => exact HC0_2.out); rintro e w' ⟨rfl, ⟨nd, rfl⟩⟩; refine ⟨_, rfl, ?_⟩))
     go_ret
     exact ⟨by first | rfl | (simp [errW_none, errW_some] <;> rfl) | (simp [*, errW_none, errW_some] <;> rfl), by repeat (first | (with_reducible first | exact HB.out | apply below_alloc | apply pw_below_drewN | apply below_drew1 | refine below_set ?_ GE205.out) | exact HB.out)⟩
  ·
   rw [if_neg c4] at H; have c4b0 : (a0_1 == 1) = false := beq_eq_false_iff_ne.mpr c4; have c4b1 : (a0_1 != 1) = true := bne_iff_ne.mpr c4; by_cases c14 : a0_1 = 2
   ·
    rw [if_pos c14] at H; have c14b0 : (a0_1 == 2) = true := beq_iff_eq.mpr c14; have c14b1 : (a0_1 != 2) = false := bne_eq_false_iff_eq.mpr c14; clear c14; by_cases c15 : a0_3 < 0
    ·
     rw [if_pos c15] at H; have c15b0 : decide (a0_3 < 0) = true := decide_eq_true c15; clear c15; obtain rfl := Option.some.inj H; go_enter Tryd.func21, Tryd.ntmps21
     go_wp2_with (first | ((with_reducible refine gate_dst (N := 1) rfl ?_); refine box_event ?hg (N := 1) ?hd (cs := #[.string a0_0, .int .i64 a0_1, .slice A0_2 l0_2.length c0_2, .int .i64 a0_3]) (t := 27) ?hr ?_; (case hd => rfl); (case hg => rfl); (case hr => first | (go_simp; done) | (go_simp; rfl)); intro gb205 hg w16 hbox hb; have n0_ := Aside0.mk (below_step (by repeat (first | (with_reducible first | exact HB.out | apply below_alloc | apply pw_below_drewN | apply below_drew1) | exact HB.out)) hb); have n1_ := Aside0.mk (hbox); have n2_ := Aside0.mk ((by rw [hg]; exact (below_size (by repeat (first | (with_reducible first | exact HB.out | apply below_alloc | apply pw_below_drewN | apply below_drew1) | exact HB.out))) : w.heap.size ≤ gb205)); have n3_ := Aside0.mk ((by rw [hg]; exact (below_size (by repeat (first | (with_reducible first | exact HB.out | apply below_alloc | apply pw_below_drewN | apply below_drew1) | exact HB.out))) : w.heap.size ≤ gb205)); clear HB; have HB := n0_; have BK205 := n1_; have GW205 := n2_; have GE205 := n3_; clear n0_ n1_ n2_ n3_; clear hb hbox hg; have hcz17_0 : w16.cell? ⟨gb205, 0, none⟩ = some (.string a0_0) := (blk_cell BK205.out 0).trans rfl; have hcz17_1 : w16.cell? ⟨gb205, 1, none⟩ = some (.int .i64 a0_1) := (blk_cell BK205.out 1).trans rfl; have hcz17_2 : w16.cell? ⟨gb205, 2, none⟩ = some (.slice A0_2 l0_2.length c0_2) := (blk_cell BK205.out 2).trans rfl; have hcz17_3 : w16.cell? ⟨gb205, 3, none⟩ = some (.int .i64 a0_3) := (blk_cell BK205.out 3).trans rfl; have hfz17_0 := blk_frozen BK205.out 0; have hfz17_1 := blk_frozen BK205.out 1; have hfz17_2 := blk_frozen BK205.out 2; have hfz17_3 := blk_frozen BK205.out 3) | ((with_reducible refine gate_callee (f := 40) rfl ?_); refine goesL_ (some 5) rfl rfl Tryd.func40 (by kernel_rfl) rfl #[.string a0_0] rfl (by (try simp only [List.map_toArray, List.map_cons, List.map_nil]); first | done | rfl | (simp only [List.length_drop, List.length_take]; rfl)) ?_; (with_reducible refine (spileref09_IsName.calls k a0_0 true _ A2.out).mono ?_); rintro e w' ⟨rfl, ⟨nd, rfl⟩⟩; refine ⟨_, rfl, ?_⟩))
     go_ret
     exact ⟨by first | rfl | (simp [errW_none, errW_some] <;> rfl) | (simp [*, errW_none, errW_some] <;> rfl), by repeat (first | (with_reducible first | exact HB.out | apply below_alloc | apply pw_below_drewN | apply below_drew1 | refine below_set ?_ GE205.out) | exact HB.out)⟩
    ·
     rw [if_neg c15] at H; have c15b0 : decide (a0_3 < 0) = false := decide_eq_false c15; clear c15; by_cases c18 : a0_3 > 1073741824
     ·
      rw [if_pos c18] at H; have c18b0 : decide (1073741824 < a0_3) = true := decide_eq_true c18; clear c18; obtain rfl := Option.some.inj H; go_enter Tryd.func21, Tryd.ntmps21
      go_wp2_with (first | ((with_reducible refine gate_dst (N := 1) rfl ?_); refine box_event ?hg (N := 1) ?hd (cs := #[.string a0_0, .int .i64 a0_1, .slice A0_2 l0_2.length c0_2, .int .i64 a0_3]) (t := 27) ?hr ?_; (case hd => rfl); (case hg => rfl); (case hr => first | (go_simp; done) | (go_simp; rfl)); intro gb205 hg w19 hbox hb; have n0_ := Aside0.mk (below_step (by repeat (first | (with_reducible first | exact HB.out | apply below_alloc | apply pw_below_drewN | apply below_drew1) | exact HB.out)) hb); have n1_ := Aside0.mk (hbox); have n2_ := Aside0.mk ((by rw [hg]; exact (below_size (by repeat (first | (with_reducible first | exact HB.out | apply below_alloc | apply pw_below_drewN | apply below_drew1) | exact HB.out))) : w.heap.size ≤ gb205)); have n3_ := Aside0.mk ((by rw [hg]; exact (below_size (by repeat (first | (with_reducible first | exact HB.out | apply below_alloc | apply pw_below_drewN | apply below_drew1) | exact HB.out))) : w.heap.size ≤ gb205)); clear HB; have HB := n0_; have BK205 := n1_; have GW205 := n2_; have GE205 := n3_; clear n0_ n1_ n2_ n3_; clear hb hbox hg; have hcz20_0 : w19.cell? ⟨gb205, 0, none⟩ = some (.string a0_0) := (blk_cell BK205.out 0).trans rfl; have hcz20_1 : w19.cell? ⟨gb205, 1, none⟩ = some (.int .i64 a0_1) := (blk_cell BK205.out 1).trans rfl; have hcz20_2 : w19.cell? ⟨gb205, 2, none⟩ = some (.slice A0_2 l0_2.length c0_2) := (blk_cell BK205.out 2).trans rfl; have hcz20_3 : w19.cell? ⟨gb205, 3, none⟩ = some (.int .i64 a0_3) := (blk_cell BK205.out 3).trans rfl; have hfz20_0 := blk_frozen BK205.out 0; have hfz20_1 := blk_frozen BK205.out 1; have hfz20_2 := blk_frozen BK205.out 2; have hfz20_3 := blk_frozen BK205.out 3) | ((with_reducible refine gate_callee (f := 40) rfl ?_); refine goesL_ (some 5) rfl rfl Tryd.func40 (by kernel_rfl) rfl #[.string a0_0] rfl (by (try simp only [List.map_toArray, List.map_cons, List.map_nil]); first | done | rfl | (simp only [List.length_drop, List.length_take]; rfl)) ?_; (with_reducible refine (spileref09_IsName.calls k a0_0 true _ A2.out).mono ?_); rintro e w' ⟨rfl, ⟨nd, rfl⟩⟩; refine ⟨_, rfl, ?_⟩))
      go_ret
      exact ⟨by first | rfl | (simp [errW_none, errW_some] <;> rfl) | (simp [*, errW_none, errW_some] <;> rfl), by repeat (first | (with_reducible first | exact HB.out | apply below_alloc | apply pw_below_drewN | apply below_drew1 | refine below_set ?_ GE205.out) | exact HB.out)⟩
     ·
      rw [if_neg c18] at H; have c18b0 : decide (1073741824 < a0_3) = false := decide_eq_false c18; clear c18; replace H := Option.bind_eq_some_iff.mp H; obtain ⟨t208, A210, H⟩ := H; replace H : (some t208) = some r := H; have A21 := Aside0.mk A210; clear A210; obtain rfl := Option.some.inj H; go_enter Tryd.func21, Tryd.ntmps21
      go_wp2_with (first | ((with_reducible refine gate_dst (N := 1) rfl ?_); refine box_event ?hg (N := 1) ?hd (cs := #[.string a0_0, .int .i64 a0_1, .slice A0_2 l0_2.length c0_2, .int .i64 a0_3]) (t := 27) ?hr ?_; (case hd => rfl); (case hg => rfl); (case hr => first | (go_simp; done) | (go_simp; rfl)); intro gb205 hg w22 hbox hb; have n0_ := Aside0.mk (below_step (by repeat (first | (with_reducible first | exact HB.out | apply below_alloc | apply pw_below_drewN | apply below_drew1) | exact HB.out)) hb); have n1_ := Aside0.mk (hbox); have n2_ := Aside0.mk ((by rw [hg]; exact (below_size (by repeat (first | (with_reducible first | exact HB.out | apply below_alloc | apply pw_below_drewN | apply below_drew1) | exact HB.out))) : w.heap.size ≤ gb205)); have n3_ := Aside0.mk ((by rw [hg]; exact (below_size (by repeat (first | (with_reducible first | exact HB.out | apply below_alloc | apply pw_below_drewN | apply below_drew1) | exact HB.out))) : w.heap.size ≤ gb205)); clear HB; have HB := n0_; have BK205 := n1_; have GW205 := n2_; have GE205 := n3_; clear n0_ n1_ n2_ n3_; clear hb hbox hg; have hcz23_0 : w22.cell? ⟨gb205, 0, none⟩ = some (.string a0_0) := (blk_cell BK205.out 0).trans rfl; have hcz23_1 : w22.cell? ⟨gb205, 1, none⟩ = some (.int .i64 a0_1) := (blk_cell BK205.out 1).trans rfl; have hcz23_2 : w22.cell? ⟨gb205, 2, none⟩ = some (.slice A0_2 l0_2.length c0_2) := (blk_cell BK205.out 2).trans rfl; have hcz23_3 : w22.cell? ⟨gb205, 3, none⟩ = some (.int .i64 a0_3) := (blk_cell BK205.out 3).trans rfl; have hfz23_0 := blk_frozen BK205.out 0; have hfz23_1 := blk_frozen BK205.out 1; have hfz23_2 := blk_frozen BK205.out 2; have hfz23_3 := blk_frozen BK205.out 3) | ((with_reducible refine gate_callee (f := 40) rfl ?_); refine goesL_ (some 5) rfl rfl Tryd.func40 (by kernel_rfl) rfl #[.string a0_0] rfl (by (try simp only [List.map_toArray, List.map_cons, List.map_nil]); first | done | rfl | (simp only [List.length_drop, List.length_take]; rfl)) ?_; (with_reducible refine (spileref09_IsName.calls k a0_0 true _ A2.out).mono ?_); rintro e w' ⟨rfl, ⟨nd, rfl⟩⟩; refine ⟨_, rfl, ?_⟩) | ((with_reducible refine gate_callee (f := 41) rfl ?_); refine goesL_ (some 27) rfl rfl Tryd.func41 (by kernel_rfl) rfl #[.slice A0_2 l0_2.length c0_2] rfl (by (try simp only [List.map_toArray, List.map_cons, List.map_nil]); first | done | rfl | (simp only [List.length_drop, List.length_take]; rfl)) ?_; (with_reducible refine (spileref08_Check.calls k _ _ l0_2 t208 _ ?side1 ?side2 A21.out).mono ?_); (case side1 => repeat (first | exact (Kd.C_below HR0_2.out (by repeat (first | (with_reducible first | exact HB.out | apply below_alloc | apply pw_below_drewN | apply below_drew1 | refine below_set ?_ GE205.out) | exact HB.out))) | (with_reducible refine Kd.C_alloc ?_ _) | (with_reducible refine Kd.C_drewN ?_ _) | (with_reducible refine Kd.C_drew ?_))); (case side2 => exact HC0_2.out); rintro e w' ⟨rfl, ⟨nd, rfl⟩⟩; refine ⟨_, rfl, ?_⟩))
      go_ret
      exact ⟨by first | rfl | (simp [errW_none, errW_some] <;> rfl) | (simp [*, errW_none, errW_some] <;> rfl), by repeat (first | (with_reducible first | exact HB.out | apply below_alloc | apply pw_below_drewN | apply below_drew1 | refine below_set ?_ GE205.out) | exact HB.out)⟩
   ·
    rw [if_neg c14] at H; have c14b0 : (a0_1 == 2) = false := beq_eq_false_iff_ne.mpr c14; have c14b1 : (a0_1 != 2) = true := bne_iff_ne.mpr c14; obtain rfl := Option.some.inj H; go_enter Tryd.func21, Tryd.ntmps21
    go_wp2_with (first | ((with_reducible refine gate_dst (N := 1) rfl ?_); refine box_event ?hg (N := 1) ?hd (cs := #[.string a0_0, .int .i64 a0_1, .slice A0_2 l0_2.length c0_2, .int .i64 a0_3]) (t := 27) ?hr ?_; (case hd => rfl); (case hg => rfl); (case hr => first | (go_simp; done) | (go_simp; rfl)); intro gb205 hg w24 hbox hb; have n0_ := Aside0.mk (below_step (by repeat (first | (with_reducible first | exact HB.out | apply below_alloc | apply pw_below_drewN | apply below_drew1) | exact HB.out)) hb); have n1_ := Aside0.mk (hbox); have n2_ := Aside0.mk ((by rw [hg]; exact (below_size (by repeat (first | (with_reducible first | exact HB.out | apply below_alloc | apply pw_below_drewN | apply below_drew1) | exact HB.out))) : w.heap.size ≤ gb205)); have n3_ := Aside0.mk ((by rw [hg]; exact (below_size (by repeat (first | (with_reducible first | exact HB.out | apply below_alloc | apply pw_below_drewN | apply below_drew1) | exact HB.out))) : w.heap.size ≤ gb205)); clear HB; have HB := n0_; have BK205 := n1_; have GW205 := n2_; have GE205 := n3_; clear n0_ n1_ n2_ n3_; clear hb hbox hg; have hcz25_0 : w24.cell? ⟨gb205, 0, none⟩ = some (.string a0_0) := (blk_cell BK205.out 0).trans rfl; have hcz25_1 : w24.cell? ⟨gb205, 1, none⟩ = some (.int .i64 a0_1) := (blk_cell BK205.out 1).trans rfl; have hcz25_2 : w24.cell? ⟨gb205, 2, none⟩ = some (.slice A0_2 l0_2.length c0_2) := (blk_cell BK205.out 2).trans rfl; have hcz25_3 : w24.cell? ⟨gb205, 3, none⟩ = some (.int .i64 a0_3) := (blk_cell BK205.out 3).trans rfl; have hfz25_0 := blk_frozen BK205.out 0; have hfz25_1 := blk_frozen BK205.out 1; have hfz25_2 := blk_frozen BK205.out 2; have hfz25_3 := blk_frozen BK205.out 3) | ((with_reducible refine gate_callee (f := 40) rfl ?_); refine goesL_ (some 5) rfl rfl Tryd.func40 (by kernel_rfl) rfl #[.string a0_0] rfl (by (try simp only [List.map_toArray, List.map_cons, List.map_nil]); first | done | rfl | (simp only [List.length_drop, List.length_take]; rfl)) ?_; (with_reducible refine (spileref09_IsName.calls k a0_0 true _ A2.out).mono ?_); rintro e w' ⟨rfl, ⟨nd, rfl⟩⟩; refine ⟨_, rfl, ?_⟩))
    go_ret
    exact ⟨by first | rfl | (simp [errW_none, errW_some] <;> rfl) | (simp [*, errW_none, errW_some] <;> rfl), by repeat (first | (with_reducible first | exact HB.out | apply below_alloc | apply pw_below_drewN | apply below_drew1 | refine below_set ?_ GE205.out) | exact HB.out)⟩
 ·
  replace c3 := Bool.eq_false_iff.mpr c3; subst c3; have H1 : (some 4) = some r := by rw [if_neg (show ¬ (false = true) by decide)] at H; exact H
  clear H; have H := H1; clear H1; obtain rfl := Option.some.inj H; go_enter Tryd.func21, Tryd.ntmps21
  go_wp2_with (first | ((with_reducible refine gate_dst (N := 1) rfl ?_); refine box_event ?hg (N := 1) ?hd (cs := #[.string a0_0, .int .i64 a0_1, .slice A0_2 l0_2.length c0_2, .int .i64 a0_3]) (t := 27) ?hr ?_; (case hd => rfl); (case hg => rfl); (case hr => first | (go_simp; done) | (go_simp; rfl)); intro gb205 hg w26 hbox hb; have n0_ := Aside0.mk (below_step (by repeat (first | (with_reducible first | exact HB.out | apply below_alloc | apply pw_below_drewN | apply below_drew1) | exact HB.out)) hb); have n1_ := Aside0.mk (hbox); have n2_ := Aside0.mk ((by rw [hg]; exact (below_size (by repeat (first | (with_reducible first | exact HB.out | apply below_alloc | apply pw_below_drewN | apply below_drew1) | exact HB.out))) : w.heap.size ≤ gb205)); have n3_ := Aside0.mk ((by rw [hg]; exact (below_size (by repeat (first | (with_reducible first | exact HB.out | apply below_alloc | apply pw_below_drewN | apply below_drew1) | exact HB.out))) : w.heap.size ≤ gb205)); clear HB; have HB := n0_; have BK205 := n1_; have GW205 := n2_; have GE205 := n3_; clear n0_ n1_ n2_ n3_; clear hb hbox hg; have hcz27_0 : w26.cell? ⟨gb205, 0, none⟩ = some (.string a0_0) := (blk_cell BK205.out 0).trans rfl; have hcz27_1 : w26.cell? ⟨gb205, 1, none⟩ = some (.int .i64 a0_1) := (blk_cell BK205.out 1).trans rfl; have hcz27_2 : w26.cell? ⟨gb205, 2, none⟩ = some (.slice A0_2 l0_2.length c0_2) := (blk_cell BK205.out 2).trans rfl; have hcz27_3 : w26.cell? ⟨gb205, 3, none⟩ = some (.int .i64 a0_3) := (blk_cell BK205.out 3).trans rfl; have hfz27_0 := blk_frozen BK205.out 0; have hfz27_1 := blk_frozen BK205.out 1; have hfz27_2 := blk_frozen BK205.out 2; have hfz27_3 := blk_frozen BK205.out 3) | ((with_reducible refine gate_callee (f := 40) rfl ?_); refine goesL_ (some 5) rfl rfl Tryd.func40 (by kernel_rfl) rfl #[.string a0_0] rfl (by (try simp only [List.map_toArray, List.map_cons, List.map_nil]); first | done | rfl | (simp only [List.length_drop, List.length_take]; rfl)) ?_; (with_reducible refine (spileref09_IsName.calls k a0_0 false _ A2.out).mono ?_); rintro e w' ⟨rfl, ⟨nd, rfl⟩⟩; refine ⟨_, rfl, ?_⟩))
  go_ret
  exact ⟨by first | rfl | (simp [errW_none, errW_some] <;> rfl) | (simp [*, errW_none, errW_some] <;> rfl), by repeat (first | (with_reducible first | exact HB.out | apply below_alloc | apply pw_below_drewN | apply below_drew1 | refine below_set ?_ GE205.out) | exact HB.out)⟩
mutual
def spileref09_List.l0 : Nat → List (S27) → Int → Option (Int)
 | 0, _, _ => none
 | k + 1, x0, x3 => if x3 < (x0.length : Int) then (if 0 ≤ x3 then ((spileref09_Check.f k ((rd_T27 x0 x3).f0) ((rd_T27 x0 x3).f1) ((rd_T27 x0 x3).f2) ((rd_T27 x0 x3).f3)).bind fun t210 => (if t210 = 0 then (spileref09_List.l0 k x0 (wrap64 (x3 + 1))) else (some t210))) else (none)) else (spileref09_List.l1 k x0 0)
def spileref09_List.l1 : Nat → List (S27) → Int → Option (Int)
 | 0, _, _ => none
 | k + 1, x0, x5 => if x5 < (x0.length : Int) then (spileref09_List.l2 k x0 x5 0) else (some 0)
def spileref09_List.l2 : Nat → List (S27) → Int → Int → Option (Int)
 | 0, _, _, _ => none
 | k + 1, x0, x5, x6 => if x6 < x5 then (if 0 ≤ x5 then (if x5 < (x0.length : Int) then (if 0 ≤ x6 then (if x6 < (x0.length : Int) then (if ((rd_T27 x0 x5).f0).toList = ((rd_T27 x0 x6).f0).toList then (some 6) else (spileref09_List.l2 k x0 x5 (wrap64 (x6 + 1)))) else (none)) else (none)) else (none)) else (none)) else (spileref09_List.l1 k x0 (wrap64 (x5 + 1)))
end
def spileref09_List.f (k : Nat) (l0 : List (S27)) : Option (Int) := if (l0.length : Int) > 32 then (some 8) else (spileref09_List.l0 k l0 0)
set_option maxHeartbeats 8000000 in
set_option maxRecDepth 100000 in
theorem spileref09_List.calls (k : Nat) (A0 : Option Addr) (c0 : Nat) (l0 : List (S27)) (r : Int) (w : World) (hr0 : Kd.C k27 w A0 l0.length l0) (hc0 : l0.length ≤ c0) (h : spileref09_List.f k l0 = some r) :
  Calls Tryd.prog 17 #[.slice A0 l0.length c0] w fun e w' => e = .returned (.int .i64 r) ∧ Below w.heap.size w w' := by
 have hu27 := Tryd.underlying27; have HR0 := Aside0.mk hr0; have HC0 := Aside0.mk hc0; clear hr0 hc0; have HB := Aside0.mk (Below.refl w.heap.size w); have H : (if (l0.length : Int) > 32 then (some 8) else (spileref09_List.l0 k l0 0)) = some r := h; clear h; by_cases c2 : (l0.length : Int) > 32
 ·
  rw [if_pos c2] at H; have c2b0 : decide (32 < (l0.length : Int)) = true := decide_eq_true c2; have c2b1 : decide (32 < l0.length) = true := decide_eq_true (by omega); clear c2; obtain rfl := Option.some.inj H; go_enter Tryd.func17, Tryd.ntmps17
  go_wp2; repeat (go_quiet (fail); try go_wp2)
  go_ret
  exact ⟨by first | rfl | (simp [errW_none, errW_some] <;> rfl) | (simp [*, errW_none, errW_some] <;> rfl), by repeat (first | (with_reducible first | exact HB.out | apply below_alloc | apply pw_below_drewN | apply below_drew1) | exact HB.out)⟩
 ·
  rw [if_neg c2] at H; have c2b0 : decide (32 < (l0.length : Int)) = false := decide_eq_false c2; have c2b1 : decide (32 < l0.length) = false := decide_eq_false (by omega); clear c2; have H' := Aside0.mk H; clear H; go_enter Tryd.func17, Tryd.ntmps17
  go_wp2; repeat (go_quiet (fail); try go_wp2)
  go_loopg [3] k (fun kq v3 w' => ∃ (x3_1 : Int), v3 = .int .i64 x3_1 ∧ Aside0 (spileref09_List.l0 kq l0 x3_1 = some r) ∧ Aside0 (kq ≤ k) ∧ Aside0 (Below w.heap.size w w'))
  case atStart => exact ⟨(0), (by first | rfl | (simp; done) | (simp [*]; done)), H', ⟨Nat.le_refl _⟩, ⟨by repeat (first | (with_reducible first | exact HB.out | apply below_alloc | apply pw_below_drewN | apply below_drew1) | exact HB.out)⟩⟩
  case round =>
   clear H'; try clear c1
   try clear c2
   try clear c2b0
   try clear c2b1
   try clear p2
   obtain ⟨x3_1, rfl, HA, HK1, HB⟩ := hrel
   cases gk with
   | zero => exact absurd HA.out (by simp [spileref09_List.l0])
   | succ k1 =>
    have H := HA.out; clear HA; simp only [spileref09_List.l0] at H; by_cases c3 : x3_1 < (l0.length : Int)
    ·
     rw [if_pos c3] at H; have c3b0 : decide (x3_1 < (l0.length : Int)) = true := decide_eq_true c3; clear c3; by_cases c4 : 0 ≤ x3_1
     ·
      rw [if_pos c4] at H; have c4b0 : decide (0 ≤ x3_1) = true := decide_eq_true c4; clear c4; replace H := Option.bind_eq_some_iff.mp H; obtain ⟨t210, A50, H⟩ := H; replace H : (if t210 = 0 then (spileref09_List.l0 k1 l0 (wrap64 (x3_1 + 1))) else (some t210)) = some r := H; have A5 := Aside0.mk A50; clear A50; by_cases c6 : t210 = 0
      ·
       rw [if_pos c6] at H; have c6b0 : (t210 == 0) = true := beq_iff_eq.mpr c6; have c6b1 : (t210 != 0) = false := bne_eq_false_iff_eq.mpr c6; clear c6; have H' := Aside0.mk H; clear H; have p209 : 0 ≤ (x3_1 : Int) := of_decide_eq_true (by first | (with_reducible assumption) | assumption); have q209 : x3_1 < (l0.length : Int) := of_decide_eq_true (by first | (with_reducible assumption) | assumption); obtain ⟨ad209, A209_2, c209_2, e209, hx209_0, hx209_1, hx209_2, hx209_3, hl209_2, hi209_2⟩ := at_T27 HR0.out x3_1 p209 q209; cases e209; replace hx209_0 := (HB.out.cell (World.block_lt_of_cell? w _ hx209_0)).trans hx209_0; replace hx209_1 := (HB.out.cell (World.block_lt_of_cell? w _ hx209_1)).trans hx209_1; replace hx209_2 := (HB.out.cell (World.block_lt_of_cell? w _ hx209_2)).trans hx209_2; replace hx209_3 := (HB.out.cell (World.block_lt_of_cell? w _ hx209_3)).trans hx209_3; have HR209_2 := Aside0.mk hi209_2; have HC209_2 := Aside0.mk hl209_2; clear hi209_2 hl209_2; replace p209 := eq_true p209; replace q209 := eq_true q209; go_wp2_with (first | (go_at_call 21; (with_reducible refine (spileref09_Check.calls k1 ((rd_T27 l0 x3_1).f0) ((rd_T27 l0 x3_1).f1) _ _ ((rd_T27 l0 x3_1).f2) ((rd_T27 l0 x3_1).f3) t210 _ ?side1 ?side2 A5.out).mono ?_); (case side1 => repeat (first | exact (Kd.C_below HR209_2.out HB.out) | (with_reducible refine Kd.C_alloc ?_ _) | (with_reducible refine Kd.C_drewN ?_ _) | (with_reducible refine Kd.C_drew ?_))); (case side2 => exact HC209_2.out); rintro e w7 ⟨rfl, hb⟩; have n0_ := Aside0.mk (below_step (by repeat (first | (with_reducible first | exact HB.out | apply below_alloc | apply pw_below_drewN | apply below_drew1) | exact HB.out)) hb); clear HB; have HB := n0_; clear n0_; (try clear hb); (try clear hb2); (try clear hk); (try clear hi)))
       repeat (go_quiet (first | (go_at_call 21; (with_reducible refine (spileref09_Check.calls k1 ((rd_T27 l0 x3_1).f0) ((rd_T27 l0 x3_1).f1) _ _ ((rd_T27 l0 x3_1).f2) ((rd_T27 l0 x3_1).f3) t210 _ ?side1 ?side2 A5.out).mono ?_); (case side1 => repeat (first | exact (Kd.C_below HR209_2.out HB.out) | (with_reducible refine Kd.C_alloc ?_ _) | (with_reducible refine Kd.C_drewN ?_ _) | (with_reducible refine Kd.C_drew ?_))); (case side2 => exact HC209_2.out); rintro e w7 ⟨rfl, hb⟩; have n0_ := Aside0.mk (below_step (by repeat (first | (with_reducible first | exact HB.out | apply below_alloc | apply pw_below_drewN | apply below_drew1) | exact HB.out)) hb); clear HB; have HB := n0_; clear n0_; (try clear hb); (try clear hb2); (try clear hk); (try clear hi))); try go_wp2_with (first | (go_at_call 21; (with_reducible refine (spileref09_Check.calls k1 ((rd_T27 l0 x3_1).f0) ((rd_T27 l0 x3_1).f1) _ _ ((rd_T27 l0 x3_1).f2) ((rd_T27 l0 x3_1).f3) t210 _ ?side1 ?side2 A5.out).mono ?_); (case side1 => repeat (first | exact (Kd.C_below HR209_2.out HB.out) | (with_reducible refine Kd.C_alloc ?_ _) | (with_reducible refine Kd.C_drewN ?_ _) | (with_reducible refine Kd.C_drew ?_))); (case side2 => exact HC209_2.out); rintro e w7 ⟨rfl, hb⟩; have n0_ := Aside0.mk (below_step (by repeat (first | (with_reducible first | exact HB.out | apply below_alloc | apply pw_below_drewN | apply below_drew1) | exact HB.out)) hb); clear HB; have HB := n0_; clear n0_; (try clear hb); (try clear hb2); (try clear hk); (try clear hi))))
       go_roundg k1
       case measure => have := HK1.out; omega
       case rel => exact ⟨(wrap64 (x3_1 + 1)), (by first | rfl | (simp; done) | (simp [*]; done)), H', ⟨by have := HK1.out; omega⟩, ⟨by repeat (first | (with_reducible first | exact HB.out | apply below_alloc | apply pw_below_drewN | apply below_drew1) | exact HB.out)⟩⟩
      ·
       rw [if_neg c6] at H; have c6b0 : (t210 == 0) = false := beq_eq_false_iff_ne.mpr c6; have c6b1 : (t210 != 0) = true := bne_iff_ne.mpr c6; obtain rfl := Option.some.inj H; have p209 : 0 ≤ (x3_1 : Int) := of_decide_eq_true (by first | (with_reducible assumption) | assumption); have q209 : x3_1 < (l0.length : Int) := of_decide_eq_true (by first | (with_reducible assumption) | assumption); obtain ⟨ad209, A209_2, c209_2, e209, hx209_0, hx209_1, hx209_2, hx209_3, hl209_2, hi209_2⟩ := at_T27 HR0.out x3_1 p209 q209; cases e209; replace hx209_0 := (HB.out.cell (World.block_lt_of_cell? w _ hx209_0)).trans hx209_0; replace hx209_1 := (HB.out.cell (World.block_lt_of_cell? w _ hx209_1)).trans hx209_1; replace hx209_2 := (HB.out.cell (World.block_lt_of_cell? w _ hx209_2)).trans hx209_2; replace hx209_3 := (HB.out.cell (World.block_lt_of_cell? w _ hx209_3)).trans hx209_3; have HR209_2 := Aside0.mk hi209_2; have HC209_2 := Aside0.mk hl209_2; clear hi209_2 hl209_2; replace p209 := eq_true p209; replace q209 := eq_true q209; go_wp2_with (first | (go_at_call 21; (with_reducible refine (spileref09_Check.calls k1 ((rd_T27 l0 x3_1).f0) ((rd_T27 l0 x3_1).f1) _ _ ((rd_T27 l0 x3_1).f2) ((rd_T27 l0 x3_1).f3) t210 _ ?side1 ?side2 A5.out).mono ?_); (case side1 => repeat (first | exact (Kd.C_below HR209_2.out HB.out) | (with_reducible refine Kd.C_alloc ?_ _) | (with_reducible refine Kd.C_drewN ?_ _) | (with_reducible refine Kd.C_drew ?_))); (case side2 => exact HC209_2.out); rintro e w8 ⟨rfl, hb⟩; have n0_ := Aside0.mk (below_step (by repeat (first | (with_reducible first | exact HB.out | apply below_alloc | apply pw_below_drewN | apply below_drew1) | exact HB.out)) hb); clear HB; have HB := n0_; clear n0_; (try clear hb); (try clear hb2); (try clear hk); (try clear hi)))
       repeat (go_quiet (first | (go_at_call 21; (with_reducible refine (spileref09_Check.calls k1 ((rd_T27 l0 x3_1).f0) ((rd_T27 l0 x3_1).f1) _ _ ((rd_T27 l0 x3_1).f2) ((rd_T27 l0 x3_1).f3) t210 _ ?side1 ?side2 A5.out).mono ?_); (case side1 => repeat (first | exact (Kd.C_below HR209_2.out HB.out) | (with_reducible refine Kd.C_alloc ?_ _) | (with_reducible refine Kd.C_drewN ?_ _) | (with_reducible refine Kd.C_drew ?_))); (case side2 => exact HC209_2.out); rintro e w8 ⟨rfl, hb⟩; have n0_ := Aside0.mk (below_step (by repeat (first | (with_reducible first | exact HB.out | apply below_alloc | apply pw_below_drewN | apply below_drew1) | exact HB.out)) hb); clear HB; have HB := n0_; clear n0_; (try clear hb); (try clear hb2); (try clear hk); (try clear hi))); try go_wp2_with (first | (go_at_call 21; (with_reducible refine (spileref09_Check.calls k1 ((rd_T27 l0 x3_1).f0) ((rd_T27 l0 x3_1).f1) _ _ ((rd_T27 l0 x3_1).f2) ((rd_T27 l0 x3_1).f3) t210 _ ?side1 ?side2 A5.out).mono ?_); (case side1 => repeat (first | exact (Kd.C_below HR209_2.out HB.out) | (with_reducible refine Kd.C_alloc ?_ _) | (with_reducible refine Kd.C_drewN ?_ _) | (with_reducible refine Kd.C_drew ?_))); (case side2 => exact HC209_2.out); rintro e w8 ⟨rfl, hb⟩; have n0_ := Aside0.mk (below_step (by repeat (first | (with_reducible first | exact HB.out | apply below_alloc | apply pw_below_drewN | apply below_drew1) | exact HB.out)) hb); clear HB; have HB := n0_; clear n0_; (try clear hb); (try clear hb2); (try clear hk); (try clear hi))))
       go_ret
       exact ⟨by first | rfl | (simp [errW_none, errW_some] <;> rfl) | (simp [*, errW_none, errW_some] <;> rfl), by repeat (first | (with_reducible first | exact HB.out | apply below_alloc | apply pw_below_drewN | apply below_drew1) | exact HB.out)⟩
     · rw [if_neg c4] at H; exact absurd H (by simp)
    ·
     rw [if_neg c3] at H; have c3b0 : decide (x3_1 < (l0.length : Int)) = false := decide_eq_false c3; clear c3; have H' := Aside0.mk H; clear H; go_wp2; repeat (go_quiet (fail); try go_wp2)
     go_loopg [5] k1 (fun kq v5 w' => ∃ (x5_2 : Int), v5 = .int .i64 x5_2 ∧ Aside0 (spileref09_List.l1 kq l0 x5_2 = some r) ∧ Aside0 (kq ≤ k1) ∧ Aside0 (Below w.heap.size w w'))
     case atStart => exact ⟨(0), (by first | rfl | (simp; done) | (simp [*]; done)), H', ⟨Nat.le_refl _⟩, ⟨by repeat (first | (with_reducible first | exact HB.out | apply below_alloc | apply pw_below_drewN | apply below_drew1) | exact HB.out)⟩⟩
     case round =>
      clear H'; try clear c1
      try clear c2
      try clear c2b0
      try clear c2b1
      try clear p2
      try clear q2
      try clear hx2
      try clear c3
      try clear c3b0
      try clear c4
      try clear c4b0
      try clear c6
      try clear c6b0
      try clear c6b1
      try clear p6
      try clear hx209_0
      try clear hx209_1
      try clear hx209_2
      try clear hx209_3
      try clear p2
      try clear p209
      try clear q209
      obtain ⟨x5_2, rfl, HA, HK2, HB⟩ := hrel
      cases gk with
      | zero => exact absurd HA.out (by simp [spileref09_List.l1])
      | succ k2 =>
       have H := HA.out; clear HA; simp only [spileref09_List.l1] at H; by_cases c9 : x5_2 < (l0.length : Int)
       ·
        rw [if_pos c9] at H; have c9b0 : decide (x5_2 < (l0.length : Int)) = true := decide_eq_true c9; clear c9; have H' := Aside0.mk H; clear H; go_wp2; repeat (go_quiet (fail); try go_wp2)
        go_loopg [6] k2 (fun kq v6 w' => ∃ (x6_3 : Int), v6 = .int .i64 x6_3 ∧ Aside0 (spileref09_List.l2 kq l0 x5_2 x6_3 = some r) ∧ Aside0 (kq ≤ k2) ∧ Aside0 (Below w.heap.size w w'))
        case atStart => exact ⟨(0), (by first | rfl | (simp; done) | (simp [*]; done)), H', ⟨Nat.le_refl _⟩, ⟨by repeat (first | (with_reducible first | exact HB.out | apply below_alloc | apply pw_below_drewN | apply below_drew1) | exact HB.out)⟩⟩
        case round =>
         clear H'; try clear c1
         try clear c2
         try clear c2b0
         try clear c2b1
         try clear p2
         try clear q2
         try clear hx2
         try clear c3
         try clear c3b0
         try clear c4
         try clear c4b0
         try clear c6
         try clear c6b0
         try clear c6b1
         try clear p6
         try clear c9
         try clear c9b0
         try clear hx209_0
         try clear hx209_1
         try clear hx209_2
         try clear hx209_3
         try clear p2
         try clear p209
         try clear p6
         try clear q2
         try clear q209
         obtain ⟨x6_3, rfl, HA, HK3, HB⟩ := hrel
         cases gk with
         | zero => exact absurd HA.out (by simp [spileref09_List.l2])
         | succ k3 =>
          have H := HA.out; clear HA; simp only [spileref09_List.l2] at H; by_cases c10 : x6_3 < x5_2
          ·
           rw [if_pos c10] at H; have c10b0 : decide (x6_3 < x5_2) = true := decide_eq_true c10; clear c10; by_cases c11 : 0 ≤ x5_2
           ·
            rw [if_pos c11] at H; have c11b0 : decide (0 ≤ x5_2) = true := decide_eq_true c11; clear c11; by_cases c12 : x5_2 < (l0.length : Int)
            ·
             rw [if_pos c12] at H; have c12b0 : decide (x5_2 < (l0.length : Int)) = true := decide_eq_true c12; clear c12; by_cases c13 : 0 ≤ x6_3
             ·
              rw [if_pos c13] at H; have c13b0 : decide (0 ≤ x6_3) = true := decide_eq_true c13; clear c13; by_cases c14 : x6_3 < (l0.length : Int)
              ·
               rw [if_pos c14] at H; have c14b0 : decide (x6_3 < (l0.length : Int)) = true := decide_eq_true c14; clear c14; by_cases c15 : ((rd_T27 l0 x5_2).f0).toList = ((rd_T27 l0 x6_3).f0).toList
               ·
                rw [if_pos c15] at H; have c15b0 : (((rd_T27 l0 x5_2).f0).toList == ((rd_T27 l0 x6_3).f0).toList) = true := beq_iff_eq.mpr c15; have c15b1 : (((rd_T27 l0 x5_2).f0).toList != ((rd_T27 l0 x6_3).f0).toList) = false := bne_eq_false_iff_eq.mpr c15; clear c15; obtain rfl := Option.some.inj H; have p211 : 0 ≤ (x5_2 : Int) := of_decide_eq_true (by first | (with_reducible assumption) | assumption); have q211 : x5_2 < (l0.length : Int) := of_decide_eq_true (by first | (with_reducible assumption) | assumption); obtain ⟨ad211, A211_2, c211_2, e211, hx211_0, hx211_1, hx211_2, hx211_3, hl211_2, hi211_2⟩ := at_T27 HR0.out x5_2 p211 q211; cases e211; replace hx211_0 := (HB.out.cell (World.block_lt_of_cell? w _ hx211_0)).trans hx211_0; replace hx211_1 := (HB.out.cell (World.block_lt_of_cell? w _ hx211_1)).trans hx211_1; replace hx211_2 := (HB.out.cell (World.block_lt_of_cell? w _ hx211_2)).trans hx211_2; replace hx211_3 := (HB.out.cell (World.block_lt_of_cell? w _ hx211_3)).trans hx211_3; have HR211_2 := Aside0.mk hi211_2; have HC211_2 := Aside0.mk hl211_2; clear hi211_2 hl211_2; replace p211 := eq_true p211; replace q211 := eq_true q211; have p212 : 0 ≤ (x6_3 : Int) := of_decide_eq_true (by first | (with_reducible assumption) | assumption); have q212 : x6_3 < (l0.length : Int) := of_decide_eq_true (by first | (with_reducible assumption) | assumption); obtain ⟨ad212, A212_2, c212_2, e212, hx212_0, hx212_1, hx212_2, hx212_3, hl212_2, hi212_2⟩ := at_T27 HR0.out x6_3 p212 q212; obtain rfl : ad211 = ad212 := (by injection e212); replace hx212_0 := (HB.out.cell (World.block_lt_of_cell? w _ hx212_0)).trans hx212_0; replace hx212_1 := (HB.out.cell (World.block_lt_of_cell? w _ hx212_1)).trans hx212_1; replace hx212_2 := (HB.out.cell (World.block_lt_of_cell? w _ hx212_2)).trans hx212_2; replace hx212_3 := (HB.out.cell (World.block_lt_of_cell? w _ hx212_3)).trans hx212_3; have HR212_2 := Aside0.mk hi212_2; have HC212_2 := Aside0.mk hl212_2; clear hi212_2 hl212_2; replace p212 := eq_true p212; replace q212 := eq_true q212; go_wp2; repeat (go_quiet (fail); try go_wp2)
                go_ret
                exact ⟨by first | rfl | (simp [errW_none, errW_some] <;> rfl) | (simp [*, errW_none, errW_some] <;> rfl), by repeat (first | (with_reducible first | exact HB.out | apply below_alloc | apply pw_below_drewN | apply below_drew1) | exact HB.out)⟩
               ·
                rw [if_neg c15] at H; have c15b0 : (((rd_T27 l0 x5_2).f0).toList == ((rd_T27 l0 x6_3).f0).toList) = false := beq_eq_false_iff_ne.mpr c15; have c15b1 : (((rd_T27 l0 x5_2).f0).toList != ((rd_T27 l0 x6_3).f0).toList) = true := bne_iff_ne.mpr c15; have H' := Aside0.mk H; clear H; have p211 : 0 ≤ (x5_2 : Int) := of_decide_eq_true (by first | (with_reducible assumption) | assumption); have q211 : x5_2 < (l0.length : Int) := of_decide_eq_true (by first | (with_reducible assumption) | assumption); obtain ⟨ad211, A211_2, c211_2, e211, hx211_0, hx211_1, hx211_2, hx211_3, hl211_2, hi211_2⟩ := at_T27 HR0.out x5_2 p211 q211; cases e211; replace hx211_0 := (HB.out.cell (World.block_lt_of_cell? w _ hx211_0)).trans hx211_0; replace hx211_1 := (HB.out.cell (World.block_lt_of_cell? w _ hx211_1)).trans hx211_1; replace hx211_2 := (HB.out.cell (World.block_lt_of_cell? w _ hx211_2)).trans hx211_2; replace hx211_3 := (HB.out.cell (World.block_lt_of_cell? w _ hx211_3)).trans hx211_3; have HR211_2 := Aside0.mk hi211_2; have HC211_2 := Aside0.mk hl211_2; clear hi211_2 hl211_2; replace p211 := eq_true p211; replace q211 := eq_true q211; have p212 : 0 ≤ (x6_3 : Int) := of_decide_eq_true (by first | (with_reducible assumption) | assumption); have q212 : x6_3 < (l0.length : Int) := of_decide_eq_true (by first | (with_reducible assumption) | assumption); obtain ⟨ad212, A212_2, c212_2, e212, hx212_0, hx212_1, hx212_2, hx212_3, hl212_2, hi212_2⟩ := at_T27 HR0.out x6_3 p212 q212; obtain rfl : ad211 = ad212 := (by injection e212); replace hx212_0 := (HB.out.cell (World.block_lt_of_cell? w _ hx212_0)).trans hx212_0; replace hx212_1 := (HB.out.cell (World.block_lt_of_cell? w _ hx212_1)).trans hx212_1; replace hx212_2 := (HB.out.cell (World.block_lt_of_cell? w _ hx212_2)).trans hx212_2; replace hx212_3 := (HB.out.cell (World.block_lt_of_cell? w _ hx212_3)).trans hx212_3; have HR212_2 := Aside0.mk hi212_2; have HC212_2 := Aside0.mk hl212_2; clear hi212_2 hl212_2; replace p212 := eq_true p212; replace q212 := eq_true q212; go_wp2; repeat (go_quiet (fail); try go_wp2)
                go_roundg k3
                case measure => have := HK1.out; have := HK2.out; have := HK3.out; omega
                case rel => exact ⟨(wrap64 (x6_3 + 1)), (by first | rfl | (simp; done) | (simp [*]; done)), H', ⟨by have := HK1.out; have := HK2.out; have := HK3.out; omega⟩, ⟨by repeat (first | (with_reducible first | exact HB.out | apply below_alloc | apply pw_below_drewN | apply below_drew1) | exact HB.out)⟩⟩
              · rw [if_neg c14] at H; exact absurd H (by simp)
             · rw [if_neg c13] at H; exact absurd H (by simp)
            · rw [if_neg c12] at H; exact absurd H (by simp)
           · rw [if_neg c11] at H; exact absurd H (by simp)
          ·
           rw [if_neg c10] at H; have c10b0 : decide (x6_3 < x5_2) = false := decide_eq_false c10; clear c10; have H' := Aside0.mk H; clear H; go_wp2; repeat (go_quiet (fail); try go_wp2)
           go_roundg k3
           case measure => have := HK1.out; have := HK2.out; have := HK3.out; omega
           case rel => exact ⟨(wrap64 (x5_2 + 1)), (by first | rfl | (simp; done) | (simp [*]; done)), H', ⟨by have := HK1.out; have := HK2.out; have := HK3.out; omega⟩, ⟨by repeat (first | (with_reducible first | exact HB.out | apply below_alloc | apply pw_below_drewN | apply below_drew1) | exact HB.out)⟩⟩
       ·
        rw [if_neg c9] at H; have c9b0 : decide (x5_2 < (l0.length : Int)) = false := decide_eq_false c9; clear c9; obtain rfl := Option.some.inj H; go_wp2; repeat (go_quiet (fail); try go_wp2)
        go_ret
        exact ⟨by first | rfl | (simp [errW_none, errW_some] <;> rfl) | (simp [*, errW_none, errW_some] <;> rfl), by repeat (first | (with_reducible first | exact HB.out | apply below_alloc | apply pw_below_drewN | apply below_drew1) | exact HB.out)⟩
end Go.Proofs.YtnhmlneebnkjcaaDoor.Pr
