/-
A part of what these laws rest on: contracts of the functions that they reach, and plain lemmas.
-/
import Derived.Test.YtnhmlneebnkjcaaDoorCaskChecksC
set_option linter.unusedVariables false
set_option linter.unusedSimpArgs false
namespace Go.Proofs.YtnhmlneebnkjcaaDoor.Pr
open Go.RowKit Go.Proofs.YtnhmlneebnkjcaaDoorW.PrintWords Go.Proofs.YtnhmlneebnkjcaaDoorW.PrintLast Go.Proofs.YtnhmlneebnkjcaaDoorW.PrintMore Go.Proofs.YtnhmlneebnkjcaaDoor.X
attribute [local go_sem] max2_int min2_int max_two min_two max_three min_three max_four min_four   -- for this text's walks alone
set_option linter.unusedVariables false
set_option linter.unusedSimpArgs false
def spileref09_Few.l0 : Nat → List (S27) → Int → Option (Bool)
 | 0, _, _ => none
 | k + 1, x0, x3 => if x3 < (x0.length : Int) then (if 0 ≤ x3 then ((spileref08_Few.f ((rd_T27 x0 x3).f2)).bind fun t178 => (if t178 = true then (if (((rd_T27 x0 x3).f0).size : Int) > 70 then (some false) else (spileref09_Few.l0 k x0 (wrap64 (x3 + 1)))) else (some false))) else (none)) else (some (decide ((x0.length : Int) ≤ 33)))
def spileref09_Few.f (k : Nat) (l0 : List (S27)) : Option (Bool) := spileref09_Few.l0 k l0 0
set_option maxHeartbeats 8000000 in
set_option maxRecDepth 100000 in
theorem spileref09_Few.calls (k : Nat) (A0 : Option Addr) (c0 : Nat) (l0 : List (S27)) (r : Bool) (w : World) (hr0 : Kd.C k27 w A0 l0.length l0) (hc0 : l0.length ≤ c0) (h : spileref09_Few.f k l0 = some r) :
  Calls Tryd.prog 11 #[.slice A0 l0.length c0] w fun e w' => e = .returned (.bool r) ∧ Drawn0 w w' := by
 have HR0 := Aside0.mk hr0; have HC0 := Aside0.mk hc0; clear hr0 hc0; have H : (spileref09_Few.l0 k l0 0) = some r := h; clear h; have H' := Aside0.mk H; clear H; go_enter Tryd.func11, Tryd.ntmps11
 go_wp2; go_loopg [3] k (fun kq v3 w' => ∃ (x3_1 : Int), v3 = .int .i64 x3_1 ∧ Aside0 (spileref09_Few.l0 kq l0 x3_1 = some r) ∧ Aside0 (kq ≤ k) ∧ Drawn0 w w')
 case atStart => exact ⟨(0), (by first | rfl | (simp; done) | (simp [*]; done)), H', ⟨Nat.le_refl _⟩, by repeat (first | exact Drawn0.refl _ | apply Drawn0.step)⟩
 case round =>
  clear H'; try clear c1
  obtain ⟨x3_1, rfl, HA, HK1, ⟨m1, rfl⟩⟩ := hrel
  cases gk with
  | zero => exact absurd HA.out (by simp [spileref09_Few.l0])
  | succ k1 =>
   have H := HA.out; clear HA; simp only [spileref09_Few.l0] at H; by_cases c2 : x3_1 < (l0.length : Int)
   ·
    rw [if_pos c2] at H; have c2b0 : decide (x3_1 < (l0.length : Int)) = true := decide_eq_true c2; clear c2; by_cases c3 : 0 ≤ x3_1
    ·
     rw [if_pos c3] at H; have c3b0 : decide (0 ≤ x3_1) = true := decide_eq_true c3; clear c3; replace H := Option.bind_eq_some_iff.mp H; obtain ⟨t178, A40, H⟩ := H; replace H : (if t178 = true then (if (((rd_T27 l0 x3_1).f0).size : Int) > 70 then (some false) else (spileref09_Few.l0 k1 l0 (wrap64 (x3_1 + 1)))) else (some false)) = some r := H; have A4 := Aside0.mk A40; clear A40; by_cases c5 : t178 = true
     ·
      subst c5; have H1 : (if (((rd_T27 l0 x3_1).f0).size : Int) > 70 then (some false) else (spileref09_Few.l0 k1 l0 (wrap64 (x3_1 + 1)))) = some r := by rw [if_pos rfl] at H; exact H
      clear H; have H := H1; clear H1; by_cases c6 : (((rd_T27 l0 x3_1).f0).size : Int) > 70
      ·
       rw [if_pos c6] at H; have c6b0 : decide (70 < (((rd_T27 l0 x3_1).f0).size : Int)) = true := decide_eq_true c6; have c6b1 : decide (70 < ((rd_T27 l0 x3_1).f0).size) = true := decide_eq_true (by omega); clear c6; obtain rfl := Option.some.inj H; have p177 : 0 ≤ (x3_1 : Int) := of_decide_eq_true (by first | (with_reducible assumption) | assumption); have q177 : x3_1 < (l0.length : Int) := of_decide_eq_true (by first | (with_reducible assumption) | assumption); obtain ⟨ad177, A177_2, c177_2, e177, hx177_0, hx177_1, hx177_2, hx177_3, hl177_2, hi177_2⟩ := at_T27 HR0.out x3_1 p177 q177; cases e177; have HR177_2 := Aside0.mk hi177_2; have HC177_2 := Aside0.mk hl177_2; clear hi177_2 hl177_2; replace p177 := eq_true p177; replace q177 := eq_true q177; go_wp2_with (first | ((with_reducible refine gate_callee (f := 32) rfl ?_); refine goesL_ (some 15) rfl rfl Tryd.func32 (by kernel_rfl) rfl #[.slice A177_2 ((rd_T27 l0 x3_1).f2).length c177_2] rfl (by (try simp only [List.map_toArray, List.map_cons, List.map_nil]); first | done | rfl | (simp only [List.length_drop, List.length_take]; rfl)) ?_; (with_reducible refine (spileref08_Few.calls _ _ ((rd_T27 l0 x3_1).f2) true _ ?side1 ?side2 A4.out).mono ?_); (case side1 => repeat (first | exact HR177_2.out | (with_reducible refine Kd.C_alloc ?_ _) | (with_reducible refine Kd.C_drewN ?_ _) | (with_reducible refine Kd.C_drew ?_))); (case side2 => exact HC177_2.out); rintro e w' ⟨rfl, ⟨nd, rfl⟩⟩; refine ⟨_, rfl, ?_⟩; have p179 : 0 ≤ (x3_1 : Int) := of_decide_eq_true (by first | (with_reducible assumption) | assumption); have q179 : x3_1 < (l0.length : Int) := of_decide_eq_true (by first | (with_reducible assumption) | assumption); obtain ⟨ad179, A179_2, c179_2, e179, hx179_0, hx179_1, hx179_2, hx179_3, hl179_2, hi179_2⟩ := at_T27 HR0.out x3_1 p179 q179; obtain rfl : ad177 = ad179 := (by injection e179); have HR179_2 := Aside0.mk hi179_2; have HC179_2 := Aside0.mk hl179_2; clear hi179_2 hl179_2; replace p179 := eq_true p179; replace q179 := eq_true q179; have ea_ := Option.some.inj (hx177_2.symm.trans hx179_2); injection ea_ with ea_ en_ ec_; subst ea_; subst ec_; clear en_))
       go_ret
       exact ⟨by first | rfl | (simp; done) | (simp [*]; done), by repeat (first | exact Drawn0.refl _ | apply Drawn0.step)⟩
      ·
       rw [if_neg c6] at H; have c6b0 : decide (70 < (((rd_T27 l0 x3_1).f0).size : Int)) = false := decide_eq_false c6; have c6b1 : decide (70 < ((rd_T27 l0 x3_1).f0).size) = false := decide_eq_false (by omega); clear c6; have H' := Aside0.mk H; clear H; have p177 : 0 ≤ (x3_1 : Int) := of_decide_eq_true (by first | (with_reducible assumption) | assumption); have q177 : x3_1 < (l0.length : Int) := of_decide_eq_true (by first | (with_reducible assumption) | assumption); obtain ⟨ad177, A177_2, c177_2, e177, hx177_0, hx177_1, hx177_2, hx177_3, hl177_2, hi177_2⟩ := at_T27 HR0.out x3_1 p177 q177; cases e177; have HR177_2 := Aside0.mk hi177_2; have HC177_2 := Aside0.mk hl177_2; clear hi177_2 hl177_2; replace p177 := eq_true p177; replace q177 := eq_true q177; go_wp2_with (first | ((with_reducible refine gate_callee (f := 32) rfl ?_); refine goesL_ (some 15) rfl rfl Tryd.func32 (by kernel_rfl) rfl #[.slice A177_2 ((rd_T27 l0 x3_1).f2).length c177_2] rfl (by (try simp only [List.map_toArray, List.map_cons, List.map_nil]); first | done | rfl | (simp only [List.length_drop, List.length_take]; rfl)) ?_; (with_reducible refine (spileref08_Few.calls _ _ ((rd_T27 l0 x3_1).f2) true _ ?side1 ?side2 A4.out).mono ?_); (case side1 => repeat (first | exact HR177_2.out | (with_reducible refine Kd.C_alloc ?_ _) | (with_reducible refine Kd.C_drewN ?_ _) | (with_reducible refine Kd.C_drew ?_))); (case side2 => exact HC177_2.out); rintro e w' ⟨rfl, ⟨nd, rfl⟩⟩; refine ⟨_, rfl, ?_⟩; have p179 : 0 ≤ (x3_1 : Int) := of_decide_eq_true (by first | (with_reducible assumption) | assumption); have q179 : x3_1 < (l0.length : Int) := of_decide_eq_true (by first | (with_reducible assumption) | assumption); obtain ⟨ad179, A179_2, c179_2, e179, hx179_0, hx179_1, hx179_2, hx179_3, hl179_2, hi179_2⟩ := at_T27 HR0.out x3_1 p179 q179; obtain rfl : ad177 = ad179 := (by injection e179); have HR179_2 := Aside0.mk hi179_2; have HC179_2 := Aside0.mk hl179_2; clear hi179_2 hl179_2; replace p179 := eq_true p179; replace q179 := eq_true q179; have ea_ := Option.some.inj (hx177_2.symm.trans hx179_2); injection ea_ with ea_ en_ ec_; subst ea_; subst ec_; clear en_))
       go_roundg k1
       case measure => have := HK1.out; omega
       case rel => exact ⟨(wrap64 (x3_1 + 1)), (by first | rfl | (simp; done) | (simp [*]; done)), H', ⟨by have := HK1.out; omega⟩, by repeat (first | exact Drawn0.refl _ | apply Drawn0.step)⟩
     ·
      replace c5 := Bool.eq_false_iff.mpr c5; subst c5; have H1 : (some false) = some r := by rw [if_neg (show ¬ (false = true) by decide)] at H; exact H
      clear H; have H := H1; clear H1; obtain rfl := Option.some.inj H; have p177 : 0 ≤ (x3_1 : Int) := of_decide_eq_true (by first | (with_reducible assumption) | assumption); have q177 : x3_1 < (l0.length : Int) := of_decide_eq_true (by first | (with_reducible assumption) | assumption); obtain ⟨ad177, A177_2, c177_2, e177, hx177_0, hx177_1, hx177_2, hx177_3, hl177_2, hi177_2⟩ := at_T27 HR0.out x3_1 p177 q177; cases e177; have HR177_2 := Aside0.mk hi177_2; have HC177_2 := Aside0.mk hl177_2; clear hi177_2 hl177_2; replace p177 := eq_true p177; replace q177 := eq_true q177; go_wp2_with (first | ((with_reducible refine gate_callee (f := 32) rfl ?_); refine goesL_ (some 15) rfl rfl Tryd.func32 (by kernel_rfl) rfl #[.slice A177_2 ((rd_T27 l0 x3_1).f2).length c177_2] rfl (by (try simp only [List.map_toArray, List.map_cons, List.map_nil]); first | done | rfl | (simp only [List.length_drop, List.length_take]; rfl)) ?_; (with_reducible refine (spileref08_Few.calls _ _ ((rd_T27 l0 x3_1).f2) false _ ?side1 ?side2 A4.out).mono ?_); (case side1 => repeat (first | exact HR177_2.out | (with_reducible refine Kd.C_alloc ?_ _) | (with_reducible refine Kd.C_drewN ?_ _) | (with_reducible refine Kd.C_drew ?_))); (case side2 => exact HC177_2.out); rintro e w' ⟨rfl, ⟨nd, rfl⟩⟩; refine ⟨_, rfl, ?_⟩))
      go_ret
      exact ⟨by first | rfl | (simp; done) | (simp [*]; done), by repeat (first | exact Drawn0.refl _ | apply Drawn0.step)⟩
    · rw [if_neg c3] at H; exact absurd H (by simp)
   ·
    rw [if_neg c2] at H; have c2b0 : decide (x3_1 < (l0.length : Int)) = false := decide_eq_false c2; clear c2; obtain rfl := Option.some.inj H; go_wp2; go_ret
    exact ⟨by first | rfl | (simp; done) | (simp [*]; done), by repeat (first | exact Drawn0.refl _ | apply Drawn0.step)⟩
def spileref09_Copy.l0 : Nat → List (S27) → List (S27) → Int → Option ((List (S27)))
 | 0, _, _, _ => none
 | k + 1, x0, x3, x4 => if x4 < (x0.length : Int) then (if 0 ≤ x4 then ((some (([] : List (S46)) : List (S46))).bind fun y182 => (if y182.length + ((rd_T27 x0 x4).f2).length < 8796093022208 then (if x3.length < 2513169434916 then (spileref09_Copy.l0 k x0 (x3 ++ [(⟨(rd_T27 x0 x4).f0, (rd_T27 x0 x4).f1, (y182 ++ ((rd_T27 x0 x4).f2)), (rd_T27 x0 x4).f3⟩ : S27)]) (wrap64 (x4 + 1))) else (none)) else (none))) else (none)) else (some x3)
def spileref09_Copy.f (k : Nat) (l0 : List (S27)) : Option ((List (S27))) := spileref09_Copy.l0 k l0 ([] : List (S27)) 0
set_option maxHeartbeats 8000000 in
set_option maxRecDepth 100000 in
theorem spileref09_Copy.calls (k : Nat) (A0 : Option Addr) (c0 : Nat) (l0 : List (S27)) (r : List (S27)) (w : World) (hr0 : Kd.C k27 w A0 l0.length l0) (hc0 : l0.length ≤ c0) (h : spileref09_Copy.f k l0 = some r) :
  Calls Tryd.prog 13 #[.slice A0 l0.length c0] w fun e w' => ∃ v0_ : Value, e = .returned (v0_) ∧ Kd.S k27 27 w' w.heap.size (fun _ => True) v0_ r ∧ Below w.heap.size w w' := by
 have hu27 := Tryd.underlying27; have HR0 := Aside0.mk hr0; have HC0 := Aside0.mk hc0; clear hr0 hc0; have HB := Aside0.mk (Below.refl w.heap.size w); have H : (spileref09_Copy.l0 k l0 ([] : List (S27)) 0) = some r := h; clear h; have H' := Aside0.mk H; clear H; go_enter Tryd.func13, Tryd.ntmps13
 go_wp2; go_loopg [3, 4] k (fun kq v3 v4 w' => ∃ (x3_1 : List (S27)) (x4_1 : Int), v4 = .int .i64 x4_1 ∧ Aside0 (spileref09_Copy.l0 kq l0 x3_1 x4_1 = some r) ∧ Aside0 (kq ≤ k) ∧ Aside0 (Kd.S k27 27 w' w.heap.size (fun _ => True) v3 x3_1) ∧ Aside0 (Below w.heap.size w w'))
 case atStart => exact ⟨(([] : List (S27))), (0), (by first | rfl | (simp; done) | (simp [*]; done)), H', ⟨Nat.le_refl _⟩, ⟨by first | exact Kd.S_nil _ _ _ _ _ | exact Kd.N_nil _ _ _ _ _ | exact Kd.V_nil _ _ _ _ _ | exact Kd.Q_nil _ _ _ _ _ | exact Kd.R_nil _ _ _ _ _⟩, ⟨eG HB.out⟩⟩
 case round =>
  clear H'; try clear c1
  obtain ⟨x3_1, x4_1, rfl, HA, HK1, HO_3, HB⟩ := hrel
  cases gk with
  | zero => exact absurd HA.out (by simp [spileref09_Copy.l0])
  | succ k1 =>
   have H := HA.out; clear HA; simp only [spileref09_Copy.l0] at H; by_cases c2 : x4_1 < (l0.length : Int)
   ·
    rw [if_pos c2] at H; have c2b0 : decide (x4_1 < (l0.length : Int)) = true := decide_eq_true c2; clear c2; by_cases c3 : 0 ≤ x4_1
    ·
     rw [if_pos c3] at H; have c3b0 : decide (0 ≤ x4_1) = true := decide_eq_true c3; clear c3; obtain ⟨y182, hy182⟩ : ∃ y_ : List (S46), y_ = (([] : List (S46))) := ⟨_, rfl⟩; replace H : (if y182.length + ((rd_T27 l0 x4_1).f2).length < 8796093022208 then (if x3_1.length < 2513169434916 then (spileref09_Copy.l0 k1 l0 (x3_1 ++ [(⟨(rd_T27 l0 x4_1).f0, (rd_T27 l0 x4_1).f1, (y182 ++ ((rd_T27 l0 x4_1).f2)), (rd_T27 l0 x4_1).f3⟩ : S27)]) (wrap64 (x4_1 + 1))) else (none)) else (none)) = some r := by first | (rw [hy182]; with_reducible exact H) | (have H2_ := (Option.bind_some _ _).symm.trans H; rw [hy182]; with_reducible exact H2_) | (have H2_ := (Option.bind_some _ _).symm.trans H; with_reducible exact H2_) | with_reducible exact H | (rw [hy182]; exact H) | exact H
     have Ny182 := Aside0.mk hy182; clear hy182; by_cases c4 : y182.length + ((rd_T27 l0 x4_1).f2).length < 8796093022208
     ·
      rw [if_pos c4] at H; have LMc4 := Aside0.mk c4; clear c4; obtain ⟨y185, hy185⟩ : ∃ y_ : List (S46), y_ = (y182 ++ ((rd_T27 l0 x4_1).f2)) := ⟨_, rfl⟩; replace H : (if x3_1.length < 2513169434916 then (spileref09_Copy.l0 k1 l0 (x3_1 ++ [(⟨(rd_T27 l0 x4_1).f0, (rd_T27 l0 x4_1).f1, y185, (rd_T27 l0 x4_1).f3⟩ : S27)]) (wrap64 (x4_1 + 1))) else (none)) = some r := by first | (rw [hy185]; with_reducible exact H) | (have H2_ := (Option.bind_some _ _).symm.trans H; rw [hy185]; with_reducible exact H2_) | (have H2_ := (Option.bind_some _ _).symm.trans H; with_reducible exact H2_) | with_reducible exact H | (rw [hy185]; exact H) | exact H
      have Ny185 := Aside0.mk hy185; clear hy185; by_cases c5 : x3_1.length < 2513169434916
      ·
       rw [if_pos c5] at H; have LMc5 := Aside0.mk c5; clear c5; obtain ⟨y188, hy188⟩ : ∃ y_ : List (S27), y_ = (x3_1 ++ [(⟨(rd_T27 l0 x4_1).f0, (rd_T27 l0 x4_1).f1, y185, (rd_T27 l0 x4_1).f3⟩ : S27)]) := ⟨_, rfl⟩; replace H : (spileref09_Copy.l0 k1 l0 y188 (wrap64 (x4_1 + 1))) = some r := by first | (rw [hy188]; with_reducible exact H) | (have H2_ := (Option.bind_some _ _).symm.trans H; rw [hy188]; with_reducible exact H2_) | (have H2_ := (Option.bind_some _ _).symm.trans H; with_reducible exact H2_) | with_reducible exact H | (rw [hy188]; exact H) | exact H
       have Ny188 := Aside0.mk hy188; clear hy188; have H' := Aside0.mk H; clear H; have p180 : 0 ≤ (x4_1 : Int) := of_decide_eq_true (by first | (with_reducible assumption) | assumption); have q180 : x4_1 < (l0.length : Int) := of_decide_eq_true (by first | (with_reducible assumption) | assumption); obtain ⟨ad180, A180_2, c180_2, e180, hx180_0, hx180_1, hx180_2, hx180_3, hl180_2, hi180_2⟩ := at_T27 HR0.out x4_1 p180 q180; cases e180; replace hx180_0 := (HB.out.cell (World.block_lt_of_cell? w _ hx180_0)).trans hx180_0; replace hx180_1 := (HB.out.cell (World.block_lt_of_cell? w _ hx180_1)).trans hx180_1; replace hx180_2 := (HB.out.cell (World.block_lt_of_cell? w _ hx180_2)).trans hx180_2; replace hx180_3 := (HB.out.cell (World.block_lt_of_cell? w _ hx180_3)).trans hx180_3; have HR180_2 := Aside0.mk hi180_2; have HC180_2 := Aside0.mk hl180_2; clear hi180_2 hl180_2; replace p180 := eq_true p180; replace q180 := eq_true q180; go_wp2_with (first | ((with_reducible refine gate_dst (N := 5) rfl ?_); refine box_event ?hg (N := 5) ?hd (cs := #[.string (⟨#[]⟩ : ByteArray), .int .i64 0, .slice none 0 0, .int .i64 0]) (t := 27) ?hr ?_; (case hd => rfl); (case hg => rfl); (case hr => first | (go_simp; done) | (go_simp; rfl)); intro gb181 hg w6 hbox hb; have n0_ := Aside0.mk (Kd.S_below (Kd.S_elderB (by (with_reducible repeat (first | apply Kd.S_alloc | apply Kd.S_drewN | apply Kd.S_drew)); exact HO_3.out) gb181 (Nat.le_of_eq hg.symm)) hb); have n1_ := Aside0.mk (below_step (eG HB.out) hb); have n2_ := Aside0.mk (hbox); have n3_ := Aside0.mk ((by rw [hg]; exact (below_size (eG HB.out)) : w.heap.size ≤ gb181)); have n4_ := Aside0.mk ((by rw [hg]; exact (below_size (eG HB.out)) : w.heap.size ≤ gb181)); clear HO_3; clear HB; have HO_3 := n0_; have HB := n1_; have BK181 := n2_; have GW181 := n3_; have GE181 := n4_; have ig181_ := geI GE181; clear n0_ n1_ n2_ n3_ n4_; clear hb hbox hg; have hcz7_0 : w6.cell? ⟨gb181, 0, none⟩ = some (.string (⟨#[]⟩ : ByteArray)) := (blk_cell BK181.out 0).trans rfl; have hcz7_1 : w6.cell? ⟨gb181, 1, none⟩ = some (.int .i64 0) := (blk_cell BK181.out 1).trans rfl; have hcz7_2 : w6.cell? ⟨gb181, 2, none⟩ = some (.slice none 0 0) := (blk_cell BK181.out 2).trans rfl; have hcz7_3 : w6.cell? ⟨gb181, 3, none⟩ = some (.int .i64 0) := (blk_cell BK181.out 3).trans rfl; have hfz7_0 := blk_frozen BK181.out 0; have hfz7_1 := blk_frozen BK181.out 1; have hfz7_2 := blk_frozen BK181.out 2; have hfz7_3 := blk_frozen BK181.out 3) | ((with_reducible refine gate_dst (N := 16) rfl ?_); refine Kd.R_lit k46 _ 46 ?hg (N := 16) ?hd (xs := ([] : List (S46))) (inner := []) (ok := fun _ => True) (okp := fun _ => True) ?hr ?hp (fun _ hk => hk) trivial (Below.refl _ _) (Nat.le_refl _) (by simp) ?_; (case hd => rfl); (case hg => rfl); (case hr => first | (go_simp; done) | (go_simp; rfl)); (case hp => exact (Reps.none _ _)); intro v183 w8 ho9 hb hg_ hnew_; clear hg_ hnew_; (first | rw [← Ny182.out] at ho9 | (simp only [Int.reduceToNat] at ho9; rw [← Ny182.out] at ho9)); have n0_ := Aside0.mk (Kd.S_elder' (by (with_reducible repeat (first | apply Kd.S_alloc | apply Kd.S_drewN | apply Kd.S_drew)); exact (Kd.S_mono (Kd.S_far (p := ⟨gb181, 3, none⟩) (Kd.S_far (p := ⟨gb181, 2, none⟩) (Kd.S_far (p := ⟨gb181, 1, none⟩) (Kd.S_far (p := ⟨gb181, 0, none⟩) (Kd.S_mono HO_3.out (fun k_ hk => (⟨hk, hk.2⟩ : _ ∧ k_ ≠ gb181))) (fun _ hk => hk.2) (.string ((rd_T27 l0 x4_1).f0))) (fun _ hk => hk.2) (.int .i64 ((rd_T27 l0 x4_1).f1))) (fun _ hk => hk.2) (.slice A180_2 ((rd_T27 l0 x4_1).f2).length c180_2)) (fun _ hk => hk.2) (.int .i64 ((rd_T27 l0 x4_1).f3))) (fun _ h_ => h_.1))) (Kd.R_base ho9) hb); have n1_ := Aside0.mk (Kd.R_lower ho9 (below_size (eG HB.out))); have n2_ := Aside0.mk (blk_below (g := gb181) (o := .cells #[.string ((rd_T27 l0 x4_1).f0), .int .i64 ((rd_T27 l0 x4_1).f1), .slice A180_2 ((rd_T27 l0 x4_1).f2).length c180_2, .int .i64 ((rd_T27 l0 x4_1).f3)] 27 (0, 0)) (by (with_reducible repeat first | apply bN | apply bD | apply bA); refine blk_put (cs := #[.string ((rd_T27 l0 x4_1).f0), .int .i64 ((rd_T27 l0 x4_1).f1), .slice A180_2 ((rd_T27 l0 x4_1).f2).length c180_2, .int .i64 0]) ?_ 3 _ rfl; (with_reducible repeat first | apply bN | apply bD | apply bA); refine blk_put (cs := #[.string ((rd_T27 l0 x4_1).f0), .int .i64 ((rd_T27 l0 x4_1).f1), .slice none 0 0, .int .i64 0]) ?_ 2 _ rfl; (with_reducible repeat first | apply bN | apply bD | apply bA); refine blk_put (cs := #[.string ((rd_T27 l0 x4_1).f0), .int .i64 0, .slice none 0 0, .int .i64 0]) ?_ 1 _ rfl; (with_reducible repeat first | apply bN | apply bD | apply bA); refine blk_put (cs := #[.string (⟨#[]⟩ : ByteArray), .int .i64 0, .slice none 0 0, .int .i64 0]) ?_ 0 _ rfl; (with_reducible repeat first | apply bN | apply bD | apply bA); exact BK181.out) hb); have n3_ := Aside0.mk (below_step (eG HB.out) hb); clear HO_3; clear BK181; clear HB; have HO_3 := n0_; have HO184 := n1_; have BK181 := n2_; have HB := n3_; clear n0_ n1_ n2_ n3_; clear hb ho9; have hcz10_0 : w8.cell? ⟨gb181, 0, none⟩ = some (.string ((rd_T27 l0 x4_1).f0)) := (blk_cell BK181.out 0).trans rfl; have hcz10_1 : w8.cell? ⟨gb181, 1, none⟩ = some (.int .i64 ((rd_T27 l0 x4_1).f1)) := (blk_cell BK181.out 1).trans rfl; have hcz10_2 : w8.cell? ⟨gb181, 2, none⟩ = some (.slice A180_2 ((rd_T27 l0 x4_1).f2).length c180_2) := (blk_cell BK181.out 2).trans rfl; have hcz10_3 : w8.cell? ⟨gb181, 3, none⟩ = some (.int .i64 ((rd_T27 l0 x4_1).f3)) := (blk_cell BK181.out 3).trans rfl; have hfz10_0 := blk_frozen BK181.out 0; have hfz10_1 := blk_frozen BK181.out 1; have hfz10_2 := blk_frozen BK181.out 2; have hfz10_3 := blk_frozen BK181.out 3) | ((with_reducible refine gate_builtin (b := .append) (xs := #[.tmp 16, .tmp 18]) rfl ?_); at_builtin; refine Kd.R_append_rows k46 (w0 := w) w.heap.size rfl (.tmp 16) (.tmp 18) 25 46 (.agg #[(.int .i64 0), (.int .i64 0)]) 16 rfl Tryd.underlying25 info46 rfl (by decide) (by omega) v183 y182 ((rd_T27 l0 x4_1).f2) _ _ _ (fun _ => True) (fun _ => False) rfl rfl ?aO ?aR (fun _ _ h => h) (fun _ h => h.elim) ?aF ?aB ?aS ?aL ?_; (case aR => repeat (first | exact (Kd.C_below HR180_2.out HB.out) | (with_reducible refine Kd.C_alloc ?_ _) | (with_reducible refine Kd.C_drewN ?_ _) | (with_reducible refine Kd.C_drew ?_))); (case aB => exact (eG HB.out)); (case aF => exact (fun _ _ => trivial)); (case aO => exact (rG HO184.out)); (case aS => exact (below_size (eG HB.out))); (case aL => have := LMc4.out; omega); intro v186 w11 ho hb hg hat; rw [← Ny185.out] at ho; have n0_ := Aside0.mk (Kd.S_after (ok := (fun k_ => k_ ≠ gb181)) (by (with_reducible repeat (first | apply Kd.S_alloc | apply Kd.S_drewN | apply Kd.S_drew)); exact Kd.S_mono HO_3.out (fun _ hk => ⟨hk.1.2, hk.2⟩)) hg hat); have n1_ := Aside0.mk (blk_grown (bG BK181.out) hg (Kd.R_ne HO184.out BK181.out (by decide))); have n2_ := Aside0.mk (hb); have n3_ := Aside0.mk (ho); clear HO_3; clear BK181; clear HB; clear HO184; have HO_3 := n0_; have BK181 := n1_; have HB := n2_; have HO187 := n3_; clear n0_ n1_ n2_ n3_; clear ho hb hg hat; obtain ⟨Ao12, co12, eo12⟩ := Kd.R_slice HO187.out; subst eo12; have hcz13_0 : w11.cell? ⟨gb181, 0, none⟩ = some (.string ((rd_T27 l0 x4_1).f0)) := (blk_cell BK181.out 0).trans rfl; have hcz13_1 : w11.cell? ⟨gb181, 1, none⟩ = some (.int .i64 ((rd_T27 l0 x4_1).f1)) := (blk_cell BK181.out 1).trans rfl; have hcz13_2 : w11.cell? ⟨gb181, 2, none⟩ = some (.slice A180_2 ((rd_T27 l0 x4_1).f2).length c180_2) := (blk_cell BK181.out 2).trans rfl; have hcz13_3 : w11.cell? ⟨gb181, 3, none⟩ = some (.int .i64 ((rd_T27 l0 x4_1).f3)) := (blk_cell BK181.out 3).trans rfl; have hfz13_0 := blk_frozen BK181.out 0; have hfz13_1 := blk_frozen BK181.out 1; have hfz13_2 := blk_frozen BK181.out 2; have hfz13_3 := blk_frozen BK181.out 3) | ((with_reducible refine gate_store (t := 25) (p := 20) rfl ?_); refine store_event (t := 25) (p := 20) (v := ?vo_w14) (w1 := (w11.setCell ⟨gb181, 2, none⟩ (.slice Ao12 y185.length co12))) ?hg ?ho ?hn ?hr ?_; (case ho => rfl); (case hg => rfl); (case hn => rfl); (case hr => first | (go_simp; done) | (go_simp; rfl)); intro w14 hw; have n0_ : Aside0 (Kd.S k27 27 w14 w.heap.size (fun k_ => some k_ ≠ (.slice Ao12 y185.length co12 : Value).ownBlock ∧ k_ ≠ gb181) u3 x3_1) := ⟨(by rw [hw]; exact (by (with_reducible repeat (first | apply Kd.S_alloc | apply Kd.S_drewN | apply Kd.S_drew)); exact Kd.S_mono (Kd.S_far (p := ⟨gb181, 2, none⟩) (Kd.S_mono HO_3.out (fun k_ hk => (⟨hk, hk.1⟩ : _ ∧ k_ ≠ gb181))) (fun _ hk => hk.2) (.slice Ao12 y185.length co12)) (fun _ hk => ⟨hk.1.2, hk.1.1⟩)))⟩; have n1_ : Aside0 (Kd.R k46 46 w14 w.heap.size (fun _ => True) (.slice Ao12 y185.length co12) y185) := ⟨(by rw [hw]; exact (by (with_reducible repeat (first | apply Kd.R_alloc | apply Kd.R_drewN | apply Kd.R_drew)); exact Kd.R_mono (Kd.R_far (p := ⟨gb181, 2, none⟩) (Kd.R_types HO187.out BK181.out (by decide)) (fun _ hk => hk.2) (.slice Ao12 y185.length co12)) (fun _ hk => trivial)))⟩; have n2_ : Aside0 (w14.heap[gb181]? = some (.cells #[.string ((rd_T27 l0 x4_1).f0), .int .i64 ((rd_T27 l0 x4_1).f1), .slice Ao12 y185.length co12, .int .i64 ((rd_T27 l0 x4_1).f3)] 27 (0, 0))) := ⟨(by rw [hw]; exact (by (with_reducible repeat first | apply bN | apply bD | apply bA); refine blk_put (cs := #[.string ((rd_T27 l0 x4_1).f0), .int .i64 ((rd_T27 l0 x4_1).f1), .slice A180_2 ((rd_T27 l0 x4_1).f2).length c180_2, .int .i64 ((rd_T27 l0 x4_1).f3)]) ?_ 2 _ rfl; (with_reducible repeat first | apply bN | apply bD | apply bA); exact BK181.out))⟩; have n3_ : Aside0 (Below w.heap.size w w14) := ⟨(by rw [hw]; exact (eG HB.out))⟩; clear hw; clear HO_3; clear HO187; clear BK181; clear HB; have HO_3 := n0_; have HO187 := n1_; have BK181 := n2_; have HB := n3_; clear n0_ n1_ n2_ n3_; have hcz15_0 : w14.cell? ⟨gb181, 0, none⟩ = some (.string ((rd_T27 l0 x4_1).f0)) := (blk_cell BK181.out 0).trans rfl; have hcz15_1 : w14.cell? ⟨gb181, 1, none⟩ = some (.int .i64 ((rd_T27 l0 x4_1).f1)) := (blk_cell BK181.out 1).trans rfl; have hcz15_2 : w14.cell? ⟨gb181, 2, none⟩ = some (.slice Ao12 y185.length co12) := (blk_cell BK181.out 2).trans rfl; have hcz15_3 : w14.cell? ⟨gb181, 3, none⟩ = some (.int .i64 ((rd_T27 l0 x4_1).f3)) := (blk_cell BK181.out 3).trans rfl; have hfz15_0 := blk_frozen BK181.out 0; have hfz15_1 := blk_frozen BK181.out 1; have hfz15_2 := blk_frozen BK181.out 2; have hfz15_3 := blk_frozen BK181.out 3) | ((with_reducible refine gate_builtin (b := .append) (xs := #[.tmp 21, .tmp 23]) rfl ?_); at_builtin; refine Kd.S_append k27 (w0 := w) w.heap.size rfl (.tmp 21) (.tmp 23) 22 27 (.agg #[(.string ⟨#[]⟩), (.int .i64 0), (.slice none 0 0), (.int .i64 0)]) 56 rfl Tryd.underlying22 info27 rfl (by decide) (by omega) u3 x3_1 (⟨(rd_T27 l0 x4_1).f0, (rd_T27 l0 x4_1).f1, y185, (rd_T27 l0 x4_1).f3⟩ : S27) [.string ((rd_T27 l0 x4_1).f0), .int .i64 ((rd_T27 l0 x4_1).f1), .slice Ao12 y185.length co12, .int .i64 ((rd_T27 l0 x4_1).f3)] (fun k_ => k_ ≠ gb181) (fun k_ => some k_ = (.slice Ao12 y185.length co12 : Value).ownBlock) rfl rfl ?aP (fun k_ hk_ => ((Kd.R_mono (ok' := fun k_ => ((fun k_ => k_ ≠ gb181)) k_ ∧ some k_ ≠ (u3 : Value).ownBlock) (Kd.R_types (Kd.R_apart' (HO187.out) (Kd.S_typed HO_3.out) (by decide)) BK181.out (by decide)) (fun k_ hk => ⟨hk.2, hk.1.2⟩))).1 k_ hk_.symm) ?aF ?aO ?aB ?aS ?aL ?_; (case aP => exact k27_mkM _ _ _ (⟨(rd_T27 l0 x4_1).f0, (rd_T27 l0 x4_1).f1, y185, (rd_T27 l0 x4_1).f3⟩ : S27) (Kd.R_mono (Kd.R_tight rfl (Kd.R_mono (ok' := fun k_ => ((fun k_ => k_ ≠ gb181)) k_ ∧ some k_ ≠ (u3 : Value).ownBlock) (Kd.R_types (Kd.R_apart' (HO187.out) (Kd.S_typed HO_3.out) (by decide)) BK181.out (by decide)) (fun k_ hk => ⟨hk.2, hk.1.2⟩))) (fun _ h_ => h_))); (case aB => exact (eG HB.out)); (case aF => exact (fun k_ hk => Kd.freshB (bG BK181.out) k_ hk)); (case aO => exact (by (with_reducible repeat (first | apply Kd.S_alloc | apply Kd.S_drewN | apply Kd.S_drew)); exact Kd.S_mono HO_3.out (fun k_ hk => ⟨hk.2, fun e_ => hk.1 e_⟩))); (case aS => exact (below_size (eG HB.out))); (case aL => have := LMc5.out; omega); intro v189 w16 ho hb hg hat; rw [← Ny188.out] at ho; have n0_ := Aside0.mk (blk_grown (bG BK181.out) hg (Kd.S_away HO_3.out (fun _ hk => hk.2))); have n1_ := Aside0.mk (hb); have n2_ := Aside0.mk (ho); clear BK181; clear HB; clear HO_3; clear HO187; have BK181 := n0_; have HB := n1_; have HO190 := n2_; clear n0_ n1_ n2_; clear ho hb hg hat))
       go_roundg k1
       case measure => have := HK1.out; omega
       case rel => exact ⟨(y188), (wrap64 (x4_1 + 1)), (by first | rfl | (simp; done) | (simp [*]; done)), H', ⟨by have := HK1.out; omega⟩, ⟨by (with_reducible repeat (first | apply Kd.S_alloc | apply Kd.S_drewN | apply Kd.S_drew)); exact Kd.S_mono HO190.out (fun _ hk => trivial)⟩, ⟨eG HB.out⟩⟩
      · rw [if_neg c5] at H; exact absurd H (by simp)
     · rw [if_neg c4] at H; exact absurd H (by simp)
    · rw [if_neg c3] at H; exact absurd H (by simp)
   ·
    rw [if_neg c2] at H; have c2b0 : decide (x4_1 < (l0.length : Int)) = false := decide_eq_false c2; clear c2; obtain rfl := Option.some.inj H; go_wp2; go_ret
    exact ⟨_, by first | rfl | (simp [errW_none, errW_some] <;> rfl) | (simp [*, errW_none, errW_some] <;> rfl), by (with_reducible repeat (first | apply Kd.S_alloc | apply Kd.S_drewN | apply Kd.S_drew)); exact HO_3.out, eG HB.out⟩
end Go.Proofs.YtnhmlneebnkjcaaDoor.Pr
namespace Go.Proofs.YtnhmlneebnkjcaaDoor.Pr
open Go.RowKit Go.Proofs.YtnhmlneebnkjcaaDoorW.PrintWords Go.Proofs.YtnhmlneebnkjcaaDoorW.PrintLast Go.Proofs.YtnhmlneebnkjcaaDoorW.PrintMore Go.Proofs.YtnhmlneebnkjcaaDoor.X
attribute [local go_sem] max2_int min2_int max_two min_two max_three min_three max_four min_four   -- for this text's walks alone
set_option linter.unusedVariables false
set_option linter.unusedSimpArgs false
def spileref09_IsName.l0 : Nat → ByteArray → Int → Option (Bool)
 | 0, _, _ => none
 | k + 1, x0, x3 => if x3 < (x0.size : Int) then (if 0 ≤ x3 then (if (bt x0 x3) ≥ 97 then (if (bt x0 x3) ≤ 122 then (spileref09_IsName.l0 k x0 (wrap64 (x3 + 1))) else (if (bt x0 x3) ≥ 65 then (if (bt x0 x3) ≤ 90 then (spileref09_IsName.l0 k x0 (wrap64 (x3 + 1))) else (if (bt x0 x3) ≥ 48 then (if (bt x0 x3) ≤ 57 then (spileref09_IsName.l0 k x0 (wrap64 (x3 + 1))) else (if (bt x0 x3) = 45 then (spileref09_IsName.l0 k x0 (wrap64 (x3 + 1))) else (if ((bt x0 x3) = 46) then (spileref09_IsName.l0 k x0 (wrap64 (x3 + 1))) else (some false)))) else (if (bt x0 x3) = 45 then (spileref09_IsName.l0 k x0 (wrap64 (x3 + 1))) else (if ((bt x0 x3) = 46) then (spileref09_IsName.l0 k x0 (wrap64 (x3 + 1))) else (some false))))) else (if (bt x0 x3) ≥ 48 then (if (bt x0 x3) ≤ 57 then (spileref09_IsName.l0 k x0 (wrap64 (x3 + 1))) else (if (bt x0 x3) = 45 then (spileref09_IsName.l0 k x0 (wrap64 (x3 + 1))) else (if ((bt x0 x3) = 46) then (spileref09_IsName.l0 k x0 (wrap64 (x3 + 1))) else (some false)))) else (if (bt x0 x3) = 45 then (spileref09_IsName.l0 k x0 (wrap64 (x3 + 1))) else (if ((bt x0 x3) = 46) then (spileref09_IsName.l0 k x0 (wrap64 (x3 + 1))) else (some false)))))) else (if (bt x0 x3) ≥ 65 then (if (bt x0 x3) ≤ 90 then (spileref09_IsName.l0 k x0 (wrap64 (x3 + 1))) else (if (bt x0 x3) ≥ 48 then (if (bt x0 x3) ≤ 57 then (spileref09_IsName.l0 k x0 (wrap64 (x3 + 1))) else (if (bt x0 x3) = 45 then (spileref09_IsName.l0 k x0 (wrap64 (x3 + 1))) else (if ((bt x0 x3) = 46) then (spileref09_IsName.l0 k x0 (wrap64 (x3 + 1))) else (some false)))) else (if (bt x0 x3) = 45 then (spileref09_IsName.l0 k x0 (wrap64 (x3 + 1))) else (if ((bt x0 x3) = 46) then (spileref09_IsName.l0 k x0 (wrap64 (x3 + 1))) else (some false))))) else (if (bt x0 x3) ≥ 48 then (if (bt x0 x3) ≤ 57 then (spileref09_IsName.l0 k x0 (wrap64 (x3 + 1))) else (if (bt x0 x3) = 45 then (spileref09_IsName.l0 k x0 (wrap64 (x3 + 1))) else (if ((bt x0 x3) = 46) then (spileref09_IsName.l0 k x0 (wrap64 (x3 + 1))) else (some false)))) else (if (bt x0 x3) = 45 then (spileref09_IsName.l0 k x0 (wrap64 (x3 + 1))) else (if ((bt x0 x3) = 46) then (spileref09_IsName.l0 k x0 (wrap64 (x3 + 1))) else (some false)))))) else (none)) else (if (x0.size : Int) ≥ 1 then (some (decide ((x0.size : Int) ≤ 64))) else (some false))
def spileref09_IsName.f (k : Nat) (a0 : ByteArray) : Option (Bool) := spileref09_IsName.l0 k a0 0
set_option maxHeartbeats 8000000 in
set_option maxRecDepth 100000 in
theorem spileref09_IsName.calls (k : Nat) (a0 : ByteArray) (r : Bool) (w : World) (h : spileref09_IsName.f k a0 = some r) :
  Calls Tryd.prog 40 #[.string a0] w fun e w' => e = .returned (.bool r) ∧ Drawn0 w w' := by
 have H : (spileref09_IsName.l0 k a0 0) = some r := h; clear h; have H' := Aside0.mk H; clear H; go_enter Tryd.func40, Tryd.ntmps40
 go_wp2; go_loopg [3] k (fun kq v3 w' => ∃ (x3_1 : Int), v3 = .int .i64 x3_1 ∧ Aside0 (spileref09_IsName.l0 kq a0 x3_1 = some r) ∧ Aside0 (kq ≤ k) ∧ Drawn0 w w')
 case atStart => exact ⟨(0), (by first | rfl | (simp; done) | (simp [*]; done)), H', ⟨Nat.le_refl _⟩, by repeat (first | exact Drawn0.refl _ | apply Drawn0.step)⟩
 case round =>
  clear H'; obtain ⟨x3_1, rfl, HA, HK1, ⟨m1, rfl⟩⟩ := hrel
  cases gk with
  | zero => exact absurd HA.out (by simp [spileref09_IsName.l0])
  | succ k1 =>
   have H := HA.out; clear HA; simp only [spileref09_IsName.l0] at H; by_cases c2 : x3_1 < (a0.size : Int)
   ·
    rw [if_pos c2] at H; have c2b0 : decide (x3_1 < (a0.size : Int)) = true := decide_eq_true c2; clear c2; by_cases c3 : 0 ≤ x3_1
    ·
     rw [if_pos c3] at H; have c3b0 : decide (0 ≤ x3_1) = true := decide_eq_true c3; clear c3; by_cases c5 : (bt a0 x3_1) ≥ 97
     ·
      rw [if_pos c5] at H; have c5b0 : decide (97 ≤ (bt a0 x3_1)) = true := decide_eq_true c5; clear c5; by_cases c6 : (bt a0 x3_1) ≤ 122
      ·
       rw [if_pos c6] at H; have c6b0 : decide ((bt a0 x3_1) ≤ 122) = true := decide_eq_true c6; clear c6; have H' := Aside0.mk H; clear H; have p4 : 0 ≤ (x3_1 : Int) := of_decide_eq_true (by first | (with_reducible assumption) | assumption); have q4 : x3_1 < (a0.size : Int) := of_decide_eq_true (by first | (with_reducible assumption) | assumption); have hx4 := bt_at a0 x3_1; replace p4 := eq_true p4; replace q4 := eq_true q4; go_wp2; go_roundg k1
       case measure => have := HK1.out; omega
       case rel => exact ⟨(wrap64 (x3_1 + 1)), (by first | rfl | (simp; done) | (simp [*]; done)), H', ⟨by have := HK1.out; omega⟩, by repeat (first | exact Drawn0.refl _ | apply Drawn0.step)⟩
      ·
       rw [if_neg c6] at H; have c6b0 : decide ((bt a0 x3_1) ≤ 122) = false := decide_eq_false c6; clear c6; by_cases c7 : (bt a0 x3_1) ≥ 65
       ·
        rw [if_pos c7] at H; have c7b0 : decide (65 ≤ (bt a0 x3_1)) = true := decide_eq_true c7; clear c7; by_cases c8 : (bt a0 x3_1) ≤ 90
        ·
         rw [if_pos c8] at H; have c8b0 : decide ((bt a0 x3_1) ≤ 90) = true := decide_eq_true c8; clear c8; have H' := Aside0.mk H; clear H; have p4 : 0 ≤ (x3_1 : Int) := of_decide_eq_true (by first | (with_reducible assumption) | assumption); have q4 : x3_1 < (a0.size : Int) := of_decide_eq_true (by first | (with_reducible assumption) | assumption); have hx4 := bt_at a0 x3_1; replace p4 := eq_true p4; replace q4 := eq_true q4; go_wp2; go_roundg k1
         case measure => have := HK1.out; omega
         case rel => exact ⟨(wrap64 (x3_1 + 1)), (by first | rfl | (simp; done) | (simp [*]; done)), H', ⟨by have := HK1.out; omega⟩, by repeat (first | exact Drawn0.refl _ | apply Drawn0.step)⟩
        ·
         rw [if_neg c8] at H; have c8b0 : decide ((bt a0 x3_1) ≤ 90) = false := decide_eq_false c8; clear c8; by_cases c9 : (bt a0 x3_1) ≥ 48
         ·
          rw [if_pos c9] at H; have c9b0 : decide (48 ≤ (bt a0 x3_1)) = true := decide_eq_true c9; clear c9; by_cases c10 : (bt a0 x3_1) ≤ 57
          ·
           rw [if_pos c10] at H; have c10b0 : decide ((bt a0 x3_1) ≤ 57) = true := decide_eq_true c10; clear c10; have H' := Aside0.mk H; clear H; have p4 : 0 ≤ (x3_1 : Int) := of_decide_eq_true (by first | (with_reducible assumption) | assumption); have q4 : x3_1 < (a0.size : Int) := of_decide_eq_true (by first | (with_reducible assumption) | assumption); have hx4 := bt_at a0 x3_1; replace p4 := eq_true p4; replace q4 := eq_true q4; go_wp2; go_roundg k1
           case measure => have := HK1.out; omega
           case rel => exact ⟨(wrap64 (x3_1 + 1)), (by first | rfl | (simp; done) | (simp [*]; done)), H', ⟨by have := HK1.out; omega⟩, by repeat (first | exact Drawn0.refl _ | apply Drawn0.step)⟩
          ·
           rw [if_neg c10] at H; have c10b0 : decide ((bt a0 x3_1) ≤ 57) = false := decide_eq_false c10; clear c10; by_cases c11 : (bt a0 x3_1) = 45
           ·
            rw [if_pos c11] at H; have c11b0 : ((bt a0 x3_1) == 45) = true := beq_iff_eq.mpr c11; have c11b1 : ((bt a0 x3_1) != 45) = false := bne_eq_false_iff_eq.mpr c11; clear c11; have H' := Aside0.mk H; clear H; have p4 : 0 ≤ (x3_1 : Int) := of_decide_eq_true (by first | (with_reducible assumption) | assumption); have q4 : x3_1 < (a0.size : Int) := of_decide_eq_true (by first | (with_reducible assumption) | assumption); have hx4 := bt_at a0 x3_1; replace p4 := eq_true p4; replace q4 := eq_true q4; go_wp2; go_roundg k1
            case measure => have := HK1.out; omega
            case rel => exact ⟨(wrap64 (x3_1 + 1)), (by first | rfl | (simp; done) | (simp [*]; done)), H', ⟨by have := HK1.out; omega⟩, by repeat (first | exact Drawn0.refl _ | apply Drawn0.step)⟩
           ·
            rw [if_neg c11] at H; have c11b0 : ((bt a0 x3_1) == 45) = false := beq_eq_false_iff_ne.mpr c11; have c11b1 : ((bt a0 x3_1) != 45) = true := bne_iff_ne.mpr c11; by_cases c12 : ((bt a0 x3_1) = 46)
            ·
             rw [if_pos c12] at H; have c12b0 : ((bt a0 x3_1) == 46) = true := beq_iff_eq.mpr c12; have c12b1 : ((bt a0 x3_1) != 46) = false := bne_eq_false_iff_eq.mpr c12; clear c12; have H' := Aside0.mk H; clear H; have p4 : 0 ≤ (x3_1 : Int) := of_decide_eq_true (by first | (with_reducible assumption) | assumption); have q4 : x3_1 < (a0.size : Int) := of_decide_eq_true (by first | (with_reducible assumption) | assumption); have hx4 := bt_at a0 x3_1; replace p4 := eq_true p4; replace q4 := eq_true q4; go_wp2; go_roundg k1
             case measure => have := HK1.out; omega
             case rel => exact ⟨(wrap64 (x3_1 + 1)), (by first | rfl | (simp; done) | (simp [*]; done)), H', ⟨by have := HK1.out; omega⟩, by repeat (first | exact Drawn0.refl _ | apply Drawn0.step)⟩
            ·
             rw [if_neg c12] at H; have c12b0 : ((bt a0 x3_1) == 46) = false := beq_eq_false_iff_ne.mpr c12; have c12b1 : ((bt a0 x3_1) != 46) = true := bne_iff_ne.mpr c12; obtain rfl := Option.some.inj H; have p4 : 0 ≤ (x3_1 : Int) := of_decide_eq_true (by first | (with_reducible assumption) | assumption); have q4 : x3_1 < (a0.size : Int) := of_decide_eq_true (by first | (with_reducible assumption) | assumption); have hx4 := bt_at a0 x3_1; replace p4 := eq_true p4; replace q4 := eq_true q4; go_wp2; go_ret
             exact ⟨by first | rfl | (simp; done) | (simp [*]; done), by repeat (first | exact Drawn0.refl _ | apply Drawn0.step)⟩
         ·
          rw [if_neg c9] at H; have c9b0 : decide (48 ≤ (bt a0 x3_1)) = false := decide_eq_false c9; clear c9; by_cases c13 : (bt a0 x3_1) = 45
          ·
           rw [if_pos c13] at H; have c13b0 : ((bt a0 x3_1) == 45) = true := beq_iff_eq.mpr c13; have c13b1 : ((bt a0 x3_1) != 45) = false := bne_eq_false_iff_eq.mpr c13; clear c13; have H' := Aside0.mk H; clear H; have p4 : 0 ≤ (x3_1 : Int) := of_decide_eq_true (by first | (with_reducible assumption) | assumption); have q4 : x3_1 < (a0.size : Int) := of_decide_eq_true (by first | (with_reducible assumption) | assumption); have hx4 := bt_at a0 x3_1; replace p4 := eq_true p4; replace q4 := eq_true q4; go_wp2; go_roundg k1
           case measure => have := HK1.out; omega
           case rel => exact ⟨(wrap64 (x3_1 + 1)), (by first | rfl | (simp; done) | (simp [*]; done)), H', ⟨by have := HK1.out; omega⟩, by repeat (first | exact Drawn0.refl _ | apply Drawn0.step)⟩
          ·
           rw [if_neg c13] at H; have c13b0 : ((bt a0 x3_1) == 45) = false := beq_eq_false_iff_ne.mpr c13; have c13b1 : ((bt a0 x3_1) != 45) = true := bne_iff_ne.mpr c13; by_cases c14 : ((bt a0 x3_1) = 46)
           ·
            rw [if_pos c14] at H; have c14b0 : ((bt a0 x3_1) == 46) = true := beq_iff_eq.mpr c14; have c14b1 : ((bt a0 x3_1) != 46) = false := bne_eq_false_iff_eq.mpr c14; clear c14; have H' := Aside0.mk H; clear H; have p4 : 0 ≤ (x3_1 : Int) := of_decide_eq_true (by first | (with_reducible assumption) | assumption); have q4 : x3_1 < (a0.size : Int) := of_decide_eq_true (by first | (with_reducible assumption) | assumption); have hx4 := bt_at a0 x3_1; replace p4 := eq_true p4; replace q4 := eq_true q4; go_wp2; go_roundg k1
            case measure => have := HK1.out; omega
            case rel => exact ⟨(wrap64 (x3_1 + 1)), (by first | rfl | (simp; done) | (simp [*]; done)), H', ⟨by have := HK1.out; omega⟩, by repeat (first | exact Drawn0.refl _ | apply Drawn0.step)⟩
           ·
            rw [if_neg c14] at H; have c14b0 : ((bt a0 x3_1) == 46) = false := beq_eq_false_iff_ne.mpr c14; have c14b1 : ((bt a0 x3_1) != 46) = true := bne_iff_ne.mpr c14; obtain rfl := Option.some.inj H; have p4 : 0 ≤ (x3_1 : Int) := of_decide_eq_true (by first | (with_reducible assumption) | assumption); have q4 : x3_1 < (a0.size : Int) := of_decide_eq_true (by first | (with_reducible assumption) | assumption); have hx4 := bt_at a0 x3_1; replace p4 := eq_true p4; replace q4 := eq_true q4; go_wp2; go_ret
            exact ⟨by first | rfl | (simp; done) | (simp [*]; done), by repeat (first | exact Drawn0.refl _ | apply Drawn0.step)⟩
       ·
        rw [if_neg c7] at H; have c7b0 : decide (65 ≤ (bt a0 x3_1)) = false := decide_eq_false c7; clear c7; by_cases c15 : (bt a0 x3_1) ≥ 48
        ·
         rw [if_pos c15] at H; have c15b0 : decide (48 ≤ (bt a0 x3_1)) = true := decide_eq_true c15; clear c15; by_cases c16 : (bt a0 x3_1) ≤ 57
         ·
          rw [if_pos c16] at H; have c16b0 : decide ((bt a0 x3_1) ≤ 57) = true := decide_eq_true c16; clear c16; have H' := Aside0.mk H; clear H; have p4 : 0 ≤ (x3_1 : Int) := of_decide_eq_true (by first | (with_reducible assumption) | assumption); have q4 : x3_1 < (a0.size : Int) := of_decide_eq_true (by first | (with_reducible assumption) | assumption); have hx4 := bt_at a0 x3_1; replace p4 := eq_true p4; replace q4 := eq_true q4; go_wp2; go_roundg k1
          case measure => have := HK1.out; omega
          case rel => exact ⟨(wrap64 (x3_1 + 1)), (by first | rfl | (simp; done) | (simp [*]; done)), H', ⟨by have := HK1.out; omega⟩, by repeat (first | exact Drawn0.refl _ | apply Drawn0.step)⟩
         ·
          rw [if_neg c16] at H; have c16b0 : decide ((bt a0 x3_1) ≤ 57) = false := decide_eq_false c16; clear c16; by_cases c17 : (bt a0 x3_1) = 45
          ·
           rw [if_pos c17] at H; have c17b0 : ((bt a0 x3_1) == 45) = true := beq_iff_eq.mpr c17; have c17b1 : ((bt a0 x3_1) != 45) = false := bne_eq_false_iff_eq.mpr c17; clear c17; have H' := Aside0.mk H; clear H; have p4 : 0 ≤ (x3_1 : Int) := of_decide_eq_true (by first | (with_reducible assumption) | assumption); have q4 : x3_1 < (a0.size : Int) := of_decide_eq_true (by first | (with_reducible assumption) | assumption); have hx4 := bt_at a0 x3_1; replace p4 := eq_true p4; replace q4 := eq_true q4; go_wp2; go_roundg k1
           case measure => have := HK1.out; omega
           case rel => exact ⟨(wrap64 (x3_1 + 1)), (by first | rfl | (simp; done) | (simp [*]; done)), H', ⟨by have := HK1.out; omega⟩, by repeat (first | exact Drawn0.refl _ | apply Drawn0.step)⟩
          ·
           rw [if_neg c17] at H; have c17b0 : ((bt a0 x3_1) == 45) = false := beq_eq_false_iff_ne.mpr c17; have c17b1 : ((bt a0 x3_1) != 45) = true := bne_iff_ne.mpr c17; by_cases c18 : ((bt a0 x3_1) = 46)
           ·
            rw [if_pos c18] at H; have c18b0 : ((bt a0 x3_1) == 46) = true := beq_iff_eq.mpr c18; have c18b1 : ((bt a0 x3_1) != 46) = false := bne_eq_false_iff_eq.mpr c18; clear c18; have H' := Aside0.mk H; clear H; have p4 : 0 ≤ (x3_1 : Int) := of_decide_eq_true (by first | (with_reducible assumption) | assumption); have q4 : x3_1 < (a0.size : Int) := of_decide_eq_true (by first | (with_reducible assumption) | assumption); have hx4 := bt_at a0 x3_1; replace p4 := eq_true p4; replace q4 := eq_true q4; go_wp2; go_roundg k1
            case measure => have := HK1.out; omega
            case rel => exact ⟨(wrap64 (x3_1 + 1)), (by first | rfl | (simp; done) | (simp [*]; done)), H', ⟨by have := HK1.out; omega⟩, by repeat (first | exact Drawn0.refl _ | apply Drawn0.step)⟩
           ·
            rw [if_neg c18] at H; have c18b0 : ((bt a0 x3_1) == 46) = false := beq_eq_false_iff_ne.mpr c18; have c18b1 : ((bt a0 x3_1) != 46) = true := bne_iff_ne.mpr c18; obtain rfl := Option.some.inj H; have p4 : 0 ≤ (x3_1 : Int) := of_decide_eq_true (by first | (with_reducible assumption) | assumption); have q4 : x3_1 < (a0.size : Int) := of_decide_eq_true (by first | (with_reducible assumption) | assumption); have hx4 := bt_at a0 x3_1; replace p4 := eq_true p4; replace q4 := eq_true q4; go_wp2; go_ret
            exact ⟨by first | rfl | (simp; done) | (simp [*]; done), by repeat (first | exact Drawn0.refl _ | apply Drawn0.step)⟩
        ·
         rw [if_neg c15] at H; have c15b0 : decide (48 ≤ (bt a0 x3_1)) = false := decide_eq_false c15; clear c15; by_cases c19 : (bt a0 x3_1) = 45
         ·
          rw [if_pos c19] at H; have c19b0 : ((bt a0 x3_1) == 45) = true := beq_iff_eq.mpr c19; have c19b1 : ((bt a0 x3_1) != 45) = false := bne_eq_false_iff_eq.mpr c19; clear c19; have H' := Aside0.mk H; clear H; have p4 : 0 ≤ (x3_1 : Int) := of_decide_eq_true (by first | (with_reducible assumption) | assumption); have q4 : x3_1 < (a0.size : Int) := of_decide_eq_true (by first | (with_reducible assumption) | assumption); have hx4 := bt_at a0 x3_1; replace p4 := eq_true p4; replace q4 := eq_true q4; go_wp2; go_roundg k1
          case measure => have := HK1.out; omega
          case rel => exact ⟨(wrap64 (x3_1 + 1)), (by first | rfl | (simp; done) | (simp [*]; done)), H', ⟨by have := HK1.out; omega⟩, by repeat (first | exact Drawn0.refl _ | apply Drawn0.step)⟩
         ·
          rw [if_neg c19] at H; have c19b0 : ((bt a0 x3_1) == 45) = false := beq_eq_false_iff_ne.mpr c19; have c19b1 : ((bt a0 x3_1) != 45) = true := bne_iff_ne.mpr c19; by_cases c20 : ((bt a0 x3_1) = 46)
          ·
           rw [if_pos c20] at H; have c20b0 : ((bt a0 x3_1) == 46) = true := beq_iff_eq.mpr c20; have c20b1 : ((bt a0 x3_1) != 46) = false := bne_eq_false_iff_eq.mpr c20; clear c20; have H' := Aside0.mk H; clear H; have p4 : 0 ≤ (x3_1 : Int) := of_decide_eq_true (by first | (with_reducible assumption) | assumption); have q4 : x3_1 < (a0.size : Int) := of_decide_eq_true (by first | (with_reducible assumption) | assumption); have hx4 := bt_at a0 x3_1; replace p4 := eq_true p4; replace q4 := eq_true q4; go_wp2; go_roundg k1
           case measure => have := HK1.out; omega
           case rel => exact ⟨(wrap64 (x3_1 + 1)), (by first | rfl | (simp; done) | (simp [*]; done)), H', ⟨by have := HK1.out; omega⟩, by repeat (first | exact Drawn0.refl _ | apply Drawn0.step)⟩
          ·
           rw [if_neg c20] at H; have c20b0 : ((bt a0 x3_1) == 46) = false := beq_eq_false_iff_ne.mpr c20; have c20b1 : ((bt a0 x3_1) != 46) = true := bne_iff_ne.mpr c20; obtain rfl := Option.some.inj H; have p4 : 0 ≤ (x3_1 : Int) := of_decide_eq_true (by first | (with_reducible assumption) | assumption); have q4 : x3_1 < (a0.size : Int) := of_decide_eq_true (by first | (with_reducible assumption) | assumption); have hx4 := bt_at a0 x3_1; replace p4 := eq_true p4; replace q4 := eq_true q4; go_wp2; go_ret
           exact ⟨by first | rfl | (simp; done) | (simp [*]; done), by repeat (first | exact Drawn0.refl _ | apply Drawn0.step)⟩
     ·
      rw [if_neg c5] at H; have c5b0 : decide (97 ≤ (bt a0 x3_1)) = false := decide_eq_false c5; clear c5; by_cases c21 : (bt a0 x3_1) ≥ 65
      ·
       rw [if_pos c21] at H; have c21b0 : decide (65 ≤ (bt a0 x3_1)) = true := decide_eq_true c21; clear c21; by_cases c22 : (bt a0 x3_1) ≤ 90
       ·
        rw [if_pos c22] at H; have c22b0 : decide ((bt a0 x3_1) ≤ 90) = true := decide_eq_true c22; clear c22; have H' := Aside0.mk H; clear H; have p4 : 0 ≤ (x3_1 : Int) := of_decide_eq_true (by first | (with_reducible assumption) | assumption); have q4 : x3_1 < (a0.size : Int) := of_decide_eq_true (by first | (with_reducible assumption) | assumption); have hx4 := bt_at a0 x3_1; replace p4 := eq_true p4; replace q4 := eq_true q4; go_wp2; go_roundg k1
        case measure => have := HK1.out; omega
        case rel => exact ⟨(wrap64 (x3_1 + 1)), (by first | rfl | (simp; done) | (simp [*]; done)), H', ⟨by have := HK1.out; omega⟩, by repeat (first | exact Drawn0.refl _ | apply Drawn0.step)⟩
       ·
        rw [if_neg c22] at H; have c22b0 : decide ((bt a0 x3_1) ≤ 90) = false := decide_eq_false c22; clear c22; by_cases c23 : (bt a0 x3_1) ≥ 48
        ·
         rw [if_pos c23] at H; have c23b0 : decide (48 ≤ (bt a0 x3_1)) = true := decide_eq_true c23; clear c23; by_cases c24 : (bt a0 x3_1) ≤ 57
         ·
          rw [if_pos c24] at H; have c24b0 : decide ((bt a0 x3_1) ≤ 57) = true := decide_eq_true c24; clear c24; have H' := Aside0.mk H; clear H; have p4 : 0 ≤ (x3_1 : Int) := of_decide_eq_true (by first | (with_reducible assumption) | assumption); have q4 : x3_1 < (a0.size : Int) := of_decide_eq_true (by first | (with_reducible assumption) | assumption); have hx4 := bt_at a0 x3_1; replace p4 := eq_true p4; replace q4 := eq_true q4; go_wp2; go_roundg k1
          case measure => have := HK1.out; omega
          case rel => exact ⟨(wrap64 (x3_1 + 1)), (by first | rfl | (simp; done) | (simp [*]; done)), H', ⟨by have := HK1.out; omega⟩, by repeat (first | exact Drawn0.refl _ | apply Drawn0.step)⟩
         ·
          rw [if_neg c24] at H; have c24b0 : decide ((bt a0 x3_1) ≤ 57) = false := decide_eq_false c24; clear c24; by_cases c25 : (bt a0 x3_1) = 45
          ·
           rw [if_pos c25] at H; have c25b0 : ((bt a0 x3_1) == 45) = true := beq_iff_eq.mpr c25; have c25b1 : ((bt a0 x3_1) != 45) = false := bne_eq_false_iff_eq.mpr c25; clear c25; have H' := Aside0.mk H; clear H; have p4 : 0 ≤ (x3_1 : Int) := of_decide_eq_true (by first | (with_reducible assumption) | assumption); have q4 : x3_1 < (a0.size : Int) := of_decide_eq_true (by first | (with_reducible assumption) | assumption); have hx4 := bt_at a0 x3_1; replace p4 := eq_true p4; replace q4 := eq_true q4; go_wp2; go_roundg k1
           case measure => have := HK1.out; omega
           case rel => exact ⟨(wrap64 (x3_1 + 1)), (by first | rfl | (simp; done) | (simp [*]; done)), H', ⟨by have := HK1.out; omega⟩, by repeat (first | exact Drawn0.refl _ | apply Drawn0.step)⟩
          ·
           rw [if_neg c25] at H; have c25b0 : ((bt a0 x3_1) == 45) = false := beq_eq_false_iff_ne.mpr c25; have c25b1 : ((bt a0 x3_1) != 45) = true := bne_iff_ne.mpr c25; by_cases c26 : ((bt a0 x3_1) = 46)
           ·
            rw [if_pos c26] at H; have c26b0 : ((bt a0 x3_1) == 46) = true := beq_iff_eq.mpr c26; have c26b1 : ((bt a0 x3_1) != 46) = false := bne_eq_false_iff_eq.mpr c26; clear c26; have H' := Aside0.mk H; clear H; have p4 : 0 ≤ (x3_1 : Int) := of_decide_eq_true (by first | (with_reducible assumption) | assumption); have q4 : x3_1 < (a0.size : Int) := of_decide_eq_true (by first | (with_reducible assumption) | assumption); have hx4 := bt_at a0 x3_1; replace p4 := eq_true p4; replace q4 := eq_true q4; go_wp2; go_roundg k1
            case measure => have := HK1.out; omega
            case rel => exact ⟨(wrap64 (x3_1 + 1)), (by first | rfl | (simp; done) | (simp [*]; done)), H', ⟨by have := HK1.out; omega⟩, by repeat (first | exact Drawn0.refl _ | apply Drawn0.step)⟩
           ·
            rw [if_neg c26] at H; have c26b0 : ((bt a0 x3_1) == 46) = false := beq_eq_false_iff_ne.mpr c26; have c26b1 : ((bt a0 x3_1) != 46) = true := bne_iff_ne.mpr c26; obtain rfl := Option.some.inj H; have p4 : 0 ≤ (x3_1 : Int) := of_decide_eq_true (by first | (with_reducible assumption) | assumption); have q4 : x3_1 < (a0.size : Int) := of_decide_eq_true (by first | (with_reducible assumption) | assumption); have hx4 := bt_at a0 x3_1; replace p4 := eq_true p4; replace q4 := eq_true q4; go_wp2; go_ret
            exact ⟨by first | rfl | (simp; done) | (simp [*]; done), by repeat (first | exact Drawn0.refl _ | apply Drawn0.step)⟩
        ·
         rw [if_neg c23] at H; have c23b0 : decide (48 ≤ (bt a0 x3_1)) = false := decide_eq_false c23; clear c23; by_cases c27 : (bt a0 x3_1) = 45
         ·
          rw [if_pos c27] at H; have c27b0 : ((bt a0 x3_1) == 45) = true := beq_iff_eq.mpr c27; have c27b1 : ((bt a0 x3_1) != 45) = false := bne_eq_false_iff_eq.mpr c27; clear c27; have H' := Aside0.mk H; clear H; have p4 : 0 ≤ (x3_1 : Int) := of_decide_eq_true (by first | (with_reducible assumption) | assumption); have q4 : x3_1 < (a0.size : Int) := of_decide_eq_true (by first | (with_reducible assumption) | assumption); have hx4 := bt_at a0 x3_1; replace p4 := eq_true p4; replace q4 := eq_true q4; go_wp2; go_roundg k1
          case measure => have := HK1.out; omega
          case rel => exact ⟨(wrap64 (x3_1 + 1)), (by first | rfl | (simp; done) | (simp [*]; done)), H', ⟨by have := HK1.out; omega⟩, by repeat (first | exact Drawn0.refl _ | apply Drawn0.step)⟩
         ·
          rw [if_neg c27] at H; have c27b0 : ((bt a0 x3_1) == 45) = false := beq_eq_false_iff_ne.mpr c27; have c27b1 : ((bt a0 x3_1) != 45) = true := bne_iff_ne.mpr c27; by_cases c28 : ((bt a0 x3_1) = 46)
          ·
           rw [if_pos c28] at H; have c28b0 : ((bt a0 x3_1) == 46) = true := beq_iff_eq.mpr c28; have c28b1 : ((bt a0 x3_1) != 46) = false := bne_eq_false_iff_eq.mpr c28; clear c28; have H' := Aside0.mk H; clear H; have p4 : 0 ≤ (x3_1 : Int) := of_decide_eq_true (by first | (with_reducible assumption) | assumption); have q4 : x3_1 < (a0.size : Int) := of_decide_eq_true (by first | (with_reducible assumption) | assumption); have hx4 := bt_at a0 x3_1; replace p4 := eq_true p4; replace q4 := eq_true q4; go_wp2; go_roundg k1
           case measure => have := HK1.out; omega
           case rel => exact ⟨(wrap64 (x3_1 + 1)), (by first | rfl | (simp; done) | (simp [*]; done)), H', ⟨by have := HK1.out; omega⟩, by repeat (first | exact Drawn0.refl _ | apply Drawn0.step)⟩
          ·
           rw [if_neg c28] at H; have c28b0 : ((bt a0 x3_1) == 46) = false := beq_eq_false_iff_ne.mpr c28; have c28b1 : ((bt a0 x3_1) != 46) = true := bne_iff_ne.mpr c28; obtain rfl := Option.some.inj H; have p4 : 0 ≤ (x3_1 : Int) := of_decide_eq_true (by first | (with_reducible assumption) | assumption); have q4 : x3_1 < (a0.size : Int) := of_decide_eq_true (by first | (with_reducible assumption) | assumption); have hx4 := bt_at a0 x3_1; replace p4 := eq_true p4; replace q4 := eq_true q4; go_wp2; go_ret
           exact ⟨by first | rfl | (simp; done) | (simp [*]; done), by repeat (first | exact Drawn0.refl _ | apply Drawn0.step)⟩
      ·
       rw [if_neg c21] at H; have c21b0 : decide (65 ≤ (bt a0 x3_1)) = false := decide_eq_false c21; clear c21; by_cases c29 : (bt a0 x3_1) ≥ 48
       ·
        rw [if_pos c29] at H; have c29b0 : decide (48 ≤ (bt a0 x3_1)) = true := decide_eq_true c29; clear c29; by_cases c30 : (bt a0 x3_1) ≤ 57
        ·
         rw [if_pos c30] at H; have c30b0 : decide ((bt a0 x3_1) ≤ 57) = true := decide_eq_true c30; clear c30; have H' := Aside0.mk H; clear H; have p4 : 0 ≤ (x3_1 : Int) := of_decide_eq_true (by first | (with_reducible assumption) | assumption); have q4 : x3_1 < (a0.size : Int) := of_decide_eq_true (by first | (with_reducible assumption) | assumption); have hx4 := bt_at a0 x3_1; replace p4 := eq_true p4; replace q4 := eq_true q4; go_wp2; go_roundg k1
         case measure => have := HK1.out; omega
         case rel => exact ⟨(wrap64 (x3_1 + 1)), (by first | rfl | (simp; done) | (simp [*]; done)), H', ⟨by have := HK1.out; omega⟩, by repeat (first | exact Drawn0.refl _ | apply Drawn0.step)⟩
        ·
         rw [if_neg c30] at H; have c30b0 : decide ((bt a0 x3_1) ≤ 57) = false := decide_eq_false c30; clear c30; by_cases c31 : (bt a0 x3_1) = 45
         ·
          rw [if_pos c31] at H; have c31b0 : ((bt a0 x3_1) == 45) = true := beq_iff_eq.mpr c31; have c31b1 : ((bt a0 x3_1) != 45) = false := bne_eq_false_iff_eq.mpr c31; clear c31; have H' := Aside0.mk H; clear H; have p4 : 0 ≤ (x3_1 : Int) := of_decide_eq_true (by first | (with_reducible assumption) | assumption); have q4 : x3_1 < (a0.size : Int) := of_decide_eq_true (by first | (with_reducible assumption) | assumption); have hx4 := bt_at a0 x3_1; replace p4 := eq_true p4; replace q4 := eq_true q4; go_wp2; go_roundg k1
          case measure => have := HK1.out; omega
          case rel => exact ⟨(wrap64 (x3_1 + 1)), (by first | rfl | (simp; done) | (simp [*]; done)), H', ⟨by have := HK1.out; omega⟩, by repeat (first | exact Drawn0.refl _ | apply Drawn0.step)⟩
         ·
          rw [if_neg c31] at H; have c31b0 : ((bt a0 x3_1) == 45) = false := beq_eq_false_iff_ne.mpr c31; have c31b1 : ((bt a0 x3_1) != 45) = true := bne_iff_ne.mpr c31; by_cases c32 : ((bt a0 x3_1) = 46)
          ·
           rw [if_pos c32] at H; have c32b0 : ((bt a0 x3_1) == 46) = true := beq_iff_eq.mpr c32; have c32b1 : ((bt a0 x3_1) != 46) = false := bne_eq_false_iff_eq.mpr c32; clear c32; have H' := Aside0.mk H; clear H; have p4 : 0 ≤ (x3_1 : Int) := of_decide_eq_true (by first | (with_reducible assumption) | assumption); have q4 : x3_1 < (a0.size : Int) := of_decide_eq_true (by first | (with_reducible assumption) | assumption); have hx4 := bt_at a0 x3_1; replace p4 := eq_true p4; replace q4 := eq_true q4; go_wp2; go_roundg k1
           case measure => have := HK1.out; omega
           case rel => exact ⟨(wrap64 (x3_1 + 1)), (by first | rfl | (simp; done) | (simp [*]; done)), H', ⟨by have := HK1.out; omega⟩, by repeat (first | exact Drawn0.refl _ | apply Drawn0.step)⟩
          ·
           rw [if_neg c32] at H; have c32b0 : ((bt a0 x3_1) == 46) = false := beq_eq_false_iff_ne.mpr c32; have c32b1 : ((bt a0 x3_1) != 46) = true := bne_iff_ne.mpr c32; obtain rfl := Option.some.inj H; have p4 : 0 ≤ (x3_1 : Int) := of_decide_eq_true (by first | (with_reducible assumption) | assumption); have q4 : x3_1 < (a0.size : Int) := of_decide_eq_true (by first | (with_reducible assumption) | assumption); have hx4 := bt_at a0 x3_1; replace p4 := eq_true p4; replace q4 := eq_true q4; go_wp2; go_ret
           exact ⟨by first | rfl | (simp; done) | (simp [*]; done), by repeat (first | exact Drawn0.refl _ | apply Drawn0.step)⟩
       ·
        rw [if_neg c29] at H; have c29b0 : decide (48 ≤ (bt a0 x3_1)) = false := decide_eq_false c29; clear c29; by_cases c33 : (bt a0 x3_1) = 45
        ·
         rw [if_pos c33] at H; have c33b0 : ((bt a0 x3_1) == 45) = true := beq_iff_eq.mpr c33; have c33b1 : ((bt a0 x3_1) != 45) = false := bne_eq_false_iff_eq.mpr c33; clear c33; have H' := Aside0.mk H; clear H; have p4 : 0 ≤ (x3_1 : Int) := of_decide_eq_true (by first | (with_reducible assumption) | assumption); have q4 : x3_1 < (a0.size : Int) := of_decide_eq_true (by first | (with_reducible assumption) | assumption); have hx4 := bt_at a0 x3_1; replace p4 := eq_true p4; replace q4 := eq_true q4; go_wp2; go_roundg k1
         case measure => have := HK1.out; omega
         case rel => exact ⟨(wrap64 (x3_1 + 1)), (by first | rfl | (simp; done) | (simp [*]; done)), H', ⟨by have := HK1.out; omega⟩, by repeat (first | exact Drawn0.refl _ | apply Drawn0.step)⟩
        ·
         rw [if_neg c33] at H; have c33b0 : ((bt a0 x3_1) == 45) = false := beq_eq_false_iff_ne.mpr c33; have c33b1 : ((bt a0 x3_1) != 45) = true := bne_iff_ne.mpr c33; by_cases c34 : ((bt a0 x3_1) = 46)
         ·
          rw [if_pos c34] at H; have c34b0 : ((bt a0 x3_1) == 46) = true := beq_iff_eq.mpr c34; have c34b1 : ((bt a0 x3_1) != 46) = false := bne_eq_false_iff_eq.mpr c34; clear c34; have H' := Aside0.mk H; clear H; have p4 : 0 ≤ (x3_1 : Int) := of_decide_eq_true (by first | (with_reducible assumption) | assumption); have q4 : x3_1 < (a0.size : Int) := of_decide_eq_true (by first | (with_reducible assumption) | assumption); have hx4 := bt_at a0 x3_1; replace p4 := eq_true p4; replace q4 := eq_true q4; go_wp2; go_roundg k1
          case measure => have := HK1.out; omega
          case rel => exact ⟨(wrap64 (x3_1 + 1)), (by first | rfl | (simp; done) | (simp [*]; done)), H', ⟨by have := HK1.out; omega⟩, by repeat (first | exact Drawn0.refl _ | apply Drawn0.step)⟩
         ·
          rw [if_neg c34] at H; have c34b0 : ((bt a0 x3_1) == 46) = false := beq_eq_false_iff_ne.mpr c34; have c34b1 : ((bt a0 x3_1) != 46) = true := bne_iff_ne.mpr c34; obtain rfl := Option.some.inj H; have p4 : 0 ≤ (x3_1 : Int) := of_decide_eq_true (by first | (with_reducible assumption) | assumption); have q4 : x3_1 < (a0.size : Int) := of_decide_eq_true (by first | (with_reducible assumption) | assumption); have hx4 := bt_at a0 x3_1; replace p4 := eq_true p4; replace q4 := eq_true q4; go_wp2; go_ret
          exact ⟨by first | rfl | (simp; done) | (simp [*]; done), by repeat (first | exact Drawn0.refl _ | apply Drawn0.step)⟩
    · rw [if_neg c3] at H; exact absurd H (by simp)
   ·
    rw [if_neg c2] at H; have c2b0 : decide (x3_1 < (a0.size : Int)) = false := decide_eq_false c2; clear c2; by_cases c35 : (a0.size : Int) ≥ 1
    ·
     rw [if_pos c35] at H; have c35b0 : decide (1 ≤ (a0.size : Int)) = true := decide_eq_true c35; have c35b1 : decide (1 ≤ a0.size) = true := decide_eq_true (by omega); clear c35; obtain rfl := Option.some.inj H; go_wp2; go_ret
     exact ⟨by first | rfl | (simp; done) | (simp [*]; done), by repeat (first | exact Drawn0.refl _ | apply Drawn0.step)⟩
    ·
     rw [if_neg c35] at H; have c35b0 : decide (1 ≤ (a0.size : Int)) = false := decide_eq_false c35; have c35b1 : decide (1 ≤ a0.size) = false := decide_eq_false (by omega); clear c35; obtain rfl := Option.some.inj H; go_wp2; go_ret
     exact ⟨by first | rfl | (simp; done) | (simp [*]; done), by repeat (first | exact Drawn0.refl _ | apply Drawn0.step)⟩
def spileref08_isLength.f (a0 : Int) : Option (Bool) := if a0 ≥ 0 then (some (decide (a0 ≤ 100000))) else (some false)
set_option maxHeartbeats 8000000 in
set_option maxRecDepth 100000 in
theorem spileref08_isLength.calls (a0 : Int) (r : Bool) (w : World) (h : spileref08_isLength.f a0 = some r) :
  Calls Tryd.prog 60 #[.int .i64 a0] w fun e w' => e = .returned (.bool r) ∧ Drawn0 w w' := by
 have H : (if a0 ≥ 0 then (some (decide (a0 ≤ 100000))) else (some false)) = some r := h; clear h; by_cases c2 : a0 ≥ 0
 ·
  rw [if_pos c2] at H; have c2b0 : decide (0 ≤ a0) = true := decide_eq_true c2; clear c2; obtain rfl := Option.some.inj H; go_enter Tryd.func60, Tryd.ntmps60
  go_wp2; go_ret
  exact ⟨by first | rfl | (simp; done) | (simp [*]; done), by repeat (first | exact Drawn0.refl _ | apply Drawn0.step)⟩
 ·
  rw [if_neg c2] at H; have c2b0 : decide (0 ≤ a0) = false := decide_eq_false c2; clear c2; obtain rfl := Option.some.inj H; go_enter Tryd.func60, Tryd.ntmps60
  go_wp2; go_ret
  exact ⟨by first | rfl | (simp; done) | (simp [*]; done), by repeat (first | exact Drawn0.refl _ | apply Drawn0.step)⟩
end Go.Proofs.YtnhmlneebnkjcaaDoor.Pr
namespace Go.Proofs.YtnhmlneebnkjcaaDoor.Pr
open Go.RowKit Go.Proofs.YtnhmlneebnkjcaaDoorW.PrintWords Go.Proofs.YtnhmlneebnkjcaaDoorW.PrintLast Go.Proofs.YtnhmlneebnkjcaaDoorW.PrintMore Go.Proofs.YtnhmlneebnkjcaaDoor.X
attribute [local go_sem] max2_int min2_int max_two min_two max_three min_three max_four min_four   -- for this text's walks alone
set_option linter.unusedVariables false
set_option linter.unusedSimpArgs false
mutual
def spileref08_Check.l0 : Nat → List (S46) → Int → Option (Int)
 | 0, _, _ => none
 | k + 1, x0, x3 => if x3 < (x0.length : Int) then (if 0 ≤ x3 then ((spileref08_isLength.f ((rd_T46 x0 x3).f0)).bind fun t192 => (if t192 = true then ((spileref08_isLength.f ((rd_T46 x0 x3).f1)).bind fun t194 => (if t194 = true then (spileref08_Check.l0 k x0 (wrap64 (x3 + 1))) else (some 2))) else (some 2))) else (none)) else (spileref08_Check.l1 k x0 0)
def spileref08_Check.l1 : Nat → List (S46) → Int → Option (Int)
 | 0, _, _ => none
 | k + 1, x0, x4 => if x4 < (x0.length : Int) then (if x4 = 0 then (if 0 ≤ x4 then (if ((rd_T46 x0 x4).f0) = 0 then (if x4 > 0 then (if 0 ≤ (wrap64 (x4 - 1)) then (if (wrap64 (x4 - 1)) < (x0.length : Int) then (if ((rd_T46 x0 (wrap64 (x4 - 1))).f0) ≥ ((rd_T46 x0 x4).f0) then (some 5) else (spileref08_Check.l1 k x0 (wrap64 (x4 + 1)))) else (none)) else (none)) else (spileref08_Check.l1 k x0 (wrap64 (x4 + 1)))) else (some 5)) else (none)) else (if x4 > 0 then (if 0 ≤ (wrap64 (x4 - 1)) then (if (wrap64 (x4 - 1)) < (x0.length : Int) then (if 0 ≤ x4 then (if ((rd_T46 x0 (wrap64 (x4 - 1))).f0) ≥ ((rd_T46 x0 x4).f0) then (some 5) else (spileref08_Check.l1 k x0 (wrap64 (x4 + 1)))) else (none)) else (none)) else (none)) else (spileref08_Check.l1 k x0 (wrap64 (x4 + 1))))) else (spileref08_Check.l2 k x0 0)
def spileref08_Check.l2 : Nat → List (S46) → Int → Option (Int)
 | 0, _, _ => none
 | k + 1, x0, x5 => if x5 < (x0.length : Int) then (if 0 ≤ x5 then (if ((rd_T46 x0 x5).f1) = 0 then (some 16) else (spileref08_Check.l2 k x0 (wrap64 (x5 + 1)))) else (none)) else (spileref08_Check.l3 k x0 false 1)
def spileref08_Check.l3 : Nat → List (S46) → Bool → Int → Option (Int)
 | 0, _, _, _ => none
 | k + 1, x0, x6, x7 => if x7 < (x0.length : Int) then (if x6 = true then (if 0 ≤ x7 then (if 0 ≤ (wrap64 (x7 - 1)) then (if (wrap64 (x7 - 1)) < (x0.length : Int) then (if ((rd_T46 x0 x7).f1) > ((rd_T46 x0 (wrap64 (x7 - 1))).f1) then (some 10) else (spileref08_Check.l3 k x0 true (wrap64 (x7 + 1)))) else (none)) else (none)) else (none)) else (if 0 ≤ x7 then (if 0 ≤ (wrap64 (x7 - 1)) then (if (wrap64 (x7 - 1)) < (x0.length : Int) then (spileref08_Check.l3 k x0 (decide (((rd_T46 x0 x7).f1) < ((rd_T46 x0 (wrap64 (x7 - 1))).f1))) (wrap64 (x7 + 1))) else (none)) else (none)) else (none))) else (some 0)
end
def spileref08_Check.f (k : Nat) (l0 : List (S46)) : Option (Int) := if (l0.length : Int) < 2 then (some 9) else (if (l0.length : Int) > 32 then (some 8) else (spileref08_Check.l0 k l0 0))
set_option maxHeartbeats 8000000 in
set_option maxRecDepth 100000 in
theorem spileref08_Check.calls (k : Nat) (A0 : Option Addr) (c0 : Nat) (l0 : List (S46)) (r : Int) (w : World) (hr0 : Kd.C k46 w A0 l0.length l0) (hc0 : l0.length ≤ c0) (h : spileref08_Check.f k l0 = some r) :
  Calls Tryd.prog 41 #[.slice A0 l0.length c0] w fun e w' => e = .returned (.int .i64 r) ∧ Drawn0 w w' := by
 have HR0 := Aside0.mk hr0; have HC0 := Aside0.mk hc0; clear hr0 hc0; have H : (if (l0.length : Int) < 2 then (some 9) else (if (l0.length : Int) > 32 then (some 8) else (spileref08_Check.l0 k l0 0))) = some r := h; clear h; by_cases c2 : (l0.length : Int) < 2
 ·
  rw [if_pos c2] at H; have c2b0 : decide ((l0.length : Int) < 2) = true := decide_eq_true c2; have c2b1 : decide (l0.length < 2) = true := decide_eq_true (by omega); clear c2; obtain rfl := Option.some.inj H; go_enter Tryd.func41, Tryd.ntmps41
  go_wp2; repeat (go_quiet (fail); try go_wp2)
  go_ret
  exact ⟨by first | rfl | (simp; done) | (simp [*]; done), by repeat (first | exact Drawn0.refl _ | apply Drawn0.step)⟩
 ·
  rw [if_neg c2] at H; have c2b0 : decide ((l0.length : Int) < 2) = false := decide_eq_false c2; have c2b1 : decide (l0.length < 2) = false := decide_eq_false (by omega); clear c2; by_cases c3 : (l0.length : Int) > 32
  ·
   rw [if_pos c3] at H; have c3b0 : decide (32 < (l0.length : Int)) = true := decide_eq_true c3; have c3b1 : decide (32 < l0.length) = true := decide_eq_true (by omega); clear c3; obtain rfl := Option.some.inj H; go_enter Tryd.func41, Tryd.ntmps41
   go_wp2; repeat (go_quiet (fail); try go_wp2)
   go_ret
   exact ⟨by first | rfl | (simp; done) | (simp [*]; done), by repeat (first | exact Drawn0.refl _ | apply Drawn0.step)⟩
  ·
   rw [if_neg c3] at H; have c3b0 : decide (32 < (l0.length : Int)) = false := decide_eq_false c3; have c3b1 : decide (32 < l0.length) = false := decide_eq_false (by omega); clear c3; have H' := Aside0.mk H; clear H; go_enter Tryd.func41, Tryd.ntmps41
   go_wp2; repeat (go_quiet (fail); try go_wp2)
   go_loopg [3] k (fun kq v3 w' => ∃ (x3_1 : Int), v3 = .int .i64 x3_1 ∧ Aside0 (spileref08_Check.l0 kq l0 x3_1 = some r) ∧ Aside0 (kq ≤ k) ∧ Drawn0 w w')
   case atStart => exact ⟨(0), (by first | rfl | (simp; done) | (simp [*]; done)), H', ⟨Nat.le_refl _⟩, by repeat (first | exact Drawn0.refl _ | apply Drawn0.step)⟩
   case round =>
    clear H'; try clear c2
    try clear c2b0
    try clear c2b1
    try clear p2
    try clear c3
    try clear c3b0
    try clear c3b1
    obtain ⟨x3_1, rfl, HA, HK1, ⟨m1, rfl⟩⟩ := hrel
    cases gk with
    | zero => exact absurd HA.out (by simp [spileref08_Check.l0])
    | succ k1 =>
     have H := HA.out; clear HA; simp only [spileref08_Check.l0] at H; by_cases c4 : x3_1 < (l0.length : Int)
     ·
      rw [if_pos c4] at H; have c4b0 : decide (x3_1 < (l0.length : Int)) = true := decide_eq_true c4; clear c4; by_cases c5 : 0 ≤ x3_1
      ·
       rw [if_pos c5] at H; have c5b0 : decide (0 ≤ x3_1) = true := decide_eq_true c5; clear c5; replace H := Option.bind_eq_some_iff.mp H; obtain ⟨t192, A60, H⟩ := H; replace H : (if t192 = true then ((spileref08_isLength.f ((rd_T46 l0 x3_1).f1)).bind fun t194 => (if t194 = true then (spileref08_Check.l0 k1 l0 (wrap64 (x3_1 + 1))) else (some 2))) else (some 2)) = some r := H; have A6 := Aside0.mk A60; clear A60; by_cases c7 : t192 = true
       ·
        subst c7; have H1 : ((spileref08_isLength.f ((rd_T46 l0 x3_1).f1)).bind fun t194 => (if t194 = true then (spileref08_Check.l0 k1 l0 (wrap64 (x3_1 + 1))) else (some 2))) = some r := by rw [if_pos rfl] at H; exact H
        clear H; have H := H1; clear H1; replace H := Option.bind_eq_some_iff.mp H; obtain ⟨t194, A80, H⟩ := H; replace H : (if t194 = true then (spileref08_Check.l0 k1 l0 (wrap64 (x3_1 + 1))) else (some 2)) = some r := H; have A8 := Aside0.mk A80; clear A80; by_cases c9 : t194 = true
        ·
         subst c9; have H1 : (spileref08_Check.l0 k1 l0 (wrap64 (x3_1 + 1))) = some r := by rw [if_pos rfl] at H; exact H
         clear H; have H := H1; clear H1; have H' := Aside0.mk H; clear H; have p191 : 0 ≤ (x3_1 : Int) := of_decide_eq_true (by first | (with_reducible assumption) | assumption); have q191 : x3_1 < (l0.length : Int) := of_decide_eq_true (by first | (with_reducible assumption) | assumption); obtain ⟨ad191, e191, hx191_0, hx191_1⟩ := at_T46 HR0.out x3_1 p191 q191; cases e191; replace p191 := eq_true p191; replace q191 := eq_true q191; go_wp2_with (first | (go_at_call 60; (with_reducible refine (spileref08_isLength.calls ((rd_T46 l0 x3_1).f0) true _ A6.out).mono ?_); rintro e w' ⟨rfl, ⟨nd, rfl⟩⟩; (try first | exact ⟨rfl, _, World.drewN_drewN _ _ _⟩ | exact ⟨rfl, _, Eq.trans (World.drewN_drewN _ _ _) (congrArg (World.drewN _) (Nat.add_assoc _ _ _))⟩); have p193 : 0 ≤ (x3_1 : Int) := of_decide_eq_true (by first | (with_reducible assumption) | assumption); have q193 : x3_1 < (l0.length : Int) := of_decide_eq_true (by first | (with_reducible assumption) | assumption); obtain ⟨ad193, e193, hx193_0, hx193_1⟩ := at_T46 HR0.out x3_1 p193 q193; obtain rfl : ad191 = ad193 := (by injection e193); replace p193 := eq_true p193; replace q193 := eq_true q193) | (go_at_call 60; (with_reducible refine (spileref08_isLength.calls ((rd_T46 l0 x3_1).f1) true _ A8.out).mono ?_); rintro e w' ⟨rfl, ⟨nd, rfl⟩⟩; (try first | exact ⟨rfl, _, World.drewN_drewN _ _ _⟩ | exact ⟨rfl, _, Eq.trans (World.drewN_drewN _ _ _) (congrArg (World.drewN _) (Nat.add_assoc _ _ _))⟩)))
         repeat (go_quiet (first | (go_at_call 60; (with_reducible refine (spileref08_isLength.calls ((rd_T46 l0 x3_1).f0) true _ A6.out).mono ?_); rintro e w' ⟨rfl, ⟨nd, rfl⟩⟩; (try first | exact ⟨rfl, _, World.drewN_drewN _ _ _⟩ | exact ⟨rfl, _, Eq.trans (World.drewN_drewN _ _ _) (congrArg (World.drewN _) (Nat.add_assoc _ _ _))⟩); have p193 : 0 ≤ (x3_1 : Int) := of_decide_eq_true (by first | (with_reducible assumption) | assumption); have q193 : x3_1 < (l0.length : Int) := of_decide_eq_true (by first | (with_reducible assumption) | assumption); obtain ⟨ad193, e193, hx193_0, hx193_1⟩ := at_T46 HR0.out x3_1 p193 q193; obtain rfl : ad191 = ad193 := (by injection e193); replace p193 := eq_true p193; replace q193 := eq_true q193) | (go_at_call 60; (with_reducible refine (spileref08_isLength.calls ((rd_T46 l0 x3_1).f1) true _ A8.out).mono ?_); rintro e w' ⟨rfl, ⟨nd, rfl⟩⟩; (try first | exact ⟨rfl, _, World.drewN_drewN _ _ _⟩ | exact ⟨rfl, _, Eq.trans (World.drewN_drewN _ _ _) (congrArg (World.drewN _) (Nat.add_assoc _ _ _))⟩))); try go_wp2_with (first | (go_at_call 60; (with_reducible refine (spileref08_isLength.calls ((rd_T46 l0 x3_1).f0) true _ A6.out).mono ?_); rintro e w' ⟨rfl, ⟨nd, rfl⟩⟩; (try first | exact ⟨rfl, _, World.drewN_drewN _ _ _⟩ | exact ⟨rfl, _, Eq.trans (World.drewN_drewN _ _ _) (congrArg (World.drewN _) (Nat.add_assoc _ _ _))⟩); have p193 : 0 ≤ (x3_1 : Int) := of_decide_eq_true (by first | (with_reducible assumption) | assumption); have q193 : x3_1 < (l0.length : Int) := of_decide_eq_true (by first | (with_reducible assumption) | assumption); obtain ⟨ad193, e193, hx193_0, hx193_1⟩ := at_T46 HR0.out x3_1 p193 q193; obtain rfl : ad191 = ad193 := (by injection e193); replace p193 := eq_true p193; replace q193 := eq_true q193) | (go_at_call 60; (with_reducible refine (spileref08_isLength.calls ((rd_T46 l0 x3_1).f1) true _ A8.out).mono ?_); rintro e w' ⟨rfl, ⟨nd, rfl⟩⟩; (try first | exact ⟨rfl, _, World.drewN_drewN _ _ _⟩ | exact ⟨rfl, _, Eq.trans (World.drewN_drewN _ _ _) (congrArg (World.drewN _) (Nat.add_assoc _ _ _))⟩))))
         go_roundg k1
         case measure => have := HK1.out; omega
         case rel => exact ⟨(wrap64 (x3_1 + 1)), (by first | rfl | (simp; done) | (simp [*]; done)), H', ⟨by have := HK1.out; omega⟩, by repeat (first | exact Drawn0.refl _ | apply Drawn0.step)⟩
        ·
         replace c9 := Bool.eq_false_iff.mpr c9; subst c9; have H1 : (some 2) = some r := by rw [if_neg (show ¬ (false = true) by decide)] at H; exact H
         clear H; have H := H1; clear H1; obtain rfl := Option.some.inj H; have p191 : 0 ≤ (x3_1 : Int) := of_decide_eq_true (by first | (with_reducible assumption) | assumption); have q191 : x3_1 < (l0.length : Int) := of_decide_eq_true (by first | (with_reducible assumption) | assumption); obtain ⟨ad191, e191, hx191_0, hx191_1⟩ := at_T46 HR0.out x3_1 p191 q191; cases e191; replace p191 := eq_true p191; replace q191 := eq_true q191; go_wp2_with (first | (go_at_call 60; (with_reducible refine (spileref08_isLength.calls ((rd_T46 l0 x3_1).f0) true _ A6.out).mono ?_); rintro e w' ⟨rfl, ⟨nd, rfl⟩⟩; (try first | exact ⟨rfl, _, World.drewN_drewN _ _ _⟩ | exact ⟨rfl, _, Eq.trans (World.drewN_drewN _ _ _) (congrArg (World.drewN _) (Nat.add_assoc _ _ _))⟩); have p193 : 0 ≤ (x3_1 : Int) := of_decide_eq_true (by first | (with_reducible assumption) | assumption); have q193 : x3_1 < (l0.length : Int) := of_decide_eq_true (by first | (with_reducible assumption) | assumption); obtain ⟨ad193, e193, hx193_0, hx193_1⟩ := at_T46 HR0.out x3_1 p193 q193; obtain rfl : ad191 = ad193 := (by injection e193); replace p193 := eq_true p193; replace q193 := eq_true q193) | (go_at_call 60; (with_reducible refine (spileref08_isLength.calls ((rd_T46 l0 x3_1).f1) false _ A8.out).mono ?_); rintro e w' ⟨rfl, ⟨nd, rfl⟩⟩; (try first | exact ⟨rfl, _, World.drewN_drewN _ _ _⟩ | exact ⟨rfl, _, Eq.trans (World.drewN_drewN _ _ _) (congrArg (World.drewN _) (Nat.add_assoc _ _ _))⟩)))
         repeat (go_quiet (first | (go_at_call 60; (with_reducible refine (spileref08_isLength.calls ((rd_T46 l0 x3_1).f0) true _ A6.out).mono ?_); rintro e w' ⟨rfl, ⟨nd, rfl⟩⟩; (try first | exact ⟨rfl, _, World.drewN_drewN _ _ _⟩ | exact ⟨rfl, _, Eq.trans (World.drewN_drewN _ _ _) (congrArg (World.drewN _) (Nat.add_assoc _ _ _))⟩); have p193 : 0 ≤ (x3_1 : Int) := of_decide_eq_true (by first | (with_reducible assumption) | assumption); have q193 : x3_1 < (l0.length : Int) := of_decide_eq_true (by first | (with_reducible assumption) | assumption); obtain ⟨ad193, e193, hx193_0, hx193_1⟩ := at_T46 HR0.out x3_1 p193 q193; obtain rfl : ad191 = ad193 := (by injection e193); replace p193 := eq_true p193; replace q193 := eq_true q193) | (go_at_call 60; (with_reducible refine (spileref08_isLength.calls ((rd_T46 l0 x3_1).f1) false _ A8.out).mono ?_); rintro e w' ⟨rfl, ⟨nd, rfl⟩⟩; (try first | exact ⟨rfl, _, World.drewN_drewN _ _ _⟩ | exact ⟨rfl, _, Eq.trans (World.drewN_drewN _ _ _) (congrArg (World.drewN _) (Nat.add_assoc _ _ _))⟩))); try go_wp2_with (first | (go_at_call 60; (with_reducible refine (spileref08_isLength.calls ((rd_T46 l0 x3_1).f0) true _ A6.out).mono ?_); rintro e w' ⟨rfl, ⟨nd, rfl⟩⟩; (try first | exact ⟨rfl, _, World.drewN_drewN _ _ _⟩ | exact ⟨rfl, _, Eq.trans (World.drewN_drewN _ _ _) (congrArg (World.drewN _) (Nat.add_assoc _ _ _))⟩); have p193 : 0 ≤ (x3_1 : Int) := of_decide_eq_true (by first | (with_reducible assumption) | assumption); have q193 : x3_1 < (l0.length : Int) := of_decide_eq_true (by first | (with_reducible assumption) | assumption); obtain ⟨ad193, e193, hx193_0, hx193_1⟩ := at_T46 HR0.out x3_1 p193 q193; obtain rfl : ad191 = ad193 := (by injection e193); replace p193 := eq_true p193; replace q193 := eq_true q193) | (go_at_call 60; (with_reducible refine (spileref08_isLength.calls ((rd_T46 l0 x3_1).f1) false _ A8.out).mono ?_); rintro e w' ⟨rfl, ⟨nd, rfl⟩⟩; (try first | exact ⟨rfl, _, World.drewN_drewN _ _ _⟩ | exact ⟨rfl, _, Eq.trans (World.drewN_drewN _ _ _) (congrArg (World.drewN _) (Nat.add_assoc _ _ _))⟩))))
         go_ret
         exact ⟨by first | rfl | (simp; done) | (simp [*]; done), by repeat (first | exact Drawn0.refl _ | apply Drawn0.step)⟩
       ·
        replace c7 := Bool.eq_false_iff.mpr c7; subst c7; have H1 : (some 2) = some r := by rw [if_neg (show ¬ (false = true) by decide)] at H; exact H
        clear H; have H := H1; clear H1; obtain rfl := Option.some.inj H; have p191 : 0 ≤ (x3_1 : Int) := of_decide_eq_true (by first | (with_reducible assumption) | assumption); have q191 : x3_1 < (l0.length : Int) := of_decide_eq_true (by first | (with_reducible assumption) | assumption); obtain ⟨ad191, e191, hx191_0, hx191_1⟩ := at_T46 HR0.out x3_1 p191 q191; cases e191; replace p191 := eq_true p191; replace q191 := eq_true q191; go_wp2_with (first | (go_at_call 60; (with_reducible refine (spileref08_isLength.calls ((rd_T46 l0 x3_1).f0) false _ A6.out).mono ?_); rintro e w' ⟨rfl, ⟨nd, rfl⟩⟩; (try first | exact ⟨rfl, _, World.drewN_drewN _ _ _⟩ | exact ⟨rfl, _, Eq.trans (World.drewN_drewN _ _ _) (congrArg (World.drewN _) (Nat.add_assoc _ _ _))⟩)))
        repeat (go_quiet (first | (go_at_call 60; (with_reducible refine (spileref08_isLength.calls ((rd_T46 l0 x3_1).f0) false _ A6.out).mono ?_); rintro e w' ⟨rfl, ⟨nd, rfl⟩⟩; (try first | exact ⟨rfl, _, World.drewN_drewN _ _ _⟩ | exact ⟨rfl, _, Eq.trans (World.drewN_drewN _ _ _) (congrArg (World.drewN _) (Nat.add_assoc _ _ _))⟩))); try go_wp2_with (first | (go_at_call 60; (with_reducible refine (spileref08_isLength.calls ((rd_T46 l0 x3_1).f0) false _ A6.out).mono ?_); rintro e w' ⟨rfl, ⟨nd, rfl⟩⟩; (try first | exact ⟨rfl, _, World.drewN_drewN _ _ _⟩ | exact ⟨rfl, _, Eq.trans (World.drewN_drewN _ _ _) (congrArg (World.drewN _) (Nat.add_assoc _ _ _))⟩))))
        go_ret
        exact ⟨by first | rfl | (simp; done) | (simp [*]; done), by repeat (first | exact Drawn0.refl _ | apply Drawn0.step)⟩
      · rw [if_neg c5] at H; exact absurd H (by simp)
     ·
      rw [if_neg c4] at H; have c4b0 : decide (x3_1 < (l0.length : Int)) = false := decide_eq_false c4; clear c4; have H' := Aside0.mk H; clear H; go_wp2; repeat (go_quiet (fail); try go_wp2)
      go_loopg [4] k1 (fun kq v4 w' => ∃ (x4_2 : Int), v4 = .int .i64 x4_2 ∧ Aside0 (spileref08_Check.l1 kq l0 x4_2 = some r) ∧ Aside0 (kq ≤ k1) ∧ Drawn0 w w')
      case atStart => exact ⟨(0), (by first | rfl | (simp; done) | (simp [*]; done)), H', ⟨Nat.le_refl _⟩, by repeat (first | exact Drawn0.refl _ | apply Drawn0.step)⟩
      case round =>
       clear H'; try clear p1
       try clear q1
       try clear hx1
       try clear c2
       try clear c2b0
       try clear c2b1
       try clear p2
       try clear c3
       try clear c3b0
       try clear c3b1
       try clear c4
       try clear c4b0
       try clear c5
       try clear c5b0
       try clear p6
       try clear c7
       try clear c9
       try clear hx191_0
       try clear hx191_1
       try clear hx193_0
       try clear hx193_1
       try clear p191
       try clear p193
       try clear p2
       try clear q191
       try clear q193
       obtain ⟨x4_2, rfl, HA, HK2, ⟨m2, rfl⟩⟩ := hrel
       cases gk with
       | zero => exact absurd HA.out (by simp [spileref08_Check.l1])
       | succ k2 =>
        have H := HA.out; clear HA; simp only [spileref08_Check.l1] at H; by_cases c10 : x4_2 < (l0.length : Int)
        ·
         rw [if_pos c10] at H; have c10b0 : decide (x4_2 < (l0.length : Int)) = true := decide_eq_true c10; clear c10; by_cases c11 : x4_2 = 0
         ·
          rw [if_pos c11] at H; have c11b0 : (x4_2 == 0) = true := beq_iff_eq.mpr c11; have c11b1 : (x4_2 != 0) = false := bne_eq_false_iff_eq.mpr c11; clear c11; by_cases c12 : 0 ≤ x4_2
          ·
           rw [if_pos c12] at H; have c12b0 : decide (0 ≤ x4_2) = true := decide_eq_true c12; clear c12; by_cases c13 : ((rd_T46 l0 x4_2).f0) = 0
           ·
            rw [if_pos c13] at H; have c13b0 : (((rd_T46 l0 x4_2).f0) == 0) = true := beq_iff_eq.mpr c13; have c13b1 : (((rd_T46 l0 x4_2).f0) != 0) = false := bne_eq_false_iff_eq.mpr c13; clear c13; by_cases c14 : x4_2 > 0
            ·
             rw [if_pos c14] at H; have c14b0 : decide (0 < x4_2) = true := decide_eq_true c14; clear c14; obtain ⟨ji15, hji15⟩ : ∃ j_ : Int, (wrap64 (x4_2 - 1)) = j_ := ⟨_, rfl⟩; replace H : (if 0 ≤ (ji15) then (if (ji15) < (l0.length : Int) then (if ((rd_T46 l0 (ji15)).f0) ≥ ((rd_T46 l0 x4_2).f0) then (some 5) else (spileref08_Check.l1 k2 l0 (wrap64 (x4_2 + 1)))) else (none)) else (none)) = some r := by first | (rw [hji15] at H; exact H) | (simp only [hji15] at H ⊢; exact H)
             have hji15w : (IntKind.i64.wrap (x4_2 - 1)) = ji15 := (i64_w _).trans hji15; by_cases c16 : 0 ≤ (ji15)
             ·
              rw [if_pos c16] at H; have c16b0 : decide (0 ≤ (ji15)) = true := decide_eq_true c16; clear c16; by_cases c17 : (ji15) < (l0.length : Int)
              ·
               rw [if_pos c17] at H; have c17b0 : decide ((ji15) < (l0.length : Int)) = true := decide_eq_true c17; clear c17; by_cases c18 : ((rd_T46 l0 (ji15)).f0) ≥ ((rd_T46 l0 x4_2).f0)
               ·
                rw [if_pos c18] at H; have c18b0 : decide (((rd_T46 l0 x4_2).f0) ≤ ((rd_T46 l0 (ji15)).f0)) = true := decide_eq_true c18; clear c18; obtain rfl := Option.some.inj H; have p195 : 0 ≤ (x4_2 : Int) := of_decide_eq_true (by first | (with_reducible assumption) | assumption); have q195 : x4_2 < (l0.length : Int) := of_decide_eq_true (by first | (with_reducible assumption) | assumption); obtain ⟨ad195, e195, hx195_0, hx195_1⟩ := at_T46 HR0.out x4_2 p195 q195; cases e195; replace p195 := eq_true p195; replace q195 := eq_true q195; have p196 : 0 ≤ ((ji15) : Int) := of_decide_eq_true (by first | (with_reducible assumption) | assumption); have q196 : (ji15) < (l0.length : Int) := of_decide_eq_true (by first | (with_reducible assumption) | assumption); obtain ⟨ad196, e196, hx196_0, hx196_1⟩ := at_T46 HR0.out (ji15) p196 q196; obtain rfl : ad195 = ad196 := (by injection e196); replace p196 := eq_true p196; replace q196 := eq_true q196; have p197 : 0 ≤ (x4_2 : Int) := of_decide_eq_true (by first | (with_reducible assumption) | assumption); have q197 : x4_2 < (l0.length : Int) := of_decide_eq_true (by first | (with_reducible assumption) | assumption); obtain ⟨ad197, e197, hx197_0, hx197_1⟩ := at_T46 HR0.out x4_2 p197 q197; obtain rfl : ad195 = ad197 := (by injection e197); replace p197 := eq_true p197; replace q197 := eq_true q197; go_wp2; repeat (go_quiet (fail); try go_wp2)
                go_ret
                exact ⟨by first | rfl | (simp; done) | (simp only [← hji15] <;> (first | rfl | simp)) | (simp [*]; done), by repeat (first | exact Drawn0.refl _ | apply Drawn0.step)⟩
               ·
                rw [if_neg c18] at H; have c18b0 : decide (((rd_T46 l0 x4_2).f0) ≤ ((rd_T46 l0 (ji15)).f0)) = false := decide_eq_false c18; clear c18; have H' := Aside0.mk H; clear H; have p195 : 0 ≤ (x4_2 : Int) := of_decide_eq_true (by first | (with_reducible assumption) | assumption); have q195 : x4_2 < (l0.length : Int) := of_decide_eq_true (by first | (with_reducible assumption) | assumption); obtain ⟨ad195, e195, hx195_0, hx195_1⟩ := at_T46 HR0.out x4_2 p195 q195; cases e195; replace p195 := eq_true p195; replace q195 := eq_true q195; have p196 : 0 ≤ ((ji15) : Int) := of_decide_eq_true (by first | (with_reducible assumption) | assumption); have q196 : (ji15) < (l0.length : Int) := of_decide_eq_true (by first | (with_reducible assumption) | assumption); obtain ⟨ad196, e196, hx196_0, hx196_1⟩ := at_T46 HR0.out (ji15) p196 q196; obtain rfl : ad195 = ad196 := (by injection e196); replace p196 := eq_true p196; replace q196 := eq_true q196; have p197 : 0 ≤ (x4_2 : Int) := of_decide_eq_true (by first | (with_reducible assumption) | assumption); have q197 : x4_2 < (l0.length : Int) := of_decide_eq_true (by first | (with_reducible assumption) | assumption); obtain ⟨ad197, e197, hx197_0, hx197_1⟩ := at_T46 HR0.out x4_2 p197 q197; obtain rfl : ad195 = ad197 := (by injection e197); replace p197 := eq_true p197; replace q197 := eq_true q197; go_wp2; repeat (go_quiet (fail); try go_wp2)
                go_roundg k2
                case measure => have := HK1.out; have := HK2.out; omega
                case rel => exact ⟨(wrap64 (x4_2 + 1)), (by first | rfl | (simp; done) | (simp [*]; done)), H', ⟨by have := HK1.out; have := HK2.out; omega⟩, by repeat (first | exact Drawn0.refl _ | apply Drawn0.step)⟩
              · rw [if_neg c17] at H; exact absurd H (by simp)
             · rw [if_neg c16] at H; exact absurd H (by simp)
            ·
             rw [if_neg c14] at H; have c14b0 : decide (0 < x4_2) = false := decide_eq_false c14; clear c14; have H' := Aside0.mk H; clear H; have p195 : 0 ≤ (x4_2 : Int) := of_decide_eq_true (by first | (with_reducible assumption) | assumption); have q195 : x4_2 < (l0.length : Int) := of_decide_eq_true (by first | (with_reducible assumption) | assumption); obtain ⟨ad195, e195, hx195_0, hx195_1⟩ := at_T46 HR0.out x4_2 p195 q195; cases e195; replace p195 := eq_true p195; replace q195 := eq_true q195; go_wp2; repeat (go_quiet (fail); try go_wp2)
             go_roundg k2
             case measure => have := HK1.out; have := HK2.out; omega
             case rel => exact ⟨(wrap64 (x4_2 + 1)), (by first | rfl | (simp; done) | (simp [*]; done)), H', ⟨by have := HK1.out; have := HK2.out; omega⟩, by repeat (first | exact Drawn0.refl _ | apply Drawn0.step)⟩
           ·
            rw [if_neg c13] at H; have c13b0 : (((rd_T46 l0 x4_2).f0) == 0) = false := beq_eq_false_iff_ne.mpr c13; have c13b1 : (((rd_T46 l0 x4_2).f0) != 0) = true := bne_iff_ne.mpr c13; obtain rfl := Option.some.inj H; have p195 : 0 ≤ (x4_2 : Int) := of_decide_eq_true (by first | (with_reducible assumption) | assumption); have q195 : x4_2 < (l0.length : Int) := of_decide_eq_true (by first | (with_reducible assumption) | assumption); obtain ⟨ad195, e195, hx195_0, hx195_1⟩ := at_T46 HR0.out x4_2 p195 q195; cases e195; replace p195 := eq_true p195; replace q195 := eq_true q195; go_wp2; repeat (go_quiet (fail); try go_wp2)
            go_ret
            exact ⟨by first | rfl | (simp; done) | (simp [*]; done), by repeat (first | exact Drawn0.refl _ | apply Drawn0.step)⟩
          · rw [if_neg c12] at H; exact absurd H (by simp)
         ·
          rw [if_neg c11] at H; have c11b0 : (x4_2 == 0) = false := beq_eq_false_iff_ne.mpr c11; have c11b1 : (x4_2 != 0) = true := bne_iff_ne.mpr c11; by_cases c19 : x4_2 > 0
          ·
           rw [if_pos c19] at H; have c19b0 : decide (0 < x4_2) = true := decide_eq_true c19; clear c19; obtain ⟨ji20, hji20⟩ : ∃ j_ : Int, (wrap64 (x4_2 - 1)) = j_ := ⟨_, rfl⟩; replace H : (if 0 ≤ (ji20) then (if (ji20) < (l0.length : Int) then (if 0 ≤ x4_2 then (if ((rd_T46 l0 (ji20)).f0) ≥ ((rd_T46 l0 x4_2).f0) then (some 5) else (spileref08_Check.l1 k2 l0 (wrap64 (x4_2 + 1)))) else (none)) else (none)) else (none)) = some r := by first | (rw [hji20] at H; exact H) | (simp only [hji20] at H ⊢; exact H)
           have hji20w : (IntKind.i64.wrap (x4_2 - 1)) = ji20 := (i64_w _).trans hji20; by_cases c21 : 0 ≤ (ji20)
           ·
            rw [if_pos c21] at H; have c21b0 : decide (0 ≤ (ji20)) = true := decide_eq_true c21; clear c21; by_cases c22 : (ji20) < (l0.length : Int)
            ·
             rw [if_pos c22] at H; have c22b0 : decide ((ji20) < (l0.length : Int)) = true := decide_eq_true c22; clear c22; by_cases c23 : 0 ≤ x4_2
             ·
              rw [if_pos c23] at H; have c23b0 : decide (0 ≤ x4_2) = true := decide_eq_true c23; clear c23; by_cases c24 : ((rd_T46 l0 (ji20)).f0) ≥ ((rd_T46 l0 x4_2).f0)
              ·
               rw [if_pos c24] at H; have c24b0 : decide (((rd_T46 l0 x4_2).f0) ≤ ((rd_T46 l0 (ji20)).f0)) = true := decide_eq_true c24; clear c24; obtain rfl := Option.some.inj H; have p198 : 0 ≤ ((ji20) : Int) := of_decide_eq_true (by first | (with_reducible assumption) | assumption); have q198 : (ji20) < (l0.length : Int) := of_decide_eq_true (by first | (with_reducible assumption) | assumption); obtain ⟨ad198, e198, hx198_0, hx198_1⟩ := at_T46 HR0.out (ji20) p198 q198; cases e198; replace p198 := eq_true p198; replace q198 := eq_true q198; have p199 : 0 ≤ (x4_2 : Int) := of_decide_eq_true (by first | (with_reducible assumption) | assumption); have q199 : x4_2 < (l0.length : Int) := of_decide_eq_true (by first | (with_reducible assumption) | assumption); obtain ⟨ad199, e199, hx199_0, hx199_1⟩ := at_T46 HR0.out x4_2 p199 q199; obtain rfl : ad198 = ad199 := (by injection e199); replace p199 := eq_true p199; replace q199 := eq_true q199; go_wp2; repeat (go_quiet (fail); try go_wp2)
               go_ret
               exact ⟨by first | rfl | (simp; done) | (simp only [← hji20] <;> (first | rfl | simp)) | (simp [*]; done), by repeat (first | exact Drawn0.refl _ | apply Drawn0.step)⟩
              ·
               rw [if_neg c24] at H; have c24b0 : decide (((rd_T46 l0 x4_2).f0) ≤ ((rd_T46 l0 (ji20)).f0)) = false := decide_eq_false c24; clear c24; have H' := Aside0.mk H; clear H; have p198 : 0 ≤ ((ji20) : Int) := of_decide_eq_true (by first | (with_reducible assumption) | assumption); have q198 : (ji20) < (l0.length : Int) := of_decide_eq_true (by first | (with_reducible assumption) | assumption); obtain ⟨ad198, e198, hx198_0, hx198_1⟩ := at_T46 HR0.out (ji20) p198 q198; cases e198; replace p198 := eq_true p198; replace q198 := eq_true q198; have p199 : 0 ≤ (x4_2 : Int) := of_decide_eq_true (by first | (with_reducible assumption) | assumption); have q199 : x4_2 < (l0.length : Int) := of_decide_eq_true (by first | (with_reducible assumption) | assumption); obtain ⟨ad199, e199, hx199_0, hx199_1⟩ := at_T46 HR0.out x4_2 p199 q199; obtain rfl : ad198 = ad199 := (by injection e199); replace p199 := eq_true p199; replace q199 := eq_true q199; go_wp2; repeat (go_quiet (fail); try go_wp2)
               go_roundg k2
               case measure => have := HK1.out; have := HK2.out; omega
               case rel => exact ⟨(wrap64 (x4_2 + 1)), (by first | rfl | (simp; done) | (simp [*]; done)), H', ⟨by have := HK1.out; have := HK2.out; omega⟩, by repeat (first | exact Drawn0.refl _ | apply Drawn0.step)⟩
             · rw [if_neg c23] at H; exact absurd H (by simp)
            · rw [if_neg c22] at H; exact absurd H (by simp)
           · rw [if_neg c21] at H; exact absurd H (by simp)
          ·
           rw [if_neg c19] at H; have c19b0 : decide (0 < x4_2) = false := decide_eq_false c19; clear c19; have H' := Aside0.mk H; clear H; go_wp2; repeat (go_quiet (fail); try go_wp2)
           go_roundg k2
           case measure => have := HK1.out; have := HK2.out; omega
           case rel => exact ⟨(wrap64 (x4_2 + 1)), (by first | rfl | (simp; done) | (simp [*]; done)), H', ⟨by have := HK1.out; have := HK2.out; omega⟩, by repeat (first | exact Drawn0.refl _ | apply Drawn0.step)⟩
        ·
         rw [if_neg c10] at H; have c10b0 : decide (x4_2 < (l0.length : Int)) = false := decide_eq_false c10; clear c10; have H' := Aside0.mk H; clear H; go_wp2; repeat (go_quiet (fail); try go_wp2)
         go_loopg [5] k2 (fun kq v5 w' => ∃ (x5_3 : Int), v5 = .int .i64 x5_3 ∧ Aside0 (spileref08_Check.l2 kq l0 x5_3 = some r) ∧ Aside0 (kq ≤ k2) ∧ Drawn0 w w')
         case atStart => exact ⟨(0), (by first | rfl | (simp; done) | (simp [*]; done)), H', ⟨Nat.le_refl _⟩, by repeat (first | exact Drawn0.refl _ | apply Drawn0.step)⟩
         case round =>
          clear H'; try clear c1
          try clear p1
          try clear q1
          try clear hx1
          try clear c2
          try clear c2b0
          try clear c2b1
          try clear p2
          try clear c3
          try clear c3b0
          try clear c3b1
          try clear c4
          try clear c4b0
          try clear c5
          try clear c5b0
          try clear p6
          try clear c7
          try clear c9
          try clear c10
          try clear c10b0
          try clear c11
          try clear c11b0
          try clear c11b1
          try clear c12
          try clear c12b0
          try clear c13
          try clear c13b0
          try clear c13b1
          try clear c14
          try clear c14b0
          try clear c16
          try clear c16b0
          try clear c17
          try clear c17b0
          try clear c18
          try clear c18b0
          try clear c19
          try clear c19b0
          try clear p19
          try clear q19
          try clear hx19
          try clear c21
          try clear c21b0
          try clear c22
          try clear c22b0
          try clear c23
          try clear c23b0
          try clear c24
          try clear c24b0
          try clear hx191_0
          try clear hx191_1
          try clear hx193_0
          try clear hx193_1
          try clear hx195_0
          try clear hx195_1
          try clear hx196_0
          try clear hx196_1
          try clear hx197_0
          try clear hx197_1
          try clear hx198_0
          try clear hx198_1
          try clear hx199_0
          try clear hx199_1
          try clear p1
          try clear p191
          try clear p193
          try clear p195
          try clear p196
          try clear p197
          try clear p198
          try clear p199
          try clear p2
          try clear p6
          try clear q1
          try clear q191
          try clear q193
          try clear q195
          try clear q196
          try clear q197
          try clear q198
          try clear q199
          obtain ⟨x5_3, rfl, HA, HK3, ⟨m3, rfl⟩⟩ := hrel
          cases gk with
          | zero => exact absurd HA.out (by simp [spileref08_Check.l2])
          | succ k3 =>
           have H := HA.out; clear HA; simp only [spileref08_Check.l2] at H; by_cases c25 : x5_3 < (l0.length : Int)
           ·
            rw [if_pos c25] at H; have c25b0 : decide (x5_3 < (l0.length : Int)) = true := decide_eq_true c25; clear c25; by_cases c26 : 0 ≤ x5_3
            ·
             rw [if_pos c26] at H; have c26b0 : decide (0 ≤ x5_3) = true := decide_eq_true c26; clear c26; by_cases c27 : ((rd_T46 l0 x5_3).f1) = 0
             ·
              rw [if_pos c27] at H; have c27b0 : (((rd_T46 l0 x5_3).f1) == 0) = true := beq_iff_eq.mpr c27; have c27b1 : (((rd_T46 l0 x5_3).f1) != 0) = false := bne_eq_false_iff_eq.mpr c27; clear c27; obtain rfl := Option.some.inj H; have p200 : 0 ≤ (x5_3 : Int) := of_decide_eq_true (by first | (with_reducible assumption) | assumption); have q200 : x5_3 < (l0.length : Int) := of_decide_eq_true (by first | (with_reducible assumption) | assumption); obtain ⟨ad200, e200, hx200_0, hx200_1⟩ := at_T46 HR0.out x5_3 p200 q200; cases e200; replace p200 := eq_true p200; replace q200 := eq_true q200; go_wp2; repeat (go_quiet (fail); try go_wp2)
              go_ret
              exact ⟨by first | rfl | (simp; done) | (simp [*]; done), by repeat (first | exact Drawn0.refl _ | apply Drawn0.step)⟩
             ·
              rw [if_neg c27] at H; have c27b0 : (((rd_T46 l0 x5_3).f1) == 0) = false := beq_eq_false_iff_ne.mpr c27; have c27b1 : (((rd_T46 l0 x5_3).f1) != 0) = true := bne_iff_ne.mpr c27; have H' := Aside0.mk H; clear H; have p200 : 0 ≤ (x5_3 : Int) := of_decide_eq_true (by first | (with_reducible assumption) | assumption); have q200 : x5_3 < (l0.length : Int) := of_decide_eq_true (by first | (with_reducible assumption) | assumption); obtain ⟨ad200, e200, hx200_0, hx200_1⟩ := at_T46 HR0.out x5_3 p200 q200; cases e200; replace p200 := eq_true p200; replace q200 := eq_true q200; go_wp2; repeat (go_quiet (fail); try go_wp2)
              go_roundg k3
              case measure => have := HK1.out; have := HK2.out; have := HK3.out; omega
              case rel => exact ⟨(wrap64 (x5_3 + 1)), (by first | rfl | (simp; done) | (simp [*]; done)), H', ⟨by have := HK1.out; have := HK2.out; have := HK3.out; omega⟩, by repeat (first | exact Drawn0.refl _ | apply Drawn0.step)⟩
            · rw [if_neg c26] at H; exact absurd H (by simp)
           ·
            rw [if_neg c25] at H; have c25b0 : decide (x5_3 < (l0.length : Int)) = false := decide_eq_false c25; clear c25; have H' := Aside0.mk H; clear H; go_wp2; repeat (go_quiet (fail); try go_wp2)
            go_loopg [6, 7] k3 (fun kq v6 v7 w' => ∃ (x6_4 : Bool) (x7_4 : Int), v6 = .bool x6_4 ∧ v7 = .int .i64 x7_4 ∧ Aside0 (spileref08_Check.l3 kq l0 x6_4 x7_4 = some r) ∧ Aside0 (kq ≤ k3) ∧ Drawn0 w w')
            case atStart => exact ⟨(false), (1), (by first | rfl | (simp; done) | (simp [*]; done)), (by first | rfl | (simp; done) | (simp [*]; done)), H', ⟨Nat.le_refl _⟩, by repeat (first | exact Drawn0.refl _ | apply Drawn0.step)⟩
            case round =>
             clear H'; try clear c1
             try clear p1
             try clear q1
             try clear hx1
             try clear c2
             try clear c2b0
             try clear c2b1
             try clear p2
             try clear q2
             try clear hx2
             try clear c3
             try clear c3b0
             try clear c3b1
             try clear c4
             try clear c4b0
             try clear c5
             try clear c5b0
             try clear p6
             try clear c7
             try clear c9
             try clear c10
             try clear c10b0
             try clear c11
             try clear c11b0
             try clear c11b1
             try clear c12
             try clear c12b0
             try clear c13
             try clear c13b0
             try clear c13b1
             try clear c14
             try clear c14b0
             try clear c16
             try clear c16b0
             try clear c17
             try clear c17b0
             try clear c18
             try clear c18b0
             try clear c19
             try clear c19b0
             try clear p19
             try clear q19
             try clear hx19
             try clear p20
             try clear q20
             try clear hx20
             try clear c21
             try clear c21b0
             try clear c22
             try clear c22b0
             try clear c23
             try clear c23b0
             try clear c24
             try clear c24b0
             try clear c25
             try clear c25b0
             try clear c26
             try clear c26b0
             try clear c27
             try clear c27b0
             try clear c27b1
             try clear hx191_0
             try clear hx191_1
             try clear hx193_0
             try clear hx193_1
             try clear hx195_0
             try clear hx195_1
             try clear hx196_0
             try clear hx196_1
             try clear hx197_0
             try clear hx197_1
             try clear hx198_0
             try clear hx198_1
             try clear hx199_0
             try clear hx199_1
             try clear hx200_0
             try clear hx200_1
             try clear p1
             try clear p19
             try clear p191
             try clear p193
             try clear p195
             try clear p196
             try clear p197
             try clear p198
             try clear p199
             try clear p2
             try clear p200
             try clear p6
             try clear q1
             try clear q19
             try clear q191
             try clear q193
             try clear q195
             try clear q196
             try clear q197
             try clear q198
             try clear q199
             try clear q200
             obtain ⟨x6_4, x7_4, rfl, rfl, HA, HK4, ⟨m4, rfl⟩⟩ := hrel
             cases gk with
             | zero => exact absurd HA.out (by simp [spileref08_Check.l3])
             | succ k4 =>
              have H := HA.out; clear HA; simp only [spileref08_Check.l3] at H; by_cases c28 : x7_4 < (l0.length : Int)
              ·
               rw [if_pos c28] at H; have c28b0 : decide (x7_4 < (l0.length : Int)) = true := decide_eq_true c28; clear c28; by_cases c29 : x6_4 = true
               ·
                subst c29; have H1 : (if 0 ≤ x7_4 then (if 0 ≤ (wrap64 (x7_4 - 1)) then (if (wrap64 (x7_4 - 1)) < (l0.length : Int) then (if ((rd_T46 l0 x7_4).f1) > ((rd_T46 l0 (wrap64 (x7_4 - 1))).f1) then (some 10) else (spileref08_Check.l3 k4 l0 true (wrap64 (x7_4 + 1)))) else (none)) else (none)) else (none)) = some r := by rw [if_pos rfl] at H; exact H
                clear H; have H := H1; clear H1; by_cases c30 : 0 ≤ x7_4
                ·
                 rw [if_pos c30] at H; have c30b0 : decide (0 ≤ x7_4) = true := decide_eq_true c30; clear c30; obtain ⟨ji31, hji31⟩ : ∃ j_ : Int, (wrap64 (x7_4 - 1)) = j_ := ⟨_, rfl⟩; replace H : (if 0 ≤ (ji31) then (if (ji31) < (l0.length : Int) then (if ((rd_T46 l0 x7_4).f1) > ((rd_T46 l0 (ji31)).f1) then (some 10) else (spileref08_Check.l3 k4 l0 true (wrap64 (x7_4 + 1)))) else (none)) else (none)) = some r := by first | (rw [hji31] at H; exact H) | (simp only [hji31] at H ⊢; exact H)
                 have hji31w : (IntKind.i64.wrap (x7_4 - 1)) = ji31 := (i64_w _).trans hji31; by_cases c32 : 0 ≤ (ji31)
                 ·
                  rw [if_pos c32] at H; have c32b0 : decide (0 ≤ (ji31)) = true := decide_eq_true c32; clear c32; by_cases c33 : (ji31) < (l0.length : Int)
                  ·
                   rw [if_pos c33] at H; have c33b0 : decide ((ji31) < (l0.length : Int)) = true := decide_eq_true c33; clear c33; by_cases c34 : ((rd_T46 l0 x7_4).f1) > ((rd_T46 l0 (ji31)).f1)
                   ·
                    rw [if_pos c34] at H; have c34b0 : decide (((rd_T46 l0 (ji31)).f1) < ((rd_T46 l0 x7_4).f1)) = true := decide_eq_true c34; clear c34; obtain rfl := Option.some.inj H; have p201 : 0 ≤ (x7_4 : Int) := of_decide_eq_true (by first | (with_reducible assumption) | assumption); have q201 : x7_4 < (l0.length : Int) := of_decide_eq_true (by first | (with_reducible assumption) | assumption); obtain ⟨ad201, e201, hx201_0, hx201_1⟩ := at_T46 HR0.out x7_4 p201 q201; cases e201; replace p201 := eq_true p201; replace q201 := eq_true q201; have p202 : 0 ≤ ((ji31) : Int) := of_decide_eq_true (by first | (with_reducible assumption) | assumption); have q202 : (ji31) < (l0.length : Int) := of_decide_eq_true (by first | (with_reducible assumption) | assumption); obtain ⟨ad202, e202, hx202_0, hx202_1⟩ := at_T46 HR0.out (ji31) p202 q202; obtain rfl : ad201 = ad202 := (by injection e202); replace p202 := eq_true p202; replace q202 := eq_true q202; go_wp2; repeat (go_quiet (fail); try go_wp2)
                    go_ret
                    exact ⟨by first | rfl | (simp; done) | (simp only [← hji31] <;> (first | rfl | simp)) | (simp [*]; done), by repeat (first | exact Drawn0.refl _ | apply Drawn0.step)⟩
                   ·
                    rw [if_neg c34] at H; have c34b0 : decide (((rd_T46 l0 (ji31)).f1) < ((rd_T46 l0 x7_4).f1)) = false := decide_eq_false c34; clear c34; have H' := Aside0.mk H; clear H; have p201 : 0 ≤ (x7_4 : Int) := of_decide_eq_true (by first | (with_reducible assumption) | assumption); have q201 : x7_4 < (l0.length : Int) := of_decide_eq_true (by first | (with_reducible assumption) | assumption); obtain ⟨ad201, e201, hx201_0, hx201_1⟩ := at_T46 HR0.out x7_4 p201 q201; cases e201; replace p201 := eq_true p201; replace q201 := eq_true q201; have p202 : 0 ≤ ((ji31) : Int) := of_decide_eq_true (by first | (with_reducible assumption) | assumption); have q202 : (ji31) < (l0.length : Int) := of_decide_eq_true (by first | (with_reducible assumption) | assumption); obtain ⟨ad202, e202, hx202_0, hx202_1⟩ := at_T46 HR0.out (ji31) p202 q202; obtain rfl : ad201 = ad202 := (by injection e202); replace p202 := eq_true p202; replace q202 := eq_true q202; go_wp2; repeat (go_quiet (fail); try go_wp2)
                    go_roundg k4
                    case measure => have := HK1.out; have := HK2.out; have := HK3.out; have := HK4.out; omega
                    case rel => exact ⟨(true), (wrap64 (x7_4 + 1)), (by first | rfl | (simp; done) | (simp [*]; done)), (by first | rfl | (simp; done) | (simp [*]; done)), H', ⟨by have := HK1.out; have := HK2.out; have := HK3.out; have := HK4.out; omega⟩, by repeat (first | exact Drawn0.refl _ | apply Drawn0.step)⟩
                  · rw [if_neg c33] at H; exact absurd H (by simp)
                 · rw [if_neg c32] at H; exact absurd H (by simp)
                · rw [if_neg c30] at H; exact absurd H (by simp)
               ·
                replace c29 := Bool.eq_false_iff.mpr c29; subst c29; have H1 : (if 0 ≤ x7_4 then (if 0 ≤ (wrap64 (x7_4 - 1)) then (if (wrap64 (x7_4 - 1)) < (l0.length : Int) then (spileref08_Check.l3 k4 l0 (decide (((rd_T46 l0 x7_4).f1) < ((rd_T46 l0 (wrap64 (x7_4 - 1))).f1))) (wrap64 (x7_4 + 1))) else (none)) else (none)) else (none)) = some r := by rw [if_neg (show ¬ (false = true) by decide)] at H; exact H
                clear H; have H := H1; clear H1; by_cases c35 : 0 ≤ x7_4
                ·
                 rw [if_pos c35] at H; have c35b0 : decide (0 ≤ x7_4) = true := decide_eq_true c35; clear c35; obtain ⟨ji36, hji36⟩ : ∃ j_ : Int, (wrap64 (x7_4 - 1)) = j_ := ⟨_, rfl⟩; replace H : (if 0 ≤ (ji36) then (if (ji36) < (l0.length : Int) then (spileref08_Check.l3 k4 l0 (decide (((rd_T46 l0 x7_4).f1) < ((rd_T46 l0 (ji36)).f1))) (wrap64 (x7_4 + 1))) else (none)) else (none)) = some r := by first | (rw [hji36] at H; exact H) | (simp only [hji36] at H ⊢; exact H)
                 have hji36w : (IntKind.i64.wrap (x7_4 - 1)) = ji36 := (i64_w _).trans hji36; by_cases c37 : 0 ≤ (ji36)
                 ·
                  rw [if_pos c37] at H; have c37b0 : decide (0 ≤ (ji36)) = true := decide_eq_true c37; clear c37; by_cases c38 : (ji36) < (l0.length : Int)
                  ·
                   rw [if_pos c38] at H; have c38b0 : decide ((ji36) < (l0.length : Int)) = true := decide_eq_true c38; clear c38; have H' := Aside0.mk H; clear H; have p203 : 0 ≤ (x7_4 : Int) := of_decide_eq_true (by first | (with_reducible assumption) | assumption); have q203 : x7_4 < (l0.length : Int) := of_decide_eq_true (by first | (with_reducible assumption) | assumption); obtain ⟨ad203, e203, hx203_0, hx203_1⟩ := at_T46 HR0.out x7_4 p203 q203; cases e203; replace p203 := eq_true p203; replace q203 := eq_true q203; have p204 : 0 ≤ ((ji36) : Int) := of_decide_eq_true (by first | (with_reducible assumption) | assumption); have q204 : (ji36) < (l0.length : Int) := of_decide_eq_true (by first | (with_reducible assumption) | assumption); obtain ⟨ad204, e204, hx204_0, hx204_1⟩ := at_T46 HR0.out (ji36) p204 q204; obtain rfl : ad203 = ad204 := (by injection e204); replace p204 := eq_true p204; replace q204 := eq_true q204; go_wp2; repeat (go_quiet (fail); try go_wp2)
                   go_roundg k4
                   case measure => have := HK1.out; have := HK2.out; have := HK3.out; have := HK4.out; omega
                   case rel => exact ⟨(decide (((rd_T46 l0 x7_4).f1) < ((rd_T46 l0 (ji36)).f1))), (wrap64 (x7_4 + 1)), (by first | rfl | (simp; done) | (simp only [← hji36] <;> (first | rfl | simp)) | (simp [*]; done)), (by first | rfl | (simp; done) | (simp [*]; done)), H', ⟨by have := HK1.out; have := HK2.out; have := HK3.out; have := HK4.out; omega⟩, by repeat (first | exact Drawn0.refl _ | apply Drawn0.step)⟩
                  · rw [if_neg c38] at H; exact absurd H (by simp)
                 · rw [if_neg c37] at H; exact absurd H (by simp)
                · rw [if_neg c35] at H; exact absurd H (by simp)
              ·
               rw [if_neg c28] at H; have c28b0 : decide (x7_4 < (l0.length : Int)) = false := decide_eq_false c28; clear c28; obtain rfl := Option.some.inj H; go_wp2; repeat (go_quiet (fail); try go_wp2)
               go_ret
               exact ⟨by first | rfl | (simp; done) | (simp [*]; done), by repeat (first | exact Drawn0.refl _ | apply Drawn0.step)⟩
end Go.Proofs.YtnhmlneebnkjcaaDoor.Pr
namespace Go.Proofs.YtnhmlneebnkjcaaDoor.Pr
open Go.RowKit Go.Proofs.YtnhmlneebnkjcaaDoorW.PrintWords Go.Proofs.YtnhmlneebnkjcaaDoorW.PrintLast Go.Proofs.YtnhmlneebnkjcaaDoorW.PrintMore Go.Proofs.YtnhmlneebnkjcaaDoor.X
attribute [local go_sem] max2_int min2_int max_two min_two max_three min_three max_four min_four   -- for this text's walks alone
set_option linter.unusedVariables false
set_option linter.unusedSimpArgs false
def spileref09_Check.f (k : Nat) (a0_0 : ByteArray) (a0_1 : Int) (l0_2 : List (S46)) (a0_3 : Int) : Option (Int) := (spileref09_IsName.f k a0_0).bind fun t206 => (if t206 = true then (if a0_1 = 1 then (if a0_3 < 0 then (some 2) else (if a0_3 > 1073741824 then (some 2) else ((spileref08_Check.f k l0_2).bind fun t207 => (some t207)))) else (if a0_1 = 2 then (if a0_3 < 0 then (some 2) else (if a0_3 > 1073741824 then (some 2) else ((spileref08_Check.f k l0_2).bind fun t208 => (some t208)))) else (some 2))) else (some 4))
set_option maxHeartbeats 8000000 in
set_option maxRecDepth 100000 in
theorem spileref09_Check.calls (k : Nat) (a0_0 : ByteArray) (a0_1 : Int) (A0_2 : Option Addr) (c0_2 : Nat) (l0_2 : List (S46)) (a0_3 : Int) (r : Int) (w : World) (hr0_2 : Kd.C k46 w A0_2 l0_2.length l0_2) (hc0_2 : l0_2.length ≤ c0_2) (h : spileref09_Check.f k a0_0 a0_1 l0_2 a0_3 = some r) :
  Calls Tryd.prog 21 #[.agg #[.string a0_0, .int .i64 a0_1, .slice A0_2 l0_2.length c0_2, .int .i64 a0_3]] w fun e w' => e = .returned (.int .i64 r) ∧ Below w.heap.size w w' := by
 have hu27 := Tryd.underlying27; have HR0_2 := Aside0.mk hr0_2; have HC0_2 := Aside0.mk hc0_2; clear hr0_2 hc0_2; have HB := Aside0.mk (Below.refl w.heap.size w); have H : ((spileref09_IsName.f k a0_0).bind fun t206 => (if t206 = true then (if a0_1 = 1 then (if a0_3 < 0 then (some 2) else (if a0_3 > 1073741824 then (some 2) else ((spileref08_Check.f k l0_2).bind fun t207 => (some t207)))) else (if a0_1 = 2 then (if a0_3 < 0 then (some 2) else (if a0_3 > 1073741824 then (some 2) else ((spileref08_Check.f k l0_2).bind fun t208 => (some t208)))) else (some 2))) else (some 4))) = some r := h; clear h; replace H := Option.bind_eq_some_iff.mp H; obtain ⟨t206, A20, H⟩ := H; replace H : (if t206 = true then (if a0_1 = 1 then (if a0_3 < 0 then (some 2) else (if a0_3 > 1073741824 then (some 2) else ((spileref08_Check.f k l0_2).bind fun t207 => (some t207)))) else (if a0_1 = 2 then (if a0_3 < 0 then (some 2) else (if a0_3 > 1073741824 then (some 2) else ((spileref08_Check.f k l0_2).bind fun t208 => (some t208)))) else (some 2))) else (some 4)) = some r := H; have A2 := Aside0.mk A20; clear A20; by_cases c3 : t206 = true
 ·
  subst c3; have H1 : (if a0_1 = 1 then (if a0_3 < 0 then (some 2) else (if a0_3 > 1073741824 then (some 2) else ((spileref08_Check.f k l0_2).bind fun t207 => (some t207)))) else (if a0_1 = 2 then (if a0_3 < 0 then (some 2) else (if a0_3 > 1073741824 then (some 2) else ((spileref08_Check.f k l0_2).bind fun t208 => (some t208)))) else (some 2))) = some r := by rw [if_pos rfl] at H; exact H
  clear H; have H := H1; clear H1; by_cases c4 : a0_1 = 1
  ·
   rw [if_pos c4] at H; have c4b0 : (a0_1 == 1) = true := beq_iff_eq.mpr c4; have c4b1 : (a0_1 != 1) = false := bne_eq_false_iff_eq.mpr c4; clear c4; by_cases c5 : a0_3 < 0
   ·
    rw [if_pos c5] at H; have c5b0 : decide (a0_3 < 0) = true := decide_eq_true c5; clear c5; obtain rfl := Option.some.inj H; go_enter Tryd.func21, Tryd.ntmps21
    go_wp2_with (first | ((with_reducible refine gate_dst (N := 1) rfl ?_); refine box_event ?hg (N := 1) ?hd (cs := #[.string a0_0, .int .i64 a0_1, .slice A0_2 l0_2.length c0_2, .int .i64 a0_3]) (t := 27) ?hr ?_; (case hd => rfl); (case hg => rfl); (case hr => first | (go_simp; done) | (go_simp; rfl)); intro gb205 hg w6 hbox hb; have n0_ := Aside0.mk (below_step (eG HB.out) hb); have n1_ := Aside0.mk (hbox); have n2_ := Aside0.mk ((by rw [hg]; exact (below_size (eG HB.out)) : w.heap.size ≤ gb205)); have n3_ := Aside0.mk ((by rw [hg]; exact (below_size (eG HB.out)) : w.heap.size ≤ gb205)); clear HB; have HB := n0_; have BK205 := n1_; have GW205 := n2_; have GE205 := n3_; have ig205_ := geI GE205; clear n0_ n1_ n2_ n3_; clear hb hbox hg; have hcz7_0 : w6.cell? ⟨gb205, 0, none⟩ = some (.string a0_0) := (blk_cell BK205.out 0).trans rfl; have hcz7_1 : w6.cell? ⟨gb205, 1, none⟩ = some (.int .i64 a0_1) := (blk_cell BK205.out 1).trans rfl; have hcz7_2 : w6.cell? ⟨gb205, 2, none⟩ = some (.slice A0_2 l0_2.length c0_2) := (blk_cell BK205.out 2).trans rfl; have hcz7_3 : w6.cell? ⟨gb205, 3, none⟩ = some (.int .i64 a0_3) := (blk_cell BK205.out 3).trans rfl; have hfz7_0 := blk_frozen BK205.out 0; have hfz7_1 := blk_frozen BK205.out 1; have hfz7_2 := blk_frozen BK205.out 2; have hfz7_3 := blk_frozen BK205.out 3) | ((with_reducible refine gate_callee (f := 40) rfl ?_); refine goesL_ (some 5) rfl rfl Tryd.func40 (by kernel_rfl) rfl #[.string a0_0] rfl (by (try simp only [List.map_toArray, List.map_cons, List.map_nil]); first | done | rfl | (simp only [List.length_drop, List.length_take]; rfl)) ?_; (with_reducible refine (spileref09_IsName.calls k a0_0 true _ A2.out).mono ?_); rintro e w' ⟨rfl, ⟨nd, rfl⟩⟩; refine ⟨_, rfl, ?_⟩))
    go_ret
    exact ⟨by first | rfl | (simp [errW_none, errW_some] <;> rfl) | (simp [*, errW_none, errW_some] <;> rfl), eG HB.out⟩
   ·
    rw [if_neg c5] at H; have c5b0 : decide (a0_3 < 0) = false := decide_eq_false c5; clear c5; by_cases c8 : a0_3 > 1073741824
    ·
     rw [if_pos c8] at H; have c8b0 : decide (1073741824 < a0_3) = true := decide_eq_true c8; clear c8; obtain rfl := Option.some.inj H; go_enter Tryd.func21, Tryd.ntmps21
     go_wp2_with (first | ((with_reducible refine gate_dst (N := 1) rfl ?_); refine box_event ?hg (N := 1) ?hd (cs := #[.string a0_0, .int .i64 a0_1, .slice A0_2 l0_2.length c0_2, .int .i64 a0_3]) (t := 27) ?hr ?_; (case hd => rfl); (case hg => rfl); (case hr => first | (go_simp; done) | (go_simp; rfl)); intro gb205 hg w9 hbox hb; have n0_ := Aside0.mk (below_step (eG HB.out) hb); have n1_ := Aside0.mk (hbox); have n2_ := Aside0.mk ((by rw [hg]; exact (below_size (eG HB.out)) : w.heap.size ≤ gb205)); have n3_ := Aside0.mk ((by rw [hg]; exact (below_size (eG HB.out)) : w.heap.size ≤ gb205)); clear HB; have HB := n0_; have BK205 := n1_; have GW205 := n2_; have GE205 := n3_; have ig205_ := geI GE205; clear n0_ n1_ n2_ n3_; clear hb hbox hg; have hcz10_0 : w9.cell? ⟨gb205, 0, none⟩ = some (.string a0_0) := (blk_cell BK205.out 0).trans rfl; have hcz10_1 : w9.cell? ⟨gb205, 1, none⟩ = some (.int .i64 a0_1) := (blk_cell BK205.out 1).trans rfl; have hcz10_2 : w9.cell? ⟨gb205, 2, none⟩ = some (.slice A0_2 l0_2.length c0_2) := (blk_cell BK205.out 2).trans rfl; have hcz10_3 : w9.cell? ⟨gb205, 3, none⟩ = some (.int .i64 a0_3) := (blk_cell BK205.out 3).trans rfl; have hfz10_0 := blk_frozen BK205.out 0; have hfz10_1 := blk_frozen BK205.out 1; have hfz10_2 := blk_frozen BK205.out 2; have hfz10_3 := blk_frozen BK205.out 3) | ((with_reducible refine gate_callee (f := 40) rfl ?_); refine goesL_ (some 5) rfl rfl Tryd.func40 (by kernel_rfl) rfl #[.string a0_0] rfl (by (try simp only [List.map_toArray, List.map_cons, List.map_nil]); first | done | rfl | (simp only [List.length_drop, List.length_take]; rfl)) ?_; (with_reducible refine (spileref09_IsName.calls k a0_0 true _ A2.out).mono ?_); rintro e w' ⟨rfl, ⟨nd, rfl⟩⟩; refine ⟨_, rfl, ?_⟩))
     go_ret
     exact ⟨by first | rfl | (simp [errW_none, errW_some] <;> rfl) | (simp [*, errW_none, errW_some] <;> rfl), eG HB.out⟩
    ·
     rw [if_neg c8] at H; have c8b0 : decide (1073741824 < a0_3) = false := decide_eq_false c8; clear c8; replace H := Option.bind_eq_some_iff.mp H; obtain ⟨t207, A110, H⟩ := H; replace H : (some t207) = some r := H; have A11 := Aside0.mk A110; clear A110; obtain rfl := Option.some.inj H; go_enter Tryd.func21, Tryd.ntmps21
     go_wp2_with (first | ((with_reducible refine gate_dst (N := 1) rfl ?_); refine box_event ?hg (N := 1) ?hd (cs := #[.string a0_0, .int .i64 a0_1, .slice A0_2 l0_2.length c0_2, .int .i64 a0_3]) (t := 27) ?hr ?_; (case hd => rfl); (case hg => rfl); (case hr => first | (go_simp; done) | (go_simp; rfl)); intro gb205 hg w12 hbox hb; have n0_ := Aside0.mk (below_step (eG HB.out) hb); have n1_ := Aside0.mk (hbox); have n2_ := Aside0.mk ((by rw [hg]; exact (below_size (eG HB.out)) : w.heap.size ≤ gb205)); have n3_ := Aside0.mk ((by rw [hg]; exact (below_size (eG HB.out)) : w.heap.size ≤ gb205)); clear HB; have HB := n0_; have BK205 := n1_; have GW205 := n2_; have GE205 := n3_; have ig205_ := geI GE205; clear n0_ n1_ n2_ n3_; clear hb hbox hg; have hcz13_0 : w12.cell? ⟨gb205, 0, none⟩ = some (.string a0_0) := (blk_cell BK205.out 0).trans rfl; have hcz13_1 : w12.cell? ⟨gb205, 1, none⟩ = some (.int .i64 a0_1) := (blk_cell BK205.out 1).trans rfl; have hcz13_2 : w12.cell? ⟨gb205, 2, none⟩ = some (.slice A0_2 l0_2.length c0_2) := (blk_cell BK205.out 2).trans rfl; have hcz13_3 : w12.cell? ⟨gb205, 3, none⟩ = some (.int .i64 a0_3) := (blk_cell BK205.out 3).trans rfl; have hfz13_0 := blk_frozen BK205.out 0; have hfz13_1 := blk_frozen BK205.out 1; have hfz13_2 := blk_frozen BK205.out 2; have hfz13_3 := blk_frozen BK205.out 3) | ((with_reducible refine gate_callee (f := 40) rfl ?_); refine goesL_ (some 5) rfl rfl Tryd.func40 (by kernel_rfl) rfl #[.string a0_0] rfl (by (try simp only [List.map_toArray, List.map_cons, List.map_nil]); first | done | rfl | (simp only [List.length_drop, List.length_take]; rfl)) ?_; (with_reducible refine (spileref09_IsName.calls k a0_0 true _ A2.out).mono ?_); rintro e w' ⟨rfl, ⟨nd, rfl⟩⟩; refine ⟨_, rfl, ?_⟩) | ((with_reducible refine gate_callee (f := 41) rfl ?_); refine goesL_ (some 27) rfl rfl Tryd.func41 (by kernel_rfl) rfl #[.slice A0_2 l0_2.length c0_2] rfl (by (try simp only [List.map_toArray, List.map_cons, List.map_nil]); first | done | rfl | (simp only [List.length_drop, List.length_take]; rfl)) ?_; (with_reducible refine (spileref08_Check.calls k _ _ l0_2 t207 _ ?side1 ?side2 A11.out).mono ?_); (case side1 => repeat (first | exact (Kd.C_below HR0_2.out (eG HB.out)) | (with_reducible refine Kd.C_alloc ?_ _) | (with_reducible refine Kd.C_drewN ?_ _) | (with_reducible refine Kd.C_drew ?_))); (case side2 => exact HC0_2.out); rintro e w' ⟨rfl, ⟨nd, rfl⟩⟩; refine ⟨_, rfl, ?_⟩))
     go_ret
     exact ⟨by first | rfl | (simp [errW_none, errW_some] <;> rfl) | (simp [*, errW_none, errW_some] <;> rfl), eG HB.out⟩
  ·
   rw [if_neg c4] at H; have c4b0 : (a0_1 == 1) = false := beq_eq_false_iff_ne.mpr c4; have c4b1 : (a0_1 != 1) = true := bne_iff_ne.mpr c4; by_cases c14 : a0_1 = 2
   ·
    rw [if_pos c14] at H; have c14b0 : (a0_1 == 2) = true := beq_iff_eq.mpr c14; have c14b1 : (a0_1 != 2) = false := bne_eq_false_iff_eq.mpr c14; clear c14; by_cases c15 : a0_3 < 0
    ·
     rw [if_pos c15] at H; have c15b0 : decide (a0_3 < 0) = true := decide_eq_true c15; clear c15; obtain rfl := Option.some.inj H; go_enter Tryd.func21, Tryd.ntmps21
     go_wp2_with (first | ((with_reducible refine gate_dst (N := 1) rfl ?_); refine box_event ?hg (N := 1) ?hd (cs := #[.string a0_0, .int .i64 a0_1, .slice A0_2 l0_2.length c0_2, .int .i64 a0_3]) (t := 27) ?hr ?_; (case hd => rfl); (case hg => rfl); (case hr => first | (go_simp; done) | (go_simp; rfl)); intro gb205 hg w16 hbox hb; have n0_ := Aside0.mk (below_step (eG HB.out) hb); have n1_ := Aside0.mk (hbox); have n2_ := Aside0.mk ((by rw [hg]; exact (below_size (eG HB.out)) : w.heap.size ≤ gb205)); have n3_ := Aside0.mk ((by rw [hg]; exact (below_size (eG HB.out)) : w.heap.size ≤ gb205)); clear HB; have HB := n0_; have BK205 := n1_; have GW205 := n2_; have GE205 := n3_; have ig205_ := geI GE205; clear n0_ n1_ n2_ n3_; clear hb hbox hg; have hcz17_0 : w16.cell? ⟨gb205, 0, none⟩ = some (.string a0_0) := (blk_cell BK205.out 0).trans rfl; have hcz17_1 : w16.cell? ⟨gb205, 1, none⟩ = some (.int .i64 a0_1) := (blk_cell BK205.out 1).trans rfl; have hcz17_2 : w16.cell? ⟨gb205, 2, none⟩ = some (.slice A0_2 l0_2.length c0_2) := (blk_cell BK205.out 2).trans rfl; have hcz17_3 : w16.cell? ⟨gb205, 3, none⟩ = some (.int .i64 a0_3) := (blk_cell BK205.out 3).trans rfl; have hfz17_0 := blk_frozen BK205.out 0; have hfz17_1 := blk_frozen BK205.out 1; have hfz17_2 := blk_frozen BK205.out 2; have hfz17_3 := blk_frozen BK205.out 3) | ((with_reducible refine gate_callee (f := 40) rfl ?_); refine goesL_ (some 5) rfl rfl Tryd.func40 (by kernel_rfl) rfl #[.string a0_0] rfl (by (try simp only [List.map_toArray, List.map_cons, List.map_nil]); first | done | rfl | (simp only [List.length_drop, List.length_take]; rfl)) ?_; (with_reducible refine (spileref09_IsName.calls k a0_0 true _ A2.out).mono ?_); rintro e w' ⟨rfl, ⟨nd, rfl⟩⟩; refine ⟨_, rfl, ?_⟩))
     go_ret
     exact ⟨by first | rfl | (simp [errW_none, errW_some] <;> rfl) | (simp [*, errW_none, errW_some] <;> rfl), eG HB.out⟩
    ·
     rw [if_neg c15] at H; have c15b0 : decide (a0_3 < 0) = false := decide_eq_false c15; clear c15; by_cases c18 : a0_3 > 1073741824
     ·
      rw [if_pos c18] at H; have c18b0 : decide (1073741824 < a0_3) = true := decide_eq_true c18; clear c18; obtain rfl := Option.some.inj H; go_enter Tryd.func21, Tryd.ntmps21
      go_wp2_with (first | ((with_reducible refine gate_dst (N := 1) rfl ?_); refine box_event ?hg (N := 1) ?hd (cs := #[.string a0_0, .int .i64 a0_1, .slice A0_2 l0_2.length c0_2, .int .i64 a0_3]) (t := 27) ?hr ?_; (case hd => rfl); (case hg => rfl); (case hr => first | (go_simp; done) | (go_simp; rfl)); intro gb205 hg w19 hbox hb; have n0_ := Aside0.mk (below_step (eG HB.out) hb); have n1_ := Aside0.mk (hbox); have n2_ := Aside0.mk ((by rw [hg]; exact (below_size (eG HB.out)) : w.heap.size ≤ gb205)); have n3_ := Aside0.mk ((by rw [hg]; exact (below_size (eG HB.out)) : w.heap.size ≤ gb205)); clear HB; have HB := n0_; have BK205 := n1_; have GW205 := n2_; have GE205 := n3_; have ig205_ := geI GE205; clear n0_ n1_ n2_ n3_; clear hb hbox hg; have hcz20_0 : w19.cell? ⟨gb205, 0, none⟩ = some (.string a0_0) := (blk_cell BK205.out 0).trans rfl; have hcz20_1 : w19.cell? ⟨gb205, 1, none⟩ = some (.int .i64 a0_1) := (blk_cell BK205.out 1).trans rfl; have hcz20_2 : w19.cell? ⟨gb205, 2, none⟩ = some (.slice A0_2 l0_2.length c0_2) := (blk_cell BK205.out 2).trans rfl; have hcz20_3 : w19.cell? ⟨gb205, 3, none⟩ = some (.int .i64 a0_3) := (blk_cell BK205.out 3).trans rfl; have hfz20_0 := blk_frozen BK205.out 0; have hfz20_1 := blk_frozen BK205.out 1; have hfz20_2 := blk_frozen BK205.out 2; have hfz20_3 := blk_frozen BK205.out 3) | ((with_reducible refine gate_callee (f := 40) rfl ?_); refine goesL_ (some 5) rfl rfl Tryd.func40 (by kernel_rfl) rfl #[.string a0_0] rfl (by (try simp only [List.map_toArray, List.map_cons, List.map_nil]); first | done | rfl | (simp only [List.length_drop, List.length_take]; rfl)) ?_; (with_reducible refine (spileref09_IsName.calls k a0_0 true _ A2.out).mono ?_); rintro e w' ⟨rfl, ⟨nd, rfl⟩⟩; refine ⟨_, rfl, ?_⟩))
      go_ret
      exact ⟨by first | rfl | (simp [errW_none, errW_some] <;> rfl) | (simp [*, errW_none, errW_some] <;> rfl), eG HB.out⟩
     ·
      rw [if_neg c18] at H; have c18b0 : decide (1073741824 < a0_3) = false := decide_eq_false c18; clear c18; replace H := Option.bind_eq_some_iff.mp H; obtain ⟨t208, A210, H⟩ := H; replace H : (some t208) = some r := H; have A21 := Aside0.mk A210; clear A210; obtain rfl := Option.some.inj H; go_enter Tryd.func21, Tryd.ntmps21
      go_wp2_with (first | ((with_reducible refine gate_dst (N := 1) rfl ?_); refine box_event ?hg (N := 1) ?hd (cs := #[.string a0_0, .int .i64 a0_1, .slice A0_2 l0_2.length c0_2, .int .i64 a0_3]) (t := 27) ?hr ?_; (case hd => rfl); (case hg => rfl); (case hr => first | (go_simp; done) | (go_simp; rfl)); intro gb205 hg w22 hbox hb; have n0_ := Aside0.mk (below_step (eG HB.out) hb); have n1_ := Aside0.mk (hbox); have n2_ := Aside0.mk ((by rw [hg]; exact (below_size (eG HB.out)) : w.heap.size ≤ gb205)); have n3_ := Aside0.mk ((by rw [hg]; exact (below_size (eG HB.out)) : w.heap.size ≤ gb205)); clear HB; have HB := n0_; have BK205 := n1_; have GW205 := n2_; have GE205 := n3_; have ig205_ := geI GE205; clear n0_ n1_ n2_ n3_; clear hb hbox hg; have hcz23_0 : w22.cell? ⟨gb205, 0, none⟩ = some (.string a0_0) := (blk_cell BK205.out 0).trans rfl; have hcz23_1 : w22.cell? ⟨gb205, 1, none⟩ = some (.int .i64 a0_1) := (blk_cell BK205.out 1).trans rfl; have hcz23_2 : w22.cell? ⟨gb205, 2, none⟩ = some (.slice A0_2 l0_2.length c0_2) := (blk_cell BK205.out 2).trans rfl; have hcz23_3 : w22.cell? ⟨gb205, 3, none⟩ = some (.int .i64 a0_3) := (blk_cell BK205.out 3).trans rfl; have hfz23_0 := blk_frozen BK205.out 0; have hfz23_1 := blk_frozen BK205.out 1; have hfz23_2 := blk_frozen BK205.out 2; have hfz23_3 := blk_frozen BK205.out 3) | ((with_reducible refine gate_callee (f := 40) rfl ?_); refine goesL_ (some 5) rfl rfl Tryd.func40 (by kernel_rfl) rfl #[.string a0_0] rfl (by (try simp only [List.map_toArray, List.map_cons, List.map_nil]); first | done | rfl | (simp only [List.length_drop, List.length_take]; rfl)) ?_; (with_reducible refine (spileref09_IsName.calls k a0_0 true _ A2.out).mono ?_); rintro e w' ⟨rfl, ⟨nd, rfl⟩⟩; refine ⟨_, rfl, ?_⟩) | ((with_reducible refine gate_callee (f := 41) rfl ?_); refine goesL_ (some 27) rfl rfl Tryd.func41 (by kernel_rfl) rfl #[.slice A0_2 l0_2.length c0_2] rfl (by (try simp only [List.map_toArray, List.map_cons, List.map_nil]); first | done | rfl | (simp only [List.length_drop, List.length_take]; rfl)) ?_; (with_reducible refine (spileref08_Check.calls k _ _ l0_2 t208 _ ?side1 ?side2 A21.out).mono ?_); (case side1 => repeat (first | exact (Kd.C_below HR0_2.out (eG HB.out)) | (with_reducible refine Kd.C_alloc ?_ _) | (with_reducible refine Kd.C_drewN ?_ _) | (with_reducible refine Kd.C_drew ?_))); (case side2 => exact HC0_2.out); rintro e w' ⟨rfl, ⟨nd, rfl⟩⟩; refine ⟨_, rfl, ?_⟩))
      go_ret
      exact ⟨by first | rfl | (simp [errW_none, errW_some] <;> rfl) | (simp [*, errW_none, errW_some] <;> rfl), eG HB.out⟩
   ·
    rw [if_neg c14] at H; have c14b0 : (a0_1 == 2) = false := beq_eq_false_iff_ne.mpr c14; have c14b1 : (a0_1 != 2) = true := bne_iff_ne.mpr c14; obtain rfl := Option.some.inj H; go_enter Tryd.func21, Tryd.ntmps21
    go_wp2_with (first | ((with_reducible refine gate_dst (N := 1) rfl ?_); refine box_event ?hg (N := 1) ?hd (cs := #[.string a0_0, .int .i64 a0_1, .slice A0_2 l0_2.length c0_2, .int .i64 a0_3]) (t := 27) ?hr ?_; (case hd => rfl); (case hg => rfl); (case hr => first | (go_simp; done) | (go_simp; rfl)); intro gb205 hg w24 hbox hb; have n0_ := Aside0.mk (below_step (eG HB.out) hb); have n1_ := Aside0.mk (hbox); have n2_ := Aside0.mk ((by rw [hg]; exact (below_size (eG HB.out)) : w.heap.size ≤ gb205)); have n3_ := Aside0.mk ((by rw [hg]; exact (below_size (eG HB.out)) : w.heap.size ≤ gb205)); clear HB; have HB := n0_; have BK205 := n1_; have GW205 := n2_; have GE205 := n3_; have ig205_ := geI GE205; clear n0_ n1_ n2_ n3_; clear hb hbox hg; have hcz25_0 : w24.cell? ⟨gb205, 0, none⟩ = some (.string a0_0) := (blk_cell BK205.out 0).trans rfl; have hcz25_1 : w24.cell? ⟨gb205, 1, none⟩ = some (.int .i64 a0_1) := (blk_cell BK205.out 1).trans rfl; have hcz25_2 : w24.cell? ⟨gb205, 2, none⟩ = some (.slice A0_2 l0_2.length c0_2) := (blk_cell BK205.out 2).trans rfl; have hcz25_3 : w24.cell? ⟨gb205, 3, none⟩ = some (.int .i64 a0_3) := (blk_cell BK205.out 3).trans rfl; have hfz25_0 := blk_frozen BK205.out 0; have hfz25_1 := blk_frozen BK205.out 1; have hfz25_2 := blk_frozen BK205.out 2; have hfz25_3 := blk_frozen BK205.out 3) | ((with_reducible refine gate_callee (f := 40) rfl ?_); refine goesL_ (some 5) rfl rfl Tryd.func40 (by kernel_rfl) rfl #[.string a0_0] rfl (by (try simp only [List.map_toArray, List.map_cons, List.map_nil]); first | done | rfl | (simp only [List.length_drop, List.length_take]; rfl)) ?_; (with_reducible refine (spileref09_IsName.calls k a0_0 true _ A2.out).mono ?_); rintro e w' ⟨rfl, ⟨nd, rfl⟩⟩; refine ⟨_, rfl, ?_⟩))
    go_ret
    exact ⟨by first | rfl | (simp [errW_none, errW_some] <;> rfl) | (simp [*, errW_none, errW_some] <;> rfl), eG HB.out⟩
 ·
  replace c3 := Bool.eq_false_iff.mpr c3; subst c3; have H1 : (some 4) = some r := by rw [if_neg (show ¬ (false = true) by decide)] at H; exact H
  clear H; have H := H1; clear H1; obtain rfl := Option.some.inj H; go_enter Tryd.func21, Tryd.ntmps21
  go_wp2_with (first | ((with_reducible refine gate_dst (N := 1) rfl ?_); refine box_event ?hg (N := 1) ?hd (cs := #[.string a0_0, .int .i64 a0_1, .slice A0_2 l0_2.length c0_2, .int .i64 a0_3]) (t := 27) ?hr ?_; (case hd => rfl); (case hg => rfl); (case hr => first | (go_simp; done) | (go_simp; rfl)); intro gb205 hg w26 hbox hb; have n0_ := Aside0.mk (below_step (eG HB.out) hb); have n1_ := Aside0.mk (hbox); have n2_ := Aside0.mk ((by rw [hg]; exact (below_size (eG HB.out)) : w.heap.size ≤ gb205)); have n3_ := Aside0.mk ((by rw [hg]; exact (below_size (eG HB.out)) : w.heap.size ≤ gb205)); clear HB; have HB := n0_; have BK205 := n1_; have GW205 := n2_; have GE205 := n3_; have ig205_ := geI GE205; clear n0_ n1_ n2_ n3_; clear hb hbox hg; have hcz27_0 : w26.cell? ⟨gb205, 0, none⟩ = some (.string a0_0) := (blk_cell BK205.out 0).trans rfl; have hcz27_1 : w26.cell? ⟨gb205, 1, none⟩ = some (.int .i64 a0_1) := (blk_cell BK205.out 1).trans rfl; have hcz27_2 : w26.cell? ⟨gb205, 2, none⟩ = some (.slice A0_2 l0_2.length c0_2) := (blk_cell BK205.out 2).trans rfl; have hcz27_3 : w26.cell? ⟨gb205, 3, none⟩ = some (.int .i64 a0_3) := (blk_cell BK205.out 3).trans rfl; have hfz27_0 := blk_frozen BK205.out 0; have hfz27_1 := blk_frozen BK205.out 1; have hfz27_2 := blk_frozen BK205.out 2; have hfz27_3 := blk_frozen BK205.out 3) | ((with_reducible refine gate_callee (f := 40) rfl ?_); refine goesL_ (some 5) rfl rfl Tryd.func40 (by kernel_rfl) rfl #[.string a0_0] rfl (by (try simp only [List.map_toArray, List.map_cons, List.map_nil]); first | done | rfl | (simp only [List.length_drop, List.length_take]; rfl)) ?_; (with_reducible refine (spileref09_IsName.calls k a0_0 false _ A2.out).mono ?_); rintro e w' ⟨rfl, ⟨nd, rfl⟩⟩; refine ⟨_, rfl, ?_⟩))
  go_ret
  exact ⟨by first | rfl | (simp [errW_none, errW_some] <;> rfl) | (simp [*, errW_none, errW_some] <;> rfl), eG HB.out⟩
mutual
def spileref09_List.l0 : Nat → List (S27) → Int → Option (Int)
 | 0, _, _ => none
 | k + 1, x0, x3 => if x3 < (x0.length : Int) then (if 0 ≤ x3 then ((spileref09_Check.f k ((rd_T27 x0 x3).f0) ((rd_T27 x0 x3).f1) ((rd_T27 x0 x3).f2) ((rd_T27 x0 x3).f3)).bind fun t210 => (if t210 = 0 then (spileref09_List.l0 k x0 (wrap64 (x3 + 1))) else (some t210))) else (none)) else (spileref09_List.l1 k x0 0)
def spileref09_List.l1 : Nat → List (S27) → Int → Option (Int)
 | 0, _, _ => none
 | k + 1, x0, x5 => if x5 < (x0.length : Int) then (spileref09_List.l2 k x0 x5 0) else (some 0)
def spileref09_List.l2 : Nat → List (S27) → Int → Int → Option (Int)
 | 0, _, _, _ => none
 | k + 1, x0, x5, x6 => if x6 < x5 then (if 0 ≤ x5 then (if x5 < (x0.length : Int) then (if 0 ≤ x6 then (if x6 < (x0.length : Int) then (if ((rd_T27 x0 x5).f0).toList = ((rd_T27 x0 x6).f0).toList then (some 6) else (spileref09_List.l2 k x0 x5 (wrap64 (x6 + 1)))) else (none)) else (none)) else (none)) else (none)) else (spileref09_List.l1 k x0 (wrap64 (x5 + 1)))
end
def spileref09_List.f (k : Nat) (l0 : List (S27)) : Option (Int) := if (l0.length : Int) > 32 then (some 8) else (spileref09_List.l0 k l0 0)
set_option maxHeartbeats 8000000 in
set_option maxRecDepth 100000 in
theorem spileref09_List.calls (k : Nat) (A0 : Option Addr) (c0 : Nat) (l0 : List (S27)) (r : Int) (w : World) (hr0 : Kd.C k27 w A0 l0.length l0) (hc0 : l0.length ≤ c0) (h : spileref09_List.f k l0 = some r) :
  Calls Tryd.prog 17 #[.slice A0 l0.length c0] w fun e w' => e = .returned (.int .i64 r) ∧ Below w.heap.size w w' := by
 have hu27 := Tryd.underlying27; have HR0 := Aside0.mk hr0; have HC0 := Aside0.mk hc0; clear hr0 hc0; have HB := Aside0.mk (Below.refl w.heap.size w); have H : (if (l0.length : Int) > 32 then (some 8) else (spileref09_List.l0 k l0 0)) = some r := h; clear h; by_cases c2 : (l0.length : Int) > 32
 ·
  rw [if_pos c2] at H; have c2b0 : decide (32 < (l0.length : Int)) = true := decide_eq_true c2; have c2b1 : decide (32 < l0.length) = true := decide_eq_true (by omega); clear c2; obtain rfl := Option.some.inj H; go_enter Tryd.func17, Tryd.ntmps17
  go_wp2; repeat (go_quiet (fail); try go_wp2)
  go_ret
  exact ⟨by first | rfl | (simp [errW_none, errW_some] <;> rfl) | (simp [*, errW_none, errW_some] <;> rfl), eG HB.out⟩
 ·
  rw [if_neg c2] at H; have c2b0 : decide (32 < (l0.length : Int)) = false := decide_eq_false c2; have c2b1 : decide (32 < l0.length) = false := decide_eq_false (by omega); clear c2; have H' := Aside0.mk H; clear H; go_enter Tryd.func17, Tryd.ntmps17
  go_wp2; repeat (go_quiet (fail); try go_wp2)
  go_loopg [3] k (fun kq v3 w' => ∃ (x3_1 : Int), v3 = .int .i64 x3_1 ∧ Aside0 (spileref09_List.l0 kq l0 x3_1 = some r) ∧ Aside0 (kq ≤ k) ∧ Aside0 (Below w.heap.size w w'))
  case atStart => exact ⟨(0), (by first | rfl | (simp; done) | (simp [*]; done)), H', ⟨Nat.le_refl _⟩, ⟨eG HB.out⟩⟩
  case round =>
   clear H'; try clear c1
   try clear c2
   try clear c2b0
   try clear c2b1
   try clear p2
   obtain ⟨x3_1, rfl, HA, HK1, HB⟩ := hrel
   cases gk with
   | zero => exact absurd HA.out (by simp [spileref09_List.l0])
   | succ k1 =>
    have H := HA.out; clear HA; simp only [spileref09_List.l0] at H; by_cases c3 : x3_1 < (l0.length : Int)
    ·
     rw [if_pos c3] at H; have c3b0 : decide (x3_1 < (l0.length : Int)) = true := decide_eq_true c3; clear c3; by_cases c4 : 0 ≤ x3_1
     ·
      rw [if_pos c4] at H; have c4b0 : decide (0 ≤ x3_1) = true := decide_eq_true c4; clear c4; replace H := Option.bind_eq_some_iff.mp H; obtain ⟨t210, A50, H⟩ := H; replace H : (if t210 = 0 then (spileref09_List.l0 k1 l0 (wrap64 (x3_1 + 1))) else (some t210)) = some r := H; have A5 := Aside0.mk A50; clear A50; by_cases c6 : t210 = 0
      ·
       rw [if_pos c6] at H; have c6b0 : (t210 == 0) = true := beq_iff_eq.mpr c6; have c6b1 : (t210 != 0) = false := bne_eq_false_iff_eq.mpr c6; clear c6; have H' := Aside0.mk H; clear H; have p209 : 0 ≤ (x3_1 : Int) := of_decide_eq_true (by first | (with_reducible assumption) | assumption); have q209 : x3_1 < (l0.length : Int) := of_decide_eq_true (by first | (with_reducible assumption) | assumption); obtain ⟨ad209, A209_2, c209_2, e209, hx209_0, hx209_1, hx209_2, hx209_3, hl209_2, hi209_2⟩ := at_T27 HR0.out x3_1 p209 q209; cases e209; replace hx209_0 := (HB.out.cell (World.block_lt_of_cell? w _ hx209_0)).trans hx209_0; replace hx209_1 := (HB.out.cell (World.block_lt_of_cell? w _ hx209_1)).trans hx209_1; replace hx209_2 := (HB.out.cell (World.block_lt_of_cell? w _ hx209_2)).trans hx209_2; replace hx209_3 := (HB.out.cell (World.block_lt_of_cell? w _ hx209_3)).trans hx209_3; have HR209_2 := Aside0.mk hi209_2; have HC209_2 := Aside0.mk hl209_2; clear hi209_2 hl209_2; replace p209 := eq_true p209; replace q209 := eq_true q209; go_wp2_with (first | (go_at_call 21; (with_reducible refine (spileref09_Check.calls k1 ((rd_T27 l0 x3_1).f0) ((rd_T27 l0 x3_1).f1) _ _ ((rd_T27 l0 x3_1).f2) ((rd_T27 l0 x3_1).f3) t210 _ ?side1 ?side2 A5.out).mono ?_); (case side1 => repeat (first | exact (Kd.C_below HR209_2.out HB.out) | (with_reducible refine Kd.C_alloc ?_ _) | (with_reducible refine Kd.C_drewN ?_ _) | (with_reducible refine Kd.C_drew ?_))); (case side2 => exact HC209_2.out); rintro e w7 ⟨rfl, hb⟩; have n0_ := Aside0.mk (below_step (eG HB.out) hb); clear HB; have HB := n0_; clear n0_; (try clear hb); (try clear hb2); (try clear hk); (try clear hi)))
       repeat (go_quiet (first | (go_at_call 21; (with_reducible refine (spileref09_Check.calls k1 ((rd_T27 l0 x3_1).f0) ((rd_T27 l0 x3_1).f1) _ _ ((rd_T27 l0 x3_1).f2) ((rd_T27 l0 x3_1).f3) t210 _ ?side1 ?side2 A5.out).mono ?_); (case side1 => repeat (first | exact (Kd.C_below HR209_2.out HB.out) | (with_reducible refine Kd.C_alloc ?_ _) | (with_reducible refine Kd.C_drewN ?_ _) | (with_reducible refine Kd.C_drew ?_))); (case side2 => exact HC209_2.out); rintro e w7 ⟨rfl, hb⟩; have n0_ := Aside0.mk (below_step (eG HB.out) hb); clear HB; have HB := n0_; clear n0_; (try clear hb); (try clear hb2); (try clear hk); (try clear hi))); try go_wp2_with (first | (go_at_call 21; (with_reducible refine (spileref09_Check.calls k1 ((rd_T27 l0 x3_1).f0) ((rd_T27 l0 x3_1).f1) _ _ ((rd_T27 l0 x3_1).f2) ((rd_T27 l0 x3_1).f3) t210 _ ?side1 ?side2 A5.out).mono ?_); (case side1 => repeat (first | exact (Kd.C_below HR209_2.out HB.out) | (with_reducible refine Kd.C_alloc ?_ _) | (with_reducible refine Kd.C_drewN ?_ _) | (with_reducible refine Kd.C_drew ?_))); (case side2 => exact HC209_2.out); rintro e w7 ⟨rfl, hb⟩; have n0_ := Aside0.mk (below_step (eG HB.out) hb); clear HB; have HB := n0_; clear n0_; (try clear hb); (try clear hb2); (try clear hk); (try clear hi))))
       go_roundg k1
       case measure => have := HK1.out; omega
       case rel => exact ⟨(wrap64 (x3_1 + 1)), (by first | rfl | (simp; done) | (simp [*]; done)), H', ⟨by have := HK1.out; omega⟩, ⟨eG HB.out⟩⟩
      ·
       rw [if_neg c6] at H; have c6b0 : (t210 == 0) = false := beq_eq_false_iff_ne.mpr c6; have c6b1 : (t210 != 0) = true := bne_iff_ne.mpr c6; obtain rfl := Option.some.inj H; have p209 : 0 ≤ (x3_1 : Int) := of_decide_eq_true (by first | (with_reducible assumption) | assumption); have q209 : x3_1 < (l0.length : Int) := of_decide_eq_true (by first | (with_reducible assumption) | assumption); obtain ⟨ad209, A209_2, c209_2, e209, hx209_0, hx209_1, hx209_2, hx209_3, hl209_2, hi209_2⟩ := at_T27 HR0.out x3_1 p209 q209; cases e209; replace hx209_0 := (HB.out.cell (World.block_lt_of_cell? w _ hx209_0)).trans hx209_0; replace hx209_1 := (HB.out.cell (World.block_lt_of_cell? w _ hx209_1)).trans hx209_1; replace hx209_2 := (HB.out.cell (World.block_lt_of_cell? w _ hx209_2)).trans hx209_2; replace hx209_3 := (HB.out.cell (World.block_lt_of_cell? w _ hx209_3)).trans hx209_3; have HR209_2 := Aside0.mk hi209_2; have HC209_2 := Aside0.mk hl209_2; clear hi209_2 hl209_2; replace p209 := eq_true p209; replace q209 := eq_true q209; go_wp2_with (first | (go_at_call 21; (with_reducible refine (spileref09_Check.calls k1 ((rd_T27 l0 x3_1).f0) ((rd_T27 l0 x3_1).f1) _ _ ((rd_T27 l0 x3_1).f2) ((rd_T27 l0 x3_1).f3) t210 _ ?side1 ?side2 A5.out).mono ?_); (case side1 => repeat (first | exact (Kd.C_below HR209_2.out HB.out) | (with_reducible refine Kd.C_alloc ?_ _) | (with_reducible refine Kd.C_drewN ?_ _) | (with_reducible refine Kd.C_drew ?_))); (case side2 => exact HC209_2.out); rintro e w8 ⟨rfl, hb⟩; have n0_ := Aside0.mk (below_step (eG HB.out) hb); clear HB; have HB := n0_; clear n0_; (try clear hb); (try clear hb2); (try clear hk); (try clear hi)))
       repeat (go_quiet (first | (go_at_call 21; (with_reducible refine (spileref09_Check.calls k1 ((rd_T27 l0 x3_1).f0) ((rd_T27 l0 x3_1).f1) _ _ ((rd_T27 l0 x3_1).f2) ((rd_T27 l0 x3_1).f3) t210 _ ?side1 ?side2 A5.out).mono ?_); (case side1 => repeat (first | exact (Kd.C_below HR209_2.out HB.out) | (with_reducible refine Kd.C_alloc ?_ _) | (with_reducible refine Kd.C_drewN ?_ _) | (with_reducible refine Kd.C_drew ?_))); (case side2 => exact HC209_2.out); rintro e w8 ⟨rfl, hb⟩; have n0_ := Aside0.mk (below_step (eG HB.out) hb); clear HB; have HB := n0_; clear n0_; (try clear hb); (try clear hb2); (try clear hk); (try clear hi))); try go_wp2_with (first | (go_at_call 21; (with_reducible refine (spileref09_Check.calls k1 ((rd_T27 l0 x3_1).f0) ((rd_T27 l0 x3_1).f1) _ _ ((rd_T27 l0 x3_1).f2) ((rd_T27 l0 x3_1).f3) t210 _ ?side1 ?side2 A5.out).mono ?_); (case side1 => repeat (first | exact (Kd.C_below HR209_2.out HB.out) | (with_reducible refine Kd.C_alloc ?_ _) | (with_reducible refine Kd.C_drewN ?_ _) | (with_reducible refine Kd.C_drew ?_))); (case side2 => exact HC209_2.out); rintro e w8 ⟨rfl, hb⟩; have n0_ := Aside0.mk (below_step (eG HB.out) hb); clear HB; have HB := n0_; clear n0_; (try clear hb); (try clear hb2); (try clear hk); (try clear hi))))
       go_ret
       exact ⟨by first | rfl | (simp [errW_none, errW_some] <;> rfl) | (simp [*, errW_none, errW_some] <;> rfl), eG HB.out⟩
     · rw [if_neg c4] at H; exact absurd H (by simp)
    ·
     rw [if_neg c3] at H; have c3b0 : decide (x3_1 < (l0.length : Int)) = false := decide_eq_false c3; clear c3; have H' := Aside0.mk H; clear H; go_wp2; repeat (go_quiet (fail); try go_wp2)
     go_loopg [5] k1 (fun kq v5 w' => ∃ (x5_2 : Int), v5 = .int .i64 x5_2 ∧ Aside0 (spileref09_List.l1 kq l0 x5_2 = some r) ∧ Aside0 (kq ≤ k1) ∧ Aside0 (Below w.heap.size w w'))
     case atStart => exact ⟨(0), (by first | rfl | (simp; done) | (simp [*]; done)), H', ⟨Nat.le_refl _⟩, ⟨eG HB.out⟩⟩
     case round =>
      clear H'; try clear c1
      try clear c2
      try clear c2b0
      try clear c2b1
      try clear p2
      try clear q2
      try clear hx2
      try clear c3
      try clear c3b0
      try clear c4
      try clear c4b0
      try clear c6
      try clear c6b0
      try clear c6b1
      try clear p6
      try clear hx209_0
      try clear hx209_1
      try clear hx209_2
      try clear hx209_3
      try clear p2
      try clear p209
      try clear q209
      obtain ⟨x5_2, rfl, HA, HK2, HB⟩ := hrel
      cases gk with
      | zero => exact absurd HA.out (by simp [spileref09_List.l1])
      | succ k2 =>
       have H := HA.out; clear HA; simp only [spileref09_List.l1] at H; by_cases c9 : x5_2 < (l0.length : Int)
       ·
        rw [if_pos c9] at H; have c9b0 : decide (x5_2 < (l0.length : Int)) = true := decide_eq_true c9; clear c9; have H' := Aside0.mk H; clear H; go_wp2; repeat (go_quiet (fail); try go_wp2)
        go_loopg [6] k2 (fun kq v6 w' => ∃ (x6_3 : Int), v6 = .int .i64 x6_3 ∧ Aside0 (spileref09_List.l2 kq l0 x5_2 x6_3 = some r) ∧ Aside0 (kq ≤ k2) ∧ Aside0 (Below w.heap.size w w'))
        case atStart => exact ⟨(0), (by first | rfl | (simp; done) | (simp [*]; done)), H', ⟨Nat.le_refl _⟩, ⟨eG HB.out⟩⟩
        case round =>
         clear H'; try clear c1
         try clear c2
         try clear c2b0
         try clear c2b1
         try clear p2
         try clear q2
         try clear hx2
         try clear c3
         try clear c3b0
         try clear c4
         try clear c4b0
         try clear c6
         try clear c6b0
         try clear c6b1
         try clear p6
         try clear c9
         try clear c9b0
         try clear hx209_0
         try clear hx209_1
         try clear hx209_2
         try clear hx209_3
         try clear p2
         try clear p209
         try clear p6
         try clear q2
         try clear q209
         obtain ⟨x6_3, rfl, HA, HK3, HB⟩ := hrel
         cases gk with
         | zero => exact absurd HA.out (by simp [spileref09_List.l2])
         | succ k3 =>
          have H := HA.out; clear HA; simp only [spileref09_List.l2] at H; by_cases c10 : x6_3 < x5_2
          ·
           rw [if_pos c10] at H; have c10b0 : decide (x6_3 < x5_2) = true := decide_eq_true c10; clear c10; by_cases c11 : 0 ≤ x5_2
           ·
            rw [if_pos c11] at H; have c11b0 : decide (0 ≤ x5_2) = true := decide_eq_true c11; clear c11; by_cases c12 : x5_2 < (l0.length : Int)
            ·
             rw [if_pos c12] at H; have c12b0 : decide (x5_2 < (l0.length : Int)) = true := decide_eq_true c12; clear c12; by_cases c13 : 0 ≤ x6_3
             ·
              rw [if_pos c13] at H; have c13b0 : decide (0 ≤ x6_3) = true := decide_eq_true c13; clear c13; by_cases c14 : x6_3 < (l0.length : Int)
              ·
               rw [if_pos c14] at H; have c14b0 : decide (x6_3 < (l0.length : Int)) = true := decide_eq_true c14; clear c14; by_cases c15 : ((rd_T27 l0 x5_2).f0).toList = ((rd_T27 l0 x6_3).f0).toList
               ·
                rw [if_pos c15] at H; have c15b0 : (((rd_T27 l0 x5_2).f0).toList == ((rd_T27 l0 x6_3).f0).toList) = true := beq_iff_eq.mpr c15; have c15b1 : (((rd_T27 l0 x5_2).f0).toList != ((rd_T27 l0 x6_3).f0).toList) = false := bne_eq_false_iff_eq.mpr c15; clear c15; obtain rfl := Option.some.inj H; have p211 : 0 ≤ (x5_2 : Int) := of_decide_eq_true (by first | (with_reducible assumption) | assumption); have q211 : x5_2 < (l0.length : Int) := of_decide_eq_true (by first | (with_reducible assumption) | assumption); obtain ⟨ad211, A211_2, c211_2, e211, hx211_0, hx211_1, hx211_2, hx211_3, hl211_2, hi211_2⟩ := at_T27 HR0.out x5_2 p211 q211; cases e211; replace hx211_0 := (HB.out.cell (World.block_lt_of_cell? w _ hx211_0)).trans hx211_0; replace hx211_1 := (HB.out.cell (World.block_lt_of_cell? w _ hx211_1)).trans hx211_1; replace hx211_2 := (HB.out.cell (World.block_lt_of_cell? w _ hx211_2)).trans hx211_2; replace hx211_3 := (HB.out.cell (World.block_lt_of_cell? w _ hx211_3)).trans hx211_3; have HR211_2 := Aside0.mk hi211_2; have HC211_2 := Aside0.mk hl211_2; clear hi211_2 hl211_2; replace p211 := eq_true p211; replace q211 := eq_true q211; have p212 : 0 ≤ (x6_3 : Int) := of_decide_eq_true (by first | (with_reducible assumption) | assumption); have q212 : x6_3 < (l0.length : Int) := of_decide_eq_true (by first | (with_reducible assumption) | assumption); obtain ⟨ad212, A212_2, c212_2, e212, hx212_0, hx212_1, hx212_2, hx212_3, hl212_2, hi212_2⟩ := at_T27 HR0.out x6_3 p212 q212; obtain rfl : ad211 = ad212 := (by injection e212); replace hx212_0 := (HB.out.cell (World.block_lt_of_cell? w _ hx212_0)).trans hx212_0; replace hx212_1 := (HB.out.cell (World.block_lt_of_cell? w _ hx212_1)).trans hx212_1; replace hx212_2 := (HB.out.cell (World.block_lt_of_cell? w _ hx212_2)).trans hx212_2; replace hx212_3 := (HB.out.cell (World.block_lt_of_cell? w _ hx212_3)).trans hx212_3; have HR212_2 := Aside0.mk hi212_2; have HC212_2 := Aside0.mk hl212_2; clear hi212_2 hl212_2; replace p212 := eq_true p212; replace q212 := eq_true q212; go_wp2; repeat (go_quiet (fail); try go_wp2)
                go_ret
                exact ⟨by first | rfl | (simp [errW_none, errW_some] <;> rfl) | (simp [*, errW_none, errW_some] <;> rfl), eG HB.out⟩
               ·
                rw [if_neg c15] at H; have c15b0 : (((rd_T27 l0 x5_2).f0).toList == ((rd_T27 l0 x6_3).f0).toList) = false := beq_eq_false_iff_ne.mpr c15; have c15b1 : (((rd_T27 l0 x5_2).f0).toList != ((rd_T27 l0 x6_3).f0).toList) = true := bne_iff_ne.mpr c15; have H' := Aside0.mk H; clear H; have p211 : 0 ≤ (x5_2 : Int) := of_decide_eq_true (by first | (with_reducible assumption) | assumption); have q211 : x5_2 < (l0.length : Int) := of_decide_eq_true (by first | (with_reducible assumption) | assumption); obtain ⟨ad211, A211_2, c211_2, e211, hx211_0, hx211_1, hx211_2, hx211_3, hl211_2, hi211_2⟩ := at_T27 HR0.out x5_2 p211 q211; cases e211; replace hx211_0 := (HB.out.cell (World.block_lt_of_cell? w _ hx211_0)).trans hx211_0; replace hx211_1 := (HB.out.cell (World.block_lt_of_cell? w _ hx211_1)).trans hx211_1; replace hx211_2 := (HB.out.cell (World.block_lt_of_cell? w _ hx211_2)).trans hx211_2; replace hx211_3 := (HB.out.cell (World.block_lt_of_cell? w _ hx211_3)).trans hx211_3; have HR211_2 := Aside0.mk hi211_2; have HC211_2 := Aside0.mk hl211_2; clear hi211_2 hl211_2; replace p211 := eq_true p211; replace q211 := eq_true q211; have p212 : 0 ≤ (x6_3 : Int) := of_decide_eq_true (by first | (with_reducible assumption) | assumption); have q212 : x6_3 < (l0.length : Int) := of_decide_eq_true (by first | (with_reducible assumption) | assumption); obtain ⟨ad212, A212_2, c212_2, e212, hx212_0, hx212_1, hx212_2, hx212_3, hl212_2, hi212_2⟩ := at_T27 HR0.out x6_3 p212 q212; obtain rfl : ad211 = ad212 := (by injection e212); replace hx212_0 := (HB.out.cell (World.block_lt_of_cell? w _ hx212_0)).trans hx212_0; replace hx212_1 := (HB.out.cell (World.block_lt_of_cell? w _ hx212_1)).trans hx212_1; replace hx212_2 := (HB.out.cell (World.block_lt_of_cell? w _ hx212_2)).trans hx212_2; replace hx212_3 := (HB.out.cell (World.block_lt_of_cell? w _ hx212_3)).trans hx212_3; have HR212_2 := Aside0.mk hi212_2; have HC212_2 := Aside0.mk hl212_2; clear hi212_2 hl212_2; replace p212 := eq_true p212; replace q212 := eq_true q212; go_wp2; repeat (go_quiet (fail); try go_wp2)
                go_roundg k3
                case measure => have := HK1.out; have := HK2.out; have := HK3.out; omega
                case rel => exact ⟨(wrap64 (x6_3 + 1)), (by first | rfl | (simp; done) | (simp [*]; done)), H', ⟨by have := HK1.out; have := HK2.out; have := HK3.out; omega⟩, ⟨eG HB.out⟩⟩
              · rw [if_neg c14] at H; exact absurd H (by simp)
             · rw [if_neg c13] at H; exact absurd H (by simp)
            · rw [if_neg c12] at H; exact absurd H (by simp)
           · rw [if_neg c11] at H; exact absurd H (by simp)
          ·
           rw [if_neg c10] at H; have c10b0 : decide (x6_3 < x5_2) = false := decide_eq_false c10; clear c10; have H' := Aside0.mk H; clear H; go_wp2; repeat (go_quiet (fail); try go_wp2)
           go_roundg k3
           case measure => have := HK1.out; have := HK2.out; have := HK3.out; omega
           case rel => exact ⟨(wrap64 (x5_2 + 1)), (by first | rfl | (simp; done) | (simp [*]; done)), H', ⟨by have := HK1.out; have := HK2.out; have := HK3.out; omega⟩, ⟨eG HB.out⟩⟩
       ·
        rw [if_neg c9] at H; have c9b0 : decide (x5_2 < (l0.length : Int)) = false := decide_eq_false c9; clear c9; obtain rfl := Option.some.inj H; go_wp2; repeat (go_quiet (fail); try go_wp2)
        go_ret
        exact ⟨by first | rfl | (simp [errW_none, errW_some] <;> rfl) | (simp [*, errW_none, errW_some] <;> rfl), eG HB.out⟩
def spileref09_Find.l0 : Nat → List (S27) → ByteArray → Int → Option (ByteArray × Int × (List (S46)) × Int × Int)
 | 0, _, _, _ => none
 | k + 1, x0, x1, x7 => if x7 < (x0.length : Int) then (if 0 ≤ x7 then (if ((rd_T27 x0 x7).f0).toList = x1.toList then (if x7 ≤ (wrap64 (x7 + 1)) then (if (wrap64 (x7 + 1)) ≤ (x0.length : Int) then ((spileref09_Copy.f k ((x0.take ((wrap64 (x7 + 1)) : Int).toNat).drop (x7 : Int).toNat)).bind fun t220 => (if 0 < (t220.length : Int) then (some ((rd_T27 t220 0).f0, (rd_T27 t220 0).f1, (rd_T27 t220 0).f2, (rd_T27 t220 0).f3, 0)) else (none))) else (none)) else (none)) else (spileref09_Find.l0 k x0 x1 (wrap64 (x7 + 1)))) else (none)) else (some ((⟨#[]⟩ : ByteArray), 0, ([] : List (S46)), 0, 7))
def spileref09_Find.f (k : Nat) (l0 : List (S27)) (a1 : ByteArray) : Option (ByteArray × Int × (List (S46)) × Int × Int) := (spileref09_List.f k l0).bind fun t214 => (if t214 = 0 then (spileref09_Find.l0 k l0 a1 0) else (some ((⟨#[]⟩ : ByteArray), 0, ([] : List (S46)), 0, t214)))
set_option maxHeartbeats 8000000 in
set_option maxRecDepth 100000 in
theorem spileref09_Find.calls (k : Nat) (A0 : Option Addr) (c0 : Nat) (l0 : List (S27)) (a1 : ByteArray) (r1 : ByteArray) (r2 : Int) (r3 : List (S46)) (r4 : Int) (r5 : Int) (w : World) (hr0 : Kd.C k27 w A0 l0.length l0) (hc0 : l0.length ≤ c0) (h : spileref09_Find.f k l0 a1 = some (r1, r2, r3, r4, r5)) :
  Calls Tryd.prog 14 #[.slice A0 l0.length c0, .string a1] w fun e w' => ∃ v2_ : Value, e = .returned (.tuple #[.agg #[.string r1, .int .i64 r2, v2_, .int .i64 r4], .int .i64 r5]) ∧ Kd.R k46 46 w' w.heap.size (fun _ => True) v2_ r3 ∧ Below w.heap.size w w' := by
 have hu27 := Tryd.underlying27; have HR0 := Aside0.mk hr0; have HC0 := Aside0.mk hc0; clear hr0 hc0; have HB := Aside0.mk (Below.refl w.heap.size w); have H : ((spileref09_List.f k l0).bind fun t214 => (if t214 = 0 then (spileref09_Find.l0 k l0 a1 0) else (some ((⟨#[]⟩ : ByteArray), 0, ([] : List (S46)), 0, t214)))) = some (r1, r2, r3, r4, r5) := h; clear h; replace H := Option.bind_eq_some_iff.mp H; obtain ⟨t214, A30, H⟩ := H; replace H : (if t214 = 0 then (spileref09_Find.l0 k l0 a1 0) else (some ((⟨#[]⟩ : ByteArray), 0, ([] : List (S46)), 0, t214))) = some (r1, r2, r3, r4, r5) := H; have A3 := Aside0.mk A30; clear A30; by_cases c4 : t214 = 0
 ·
  rw [if_pos c4] at H; have c4b0 : (t214 == 0) = true := beq_iff_eq.mpr c4; have c4b1 : (t214 != 0) = false := bne_eq_false_iff_eq.mpr c4; clear c4; have H' := Aside0.mk H; clear H; go_enter Tryd.func14, Tryd.ntmps14
  go_wp2_with (first | ((with_reducible refine gate_dst (N := 4) rfl ?_); refine box_event ?hg (N := 4) ?hd (cs := #[.string (⟨#[]⟩ : ByteArray), .int .i64 0, .slice none 0 0, .int .i64 0]) (t := 27) ?hr ?_; (case hd => rfl); (case hg => rfl); (case hr => first | (go_simp; done) | (go_simp; rfl)); intro gb213 hg w5 hbox hb; have n0_ := Aside0.mk (below_step (eG HB.out) hb); have n1_ := Aside0.mk (hbox); have n2_ := Aside0.mk ((by rw [hg]; exact (below_size (eG HB.out)) : w.heap.size ≤ gb213)); have n3_ := Aside0.mk ((by rw [hg]; exact (below_size (eG HB.out)) : w.heap.size ≤ gb213)); clear HB; have HB := n0_; have BK213 := n1_; have GW213 := n2_; have GE213 := n3_; have ig213_ := geI GE213; clear n0_ n1_ n2_ n3_; clear hb hbox hg) | ((with_reducible refine gate_callee (f := 17) rfl ?_); refine goesL_ (some 9) rfl rfl Tryd.func17 (by kernel_rfl) rfl #[.slice A0 l0.length c0] rfl (by (try simp only [List.map_toArray, List.map_cons, List.map_nil]); first | done | rfl | (simp only [List.length_drop, List.length_take]; rfl)) ?_; (with_reducible refine (spileref09_List.calls k _ _ l0 t214 _ ?side1 ?side2 A3.out).mono ?_); (case side1 => repeat (first | exact (Kd.C_below HR0.out HB.out) | (with_reducible refine Kd.C_alloc ?_ _) | (with_reducible refine Kd.C_drewN ?_ _) | (with_reducible refine Kd.C_drew ?_))); (case side2 => exact HC0.out); rintro e w6 ⟨rfl, hb⟩; refine ⟨_, rfl, ?_⟩; have n0_ := Aside0.mk (blk_below (bG BK213.out) hb); have n1_ := Aside0.mk (below_step (eG HB.out) hb); clear BK213; clear HB; have BK213 := n0_; have HB := n1_; clear n0_ n1_; (try clear hb); (try clear hb2); (try clear hk); (try clear hi)))
  go_loopg [7] k (fun kq v7 w' => ∃ (x7_1 : Int) (x214000_1 : ByteArray) (x214001_1 : Int) (x214003_1 : Int), v7 = .int .i64 x7_1 ∧ Aside0 (spileref09_Find.l0 kq l0 a1 x7_1 = some (r1, r2, r3, r4, r5)) ∧ Aside0 (kq ≤ k) ∧ Aside0 (w'.heap[gb213]? = some (.cells #[.string x214000_1, .int .i64 x214001_1, (.slice none 0 0), .int .i64 x214003_1] 27 (0, 0))) ∧ Aside0 (Below w.heap.size w w'))
  case atStart => exact ⟨(0), ((⟨#[]⟩ : ByteArray)), (0), (0), (by first | rfl | (simp; done) | (simp [*]; done)), H', ⟨Nat.le_refl _⟩, ⟨by (with_reducible repeat first | apply bN | apply bD | apply bA); exact BK213.out⟩, ⟨eG HB.out⟩⟩
  case round =>
   clear H'; try clear c1
   try clear p2
   try clear c4
   try clear c4b0
   try clear c4b1
   obtain ⟨x7_1, x214000_1, x214001_1, x214003_1, rfl, HA, HK1, BK213, HB⟩ := hrel
   cases gk with
   | zero => exact absurd HA.out (by simp [spileref09_Find.l0])
   | succ k1 =>
    have H := HA.out; clear HA; simp only [spileref09_Find.l0] at H; by_cases c7 : x7_1 < (l0.length : Int)
    ·
     rw [if_pos c7] at H; have c7b0 : decide (x7_1 < (l0.length : Int)) = true := decide_eq_true c7; clear c7; by_cases c8 : 0 ≤ x7_1
     ·
      rw [if_pos c8] at H; have c8b0 : decide (0 ≤ x7_1) = true := decide_eq_true c8; clear c8; by_cases c9 : ((rd_T27 l0 x7_1).f0).toList = a1.toList
      ·
       rw [if_pos c9] at H; have c9b0 : (((rd_T27 l0 x7_1).f0).toList == a1.toList) = true := beq_iff_eq.mpr c9; have c9b1 : (((rd_T27 l0 x7_1).f0).toList != a1.toList) = false := bne_eq_false_iff_eq.mpr c9; clear c9; have c10b0 := eq_true (of_decide_eq_true (by first | (with_reducible assumption) | assumption) : 0 ≤ x7_1); by_cases c11 : x7_1 ≤ (wrap64 (x7_1 + 1))
       ·
        rw [if_pos c11] at H; have c11b0 := eq_true c11; have c11b1 : decide (x7_1 ≤ (wrap64 (x7_1 + 1))) = true := decide_eq_true c11; by_cases c12 : (wrap64 (x7_1 + 1)) ≤ (l0.length : Int)
        ·
         rw [if_pos c12] at H; have c12b0 := eq_true c12; have c12b1 : decide ((wrap64 (x7_1 + 1)) ≤ (l0.length : Int)) = true := decide_eq_true c12; obtain ⟨y216, hy216⟩ : ∃ y_ : List (S27), y_ = ((l0.take ((wrap64 (x7_1 + 1)) : Int).toNat).drop (x7_1 : Int).toNat) := ⟨_, rfl⟩; replace H : ((spileref09_Copy.f k1 y216).bind fun t220 => (if 0 < (t220.length : Int) then (some ((rd_T27 t220 0).f0, (rd_T27 t220 0).f1, (rd_T27 t220 0).f2, (rd_T27 t220 0).f3, 0)) else (none))) = some (r1, r2, r3, r4, r5) := by first | (rw [hy216]; with_reducible exact H) | (have H2_ := (Option.bind_some _ _).symm.trans H; rw [hy216]; with_reducible exact H2_) | (have H2_ := (Option.bind_some _ _).symm.trans H; with_reducible exact H2_) | with_reducible exact H | (rw [hy216]; exact H) | exact H
         have Ny216 := Aside0.mk hy216; clear hy216; replace H := Option.bind_eq_some_iff.mp H; obtain ⟨t220, A130, H⟩ := H; replace H : (if 0 < (t220.length : Int) then (some ((rd_T27 t220 0).f0, (rd_T27 t220 0).f1, (rd_T27 t220 0).f2, (rd_T27 t220 0).f3, 0)) else (none)) = some (r1, r2, r3, r4, r5) := H; have A13 := Aside0.mk A130; clear A130; by_cases c14 : 0 < (t220.length : Int)
         ·
          rw [if_pos c14] at H; have c14b0 : decide (0 < (t220.length : Int)) = true := decide_eq_true c14; have c14b1 : decide (0 < t220.length) = true := decide_eq_true (by omega); clear c14; simp only [Option.some.injEq, Prod.mk.injEq] at H; obtain ⟨rfl, rfl, rfl, rfl, rfl⟩ := H; have p215 : 0 ≤ (x7_1 : Int) := of_decide_eq_true (by first | (with_reducible assumption) | assumption); have q215 : x7_1 < (l0.length : Int) := of_decide_eq_true (by first | (with_reducible assumption) | assumption); obtain ⟨ad215, A215_2, c215_2, e215, hx215_0, hx215_1, hx215_2, hx215_3, hl215_2, hi215_2⟩ := at_T27 HR0.out x7_1 p215 q215; cases e215; replace hx215_0 := (HB.out.cell (World.block_lt_of_cell? w _ hx215_0)).trans hx215_0; replace hx215_1 := (HB.out.cell (World.block_lt_of_cell? w _ hx215_1)).trans hx215_1; replace hx215_2 := (HB.out.cell (World.block_lt_of_cell? w _ hx215_2)).trans hx215_2; replace hx215_3 := (HB.out.cell (World.block_lt_of_cell? w _ hx215_3)).trans hx215_3; have HR215_2 := Aside0.mk hi215_2; have HC215_2 := Aside0.mk hl215_2; clear hi215_2 hl215_2; replace p215 := eq_true p215; replace q215 := eq_true q215; have q15 : ((wrap64 (x7_1 + 1)) : Int) ≤ ((l0.length : Int) : Int) := of_decide_eq_true (by first | (with_reducible assumption) | assumption); obtain ⟨i015, hi015, _, hsz15, _⟩ := info_parts info27; have hroom15 : l0.length ≤ c0 := HC0.out; have hC15 : Kd.C k27 _ (some ad215) l0.length l0 := HR0.out; have ql15 : (x7_1 : Int) ≤ ((wrap64 (x7_1 + 1)) : Int) := of_decide_eq_true (by first | (with_reducible assumption) | assumption); have q015 : (0 : Int) ≤ (x7_1 : Int) := of_decide_eq_true (by first | (with_reducible assumption) | assumption); have hcut15 := cut_mid (P := Tryd.prog) 22 27 .i64 .i64 Tryd.underlying22 hi015 4 hsz15 (some ad215) l0.length c0 x7_1 (wrap64 (x7_1 + 1)) q015 ql15 q15 hroom15; have hr15 := Kd.C_mid (lo := (x7_1 : Int).toNat) (hi := ((wrap64 (x7_1 + 1)) : Int).toNat) (c := c0) hC15 (by omega) (by omega) hroom15; obtain ⟨A15, hA15⟩ : ∃ A1, A1 = (if c0 = (x7_1 : Int).toNat then (some ad215) else ((some ad215) : Option Addr).map (·.add ((x7_1 : Int).toNat * 4))) := ⟨_, rfl⟩; obtain ⟨c15, hc15⟩ : ∃ c1, c1 = c0 - (x7_1 : Int).toNat := ⟨_, rfl⟩; have hy15 : y216.length = ((wrap64 (x7_1 + 1)) : Int).toNat - (x7_1 : Int).toNat := (by rw [Ny216.out, List.length_drop, List.length_take] <;> omega); rw [show ((l0).take ((wrap64 (x7_1 + 1)) : Int).toNat).drop (x7_1 : Int).toNat = y216 from Ny216.out.symm] at hr15; replace hr15 : Kd.C k27 _ A15 y216.length y216 := (by rw [hA15]; exact hr15); rw [← hy15, ← hA15, ← hc15] at hcut15; have HR219 := Aside0.mk hr15; have HC219 := Aside0.mk (show y216.length ≤ c15 from by rw [hy15, hc15]; exact Nat.sub_le_sub_right (Nat.le_trans (by omega) hroom15) _); clear hr15 hC15 hroom15 hi015 hsz15 hc15; have KY15 := Aside0.mk hy15; have KA15 := Aside0.mk hA15; clear hy15 hA15; replace q15 := eq_true q15; go_wp2_with (first | ((with_reducible refine gate_callee (f := 13) rfl ?_); refine goesL_ (some 32) rfl rfl Tryd.func13 (by kernel_rfl) rfl #[.slice A15 y216.length c15] rfl (by (try simp only [List.map_toArray, List.map_cons, List.map_nil]); first | done | rfl | (simp only [List.length_drop, List.length_take]; rfl)) ?_; (with_reducible refine (spileref09_Copy.calls k1 _ _ y216 t220 _ ?side1 ?side2 A13.out).mono ?_); (case side1 => repeat (first | exact (Kd.C_below HR219.out HB.out) | (with_reducible refine Kd.C_alloc ?_ _) | (with_reducible refine Kd.C_drewN ?_ _) | (with_reducible refine Kd.C_drew ?_))); (case side2 => exact HC219.out); rintro e w16 ⟨v221, rfl, ho0, hb⟩; refine ⟨_, rfl, ?_⟩; have n0_ := Aside0.mk (Kd.S_lower (Kd.S_newB ho0 (bG BK213.out)) (below_size (eG HB.out))); have n1_ := Aside0.mk (blk_below (bG BK213.out) hb); have n2_ := Aside0.mk (below_step (eG HB.out) hb); clear BK213; clear HB; have HO222 := n0_; have BK213 := n1_; have HB := n2_; clear n0_ n1_ n2_; (try clear hb); (try clear hb2); (try clear hk); (try clear hi); (try clear ho0); obtain ⟨Ao17, co17, eo17⟩ := Kd.S_slice HO222.out; subst eo17; have p223 : 0 ≤ (0 : Int) := (by omega); have q223 : 0 < (t220.length : Int) := of_decide_eq_true (by first | (with_reducible assumption) | assumption); obtain ⟨ad223, A223_2, c223_2, e223, hx223_0, hx223_1, hx223_2, hx223_3, hl223_2, hi223_2⟩ := at_T27 (Kd.S_reads' HO222.out).2.2 0 p223 q223; cases e223; obtain ⟨ce223, hce223, hMe223, hcc223⟩ := Kd.S_get HO222.out z27 0 p223 (by first | exact q223 | exact of_decide_eq_true (by first | (with_reducible assumption) | assumption) | (have e_ := (Kd.S_reads' HO222.out).1; omega)); obtain ⟨ve223_2, rfl, ge223_2⟩ := k27_openM hMe223; have hv223_2 := hcc223 2 _ rfl; rw [add_field _ _ 2 (by omega)] at hv223_2; replace hv223_2 := Option.some.inj (hv223_2.symm.trans hx223_2); rw [hv223_2] at ge223_2; have HL223_2 := Aside0.mk (show Kd.R k46 46 _ _ _ _ ((rd_T27 t220 0).f2) from ge223_2); clear hv223_2 ge223_2; clear hcc223 hce223; have qi223 : (0 < t220.length) = True := eq_true (by omega); (try rw [show ((0 : Int)).toNat = 0 from rfl] at hx223_0); (try rw [show 0 * 4 = 0 from rfl] at hx223_0); (try rw [Addr.add_zero'] at hx223_0); (try rw [show ((0 : Int)).toNat = 0 from rfl] at hx223_1); (try rw [show 0 * 4 = 0 from rfl] at hx223_1); (try rw [Addr.add_zero'] at hx223_1); (try rw [show ((0 : Int)).toNat = 0 from rfl] at hx223_2); (try rw [show 0 * 4 = 0 from rfl] at hx223_2); (try rw [Addr.add_zero'] at hx223_2); (try rw [show ((0 : Int)).toNat = 0 from rfl] at hx223_3); (try rw [show 0 * 4 = 0 from rfl] at hx223_3); (try rw [Addr.add_zero'] at hx223_3); have HR223_2 := Aside0.mk hi223_2; have HC223_2 := Aside0.mk hl223_2; clear hi223_2 hl223_2; replace p223 := eq_true p223; replace q223 := eq_true q223; have hcz18_0 : w16.cell? ⟨gb213, 0, none⟩ = some (.string x214000_1) := (blk_cell BK213.out 0).trans rfl; have hcz18_1 : w16.cell? ⟨gb213, 1, none⟩ = some (.int .i64 x214001_1) := (blk_cell BK213.out 1).trans rfl; have hcz18_2 : w16.cell? ⟨gb213, 2, none⟩ = some (.slice none 0 0) := (blk_cell BK213.out 2).trans rfl; have hcz18_3 : w16.cell? ⟨gb213, 3, none⟩ = some (.int .i64 x214003_1) := (blk_cell BK213.out 3).trans rfl; have hfz18_0 := blk_frozen BK213.out 0; have hfz18_1 := blk_frozen BK213.out 1; have hfz18_2 := blk_frozen BK213.out 2; have hfz18_3 := blk_frozen BK213.out 3))
          refine bodyPost_ret (results_ct rfl _ _ gb213 27 #[.string ((rd_T27 t220 0).f0), .int .i64 ((rd_T27 t220 0).f1), .slice A223_2 ((rd_T27 t220 0).f2).length c223_2, .int .i64 ((rd_T27 t220 0).f3)] (0, 0) _ rfl (by (with_reducible repeat first | apply bN | apply bD | apply bA); refine blk_put (cs := #[.string ((rd_T27 t220 0).f0), .int .i64 ((rd_T27 t220 0).f1), .slice A223_2 ((rd_T27 t220 0).f2).length c223_2, .int .i64 x214003_1]) ?_ 3 _ rfl; (with_reducible repeat first | apply bN | apply bD | apply bA); refine blk_put (cs := #[.string ((rd_T27 t220 0).f0), .int .i64 ((rd_T27 t220 0).f1), .slice none 0 0, .int .i64 x214003_1]) ?_ 2 _ rfl; (with_reducible repeat first | apply bN | apply bD | apply bA); refine blk_put (cs := #[.string ((rd_T27 t220 0).f0), .int .i64 x214001_1, .slice none 0 0, .int .i64 x214003_1]) ?_ 1 _ rfl; (with_reducible repeat first | apply bN | apply bD | apply bA); refine blk_put (cs := #[.string x214000_1, .int .i64 x214001_1, .slice none 0 0, .int .i64 x214003_1]) ?_ 0 _ rfl; (with_reducible repeat first | apply bN | apply bD | apply bA); exact BK213.out) Tryd.underlying27 rfl (by kernel_rfl)) rfl ?_; exact ⟨_, by first | rfl | (simp [errW_none, errW_some] <;> rfl) | (simp [*, errW_none, errW_some] <;> rfl), by (with_reducible repeat (first | apply Kd.R_alloc | apply Kd.R_drewN | apply Kd.R_drew)); exact Kd.R_mono (Kd.R_far (p := ⟨gb213, 3, none⟩) (Kd.R_far (p := ⟨gb213, 2, none⟩) (Kd.R_far (p := ⟨gb213, 1, none⟩) (Kd.R_far (p := ⟨gb213, 0, none⟩) (Kd.R_types HL223_2.out BK213.out (by decide)) (fun _ hk => hk.2) (.string ((rd_T27 t220 0).f0))) (fun _ hk => hk.2) (.int .i64 ((rd_T27 t220 0).f1))) (fun _ hk => hk.2) (.slice A223_2 ((rd_T27 t220 0).f2).length c223_2)) (fun _ hk => hk.2) (.int .i64 ((rd_T27 t220 0).f3))) (fun _ hk => trivial), eG HB.out⟩
         · rw [if_neg c14] at H; exact absurd H (by simp)
        · rw [if_neg c12] at H; exact absurd H (by simp)
       · rw [if_neg c11] at H; exact absurd H (by simp)
      ·
       rw [if_neg c9] at H; have c9b0 : (((rd_T27 l0 x7_1).f0).toList == a1.toList) = false := beq_eq_false_iff_ne.mpr c9; have c9b1 : (((rd_T27 l0 x7_1).f0).toList != a1.toList) = true := bne_iff_ne.mpr c9; have H' := Aside0.mk H; clear H; have p215 : 0 ≤ (x7_1 : Int) := of_decide_eq_true (by first | (with_reducible assumption) | assumption); have q215 : x7_1 < (l0.length : Int) := of_decide_eq_true (by first | (with_reducible assumption) | assumption); obtain ⟨ad215, A215_2, c215_2, e215, hx215_0, hx215_1, hx215_2, hx215_3, hl215_2, hi215_2⟩ := at_T27 HR0.out x7_1 p215 q215; cases e215; replace hx215_0 := (HB.out.cell (World.block_lt_of_cell? w _ hx215_0)).trans hx215_0; replace hx215_1 := (HB.out.cell (World.block_lt_of_cell? w _ hx215_1)).trans hx215_1; replace hx215_2 := (HB.out.cell (World.block_lt_of_cell? w _ hx215_2)).trans hx215_2; replace hx215_3 := (HB.out.cell (World.block_lt_of_cell? w _ hx215_3)).trans hx215_3; have HR215_2 := Aside0.mk hi215_2; have HC215_2 := Aside0.mk hl215_2; clear hi215_2 hl215_2; replace p215 := eq_true p215; replace q215 := eq_true q215; go_wp2; go_roundg k1
       case measure => have := HK1.out; omega
       case rel => exact ⟨(wrap64 (x7_1 + 1)), (x214000_1), (x214001_1), (x214003_1), (by first | rfl | (simp; done) | (simp [*]; done)), H', ⟨by have := HK1.out; omega⟩, ⟨by (with_reducible repeat first | apply bN | apply bD | apply bA); exact BK213.out⟩, ⟨eG HB.out⟩⟩
     · rw [if_neg c8] at H; exact absurd H (by simp)
    · rw [if_neg c7] at H; have c7b0 : decide (x7_1 < (l0.length : Int)) = false := decide_eq_false c7; clear c7; simp only [Option.some.injEq, Prod.mk.injEq] at H; obtain ⟨rfl, rfl, rfl, rfl, rfl⟩ := H; have hcz19_0 : wr.cell? ⟨gb213, 0, none⟩ = some (.string x214000_1) := (blk_cell BK213.out 0).trans rfl; have hcz19_1 : wr.cell? ⟨gb213, 1, none⟩ = some (.int .i64 x214001_1) := (blk_cell BK213.out 1).trans rfl; have hcz19_2 : wr.cell? ⟨gb213, 2, none⟩ = some (.slice none 0 0) := (blk_cell BK213.out 2).trans rfl; have hcz19_3 : wr.cell? ⟨gb213, 3, none⟩ = some (.int .i64 x214003_1) := (blk_cell BK213.out 3).trans rfl; have hfz19_0 := blk_frozen BK213.out 0; have hfz19_1 := blk_frozen BK213.out 1; have hfz19_2 := blk_frozen BK213.out 2; have hfz19_3 := blk_frozen BK213.out 3; go_wp2; refine bodyPost_ret (results_ct rfl _ _ gb213 27 #[.string (⟨#[]⟩ : ByteArray), .int .i64 0, .slice none 0 0, .int .i64 0] (0, 0) _ rfl (by (with_reducible repeat first | apply bN | apply bD | apply bA); refine blk_put (cs := #[.string (⟨#[]⟩ : ByteArray), .int .i64 0, .slice none 0 0, .int .i64 x214003_1]) ?_ 3 _ rfl; (with_reducible repeat first | apply bN | apply bD | apply bA); refine blk_put (cs := #[.string (⟨#[]⟩ : ByteArray), .int .i64 0, .slice none 0 0, .int .i64 x214003_1]) ?_ 2 _ rfl; (with_reducible repeat first | apply bN | apply bD | apply bA); refine blk_put (cs := #[.string (⟨#[]⟩ : ByteArray), .int .i64 x214001_1, .slice none 0 0, .int .i64 x214003_1]) ?_ 1 _ rfl; (with_reducible repeat first | apply bN | apply bD | apply bA); refine blk_put (cs := #[.string x214000_1, .int .i64 x214001_1, .slice none 0 0, .int .i64 x214003_1]) ?_ 0 _ rfl; (with_reducible repeat first | apply bN | apply bD | apply bA); exact BK213.out) Tryd.underlying27 rfl (by kernel_rfl)) rfl ?_; exact ⟨_, by first | rfl | (simp [errW_none, errW_some] <;> rfl) | (simp [*, errW_none, errW_some] <;> rfl), by first | exact Kd.R_nil _ _ _ _ _ | exact Kd.N_nil _ _ _ _ _ | exact Kd.V_nil _ _ _ _ _ | exact Kd.Q_nil _ _ _ _ _ | exact Kd.S_nil _ _ _ _ _, eG HB.out⟩
 ·
  rw [if_neg c4] at H; have c4b0 : (t214 == 0) = false := beq_eq_false_iff_ne.mpr c4; have c4b1 : (t214 != 0) = true := bne_iff_ne.mpr c4; simp only [Option.some.injEq, Prod.mk.injEq] at H; obtain ⟨rfl, rfl, rfl, rfl, rfl⟩ := H; go_enter Tryd.func14, Tryd.ntmps14
  go_wp2_with (first | ((with_reducible refine gate_dst (N := 4) rfl ?_); refine box_event ?hg (N := 4) ?hd (cs := #[.string (⟨#[]⟩ : ByteArray), .int .i64 0, .slice none 0 0, .int .i64 0]) (t := 27) ?hr ?_; (case hd => rfl); (case hg => rfl); (case hr => first | (go_simp; done) | (go_simp; rfl)); intro gb213 hg w20 hbox hb; have n0_ := Aside0.mk (below_step (eG HB.out) hb); have n1_ := Aside0.mk (hbox); have n2_ := Aside0.mk ((by rw [hg]; exact (below_size (eG HB.out)) : w.heap.size ≤ gb213)); have n3_ := Aside0.mk ((by rw [hg]; exact (below_size (eG HB.out)) : w.heap.size ≤ gb213)); clear HB; have HB := n0_; have BK213 := n1_; have GW213 := n2_; have GE213 := n3_; have ig213_ := geI GE213; clear n0_ n1_ n2_ n3_; clear hb hbox hg) | ((with_reducible refine gate_callee (f := 17) rfl ?_); refine goesL_ (some 9) rfl rfl Tryd.func17 (by kernel_rfl) rfl #[.slice A0 l0.length c0] rfl (by (try simp only [List.map_toArray, List.map_cons, List.map_nil]); first | done | rfl | (simp only [List.length_drop, List.length_take]; rfl)) ?_; (with_reducible refine (spileref09_List.calls k _ _ l0 t214 _ ?side1 ?side2 A3.out).mono ?_); (case side1 => repeat (first | exact (Kd.C_below HR0.out HB.out) | (with_reducible refine Kd.C_alloc ?_ _) | (with_reducible refine Kd.C_drewN ?_ _) | (with_reducible refine Kd.C_drew ?_))); (case side2 => exact HC0.out); rintro e w21 ⟨rfl, hb⟩; refine ⟨_, rfl, ?_⟩; have n0_ := Aside0.mk (blk_below (bG BK213.out) hb); have n1_ := Aside0.mk (below_step (eG HB.out) hb); clear BK213; clear HB; have BK213 := n0_; have HB := n1_; clear n0_ n1_; (try clear hb); (try clear hb2); (try clear hk); (try clear hi); have hcz22_0 : w21.cell? ⟨gb213, 0, none⟩ = some (.string (⟨#[]⟩ : ByteArray)) := (blk_cell BK213.out 0).trans rfl; have hcz22_1 : w21.cell? ⟨gb213, 1, none⟩ = some (.int .i64 0) := (blk_cell BK213.out 1).trans rfl; have hcz22_2 : w21.cell? ⟨gb213, 2, none⟩ = some (.slice none 0 0) := (blk_cell BK213.out 2).trans rfl; have hcz22_3 : w21.cell? ⟨gb213, 3, none⟩ = some (.int .i64 0) := (blk_cell BK213.out 3).trans rfl; have hfz22_0 := blk_frozen BK213.out 0; have hfz22_1 := blk_frozen BK213.out 1; have hfz22_2 := blk_frozen BK213.out 2; have hfz22_3 := blk_frozen BK213.out 3))
  refine bodyPost_ret (results_ct rfl _ _ gb213 27 #[.string (⟨#[]⟩ : ByteArray), .int .i64 0, .slice none 0 0, .int .i64 0] (0, 0) _ rfl (by (with_reducible repeat first | apply bN | apply bD | apply bA); refine blk_put (cs := #[.string (⟨#[]⟩ : ByteArray), .int .i64 0, .slice none 0 0, .int .i64 0]) ?_ 3 _ rfl; (with_reducible repeat first | apply bN | apply bD | apply bA); refine blk_put (cs := #[.string (⟨#[]⟩ : ByteArray), .int .i64 0, .slice none 0 0, .int .i64 0]) ?_ 2 _ rfl; (with_reducible repeat first | apply bN | apply bD | apply bA); refine blk_put (cs := #[.string (⟨#[]⟩ : ByteArray), .int .i64 0, .slice none 0 0, .int .i64 0]) ?_ 1 _ rfl; (with_reducible repeat first | apply bN | apply bD | apply bA); refine blk_put (cs := #[.string (⟨#[]⟩ : ByteArray), .int .i64 0, .slice none 0 0, .int .i64 0]) ?_ 0 _ rfl; (with_reducible repeat first | apply bN | apply bD | apply bA); exact BK213.out) Tryd.underlying27 rfl (by kernel_rfl)) rfl ?_; exact ⟨_, by first | rfl | (simp [errW_none, errW_some] <;> rfl) | (simp [*, errW_none, errW_some] <;> rfl), by first | exact Kd.R_nil _ _ _ _ _ | exact Kd.N_nil _ _ _ _ _ | exact Kd.V_nil _ _ _ _ _ | exact Kd.Q_nil _ _ _ _ _ | exact Kd.S_nil _ _ _ _ _, eG HB.out⟩
end Go.Proofs.YtnhmlneebnkjcaaDoor.Pr
namespace Go.Proofs.YtnhmlneebnkjcaaDoor.Pr
open Go.RowKit Go.Proofs.YtnhmlneebnkjcaaDoorW.PrintWords Go.Proofs.YtnhmlneebnkjcaaDoorW.PrintLast Go.Proofs.YtnhmlneebnkjcaaDoorW.PrintMore Go.Proofs.YtnhmlneebnkjcaaDoor.X
attribute [local go_sem] max2_int min2_int max_two min_two max_three min_three max_four min_four   -- for this text's walks alone
set_option linter.unusedVariables false
set_option linter.unusedSimpArgs false
def spileref08_Bung.l0 : Nat → List (S46) → Int → Int → Option (Int × Int)
 | 0, _, _, _ => none
 | k + 1, x0, x5, x6 => if x6 < (x0.length : Int) then (if 0 ≤ x6 then (if 0 ≤ x5 then (if x5 < (x0.length : Int) then (if ((rd_T46 x0 x6).f1) > ((rd_T46 x0 x5).f1) then (spileref08_Bung.l0 k x0 x6 (wrap64 (x6 + 1))) else (spileref08_Bung.l0 k x0 x5 (wrap64 (x6 + 1)))) else (none)) else (none)) else (none)) else (some (x5, 0))
def spileref08_Bung.f (k : Nat) (l0 : List (S46)) : Option (Int × Int) := (spileref08_Check.f k l0).bind fun t224 => (if t224 = 0 then (spileref08_Bung.l0 k l0 0 0) else (some (0, t224)))
set_option maxHeartbeats 8000000 in
set_option maxRecDepth 100000 in
theorem spileref08_Bung.calls (k : Nat) (A0 : Option Addr) (c0 : Nat) (l0 : List (S46)) (r1 : Int) (r2 : Int) (w : World) (hr0 : Kd.C k46 w A0 l0.length l0) (hc0 : l0.length ≤ c0) (h : spileref08_Bung.f k l0 = some (r1, r2)) :
  Calls Tryd.prog 54 #[.slice A0 l0.length c0] w fun e w' => e = .returned (.tuple #[.int .i64 r1, .int .i64 r2]) ∧ Drawn0 w w' := by
 have HR0 := Aside0.mk hr0; have HC0 := Aside0.mk hc0; clear hr0 hc0; have H : ((spileref08_Check.f k l0).bind fun t224 => (if t224 = 0 then (spileref08_Bung.l0 k l0 0 0) else (some (0, t224)))) = some (r1, r2) := h; clear h; replace H := Option.bind_eq_some_iff.mp H; obtain ⟨t224, A20, H⟩ := H; replace H : (if t224 = 0 then (spileref08_Bung.l0 k l0 0 0) else (some (0, t224))) = some (r1, r2) := H; have A2 := Aside0.mk A20; clear A20; by_cases c3 : t224 = 0
 ·
  rw [if_pos c3] at H; have c3b0 : (t224 == 0) = true := beq_iff_eq.mpr c3; have c3b1 : (t224 != 0) = false := bne_eq_false_iff_eq.mpr c3; clear c3; have H' := Aside0.mk H; clear H; go_enter Tryd.func54, Tryd.ntmps54
  go_wp2_with (first | (go_at_call 41; (with_reducible refine (spileref08_Check.calls k _ _ l0 t224 _ ?side1 ?side2 A2.out).mono ?_); (case side1 => repeat (first | exact HR0.out | (with_reducible refine Kd.C_alloc ?_ _) | (with_reducible refine Kd.C_drewN ?_ _) | (with_reducible refine Kd.C_drew ?_))); (case side2 => exact HC0.out); rintro e w' ⟨rfl, ⟨nd, rfl⟩⟩; (try first | exact ⟨rfl, _, World.drewN_drewN _ _ _⟩ | exact ⟨rfl, _, Eq.trans (World.drewN_drewN _ _ _) (congrArg (World.drewN _) (Nat.add_assoc _ _ _))⟩)))
  repeat (go_quiet (first | (go_at_call 41; (with_reducible refine (spileref08_Check.calls k _ _ l0 t224 _ ?side1 ?side2 A2.out).mono ?_); (case side1 => repeat (first | exact HR0.out | (with_reducible refine Kd.C_alloc ?_ _) | (with_reducible refine Kd.C_drewN ?_ _) | (with_reducible refine Kd.C_drew ?_))); (case side2 => exact HC0.out); rintro e w' ⟨rfl, ⟨nd, rfl⟩⟩; (try first | exact ⟨rfl, _, World.drewN_drewN _ _ _⟩ | exact ⟨rfl, _, Eq.trans (World.drewN_drewN _ _ _) (congrArg (World.drewN _) (Nat.add_assoc _ _ _))⟩))); try go_wp2_with (first | (go_at_call 41; (with_reducible refine (spileref08_Check.calls k _ _ l0 t224 _ ?side1 ?side2 A2.out).mono ?_); (case side1 => repeat (first | exact HR0.out | (with_reducible refine Kd.C_alloc ?_ _) | (with_reducible refine Kd.C_drewN ?_ _) | (with_reducible refine Kd.C_drew ?_))); (case side2 => exact HC0.out); rintro e w' ⟨rfl, ⟨nd, rfl⟩⟩; (try first | exact ⟨rfl, _, World.drewN_drewN _ _ _⟩ | exact ⟨rfl, _, Eq.trans (World.drewN_drewN _ _ _) (congrArg (World.drewN _) (Nat.add_assoc _ _ _))⟩))))
  go_loopg [5, 6] k (fun kq v5 v6 w' => ∃ (x5_1 : Int) (x6_1 : Int), v5 = .int .i64 x5_1 ∧ v6 = .int .i64 x6_1 ∧ Aside0 (spileref08_Bung.l0 kq l0 x5_1 x6_1 = some (r1, r2)) ∧ Aside0 (kq ≤ k) ∧ Drawn0 w w')
  case atStart => exact ⟨(0), (0), (by first | rfl | (simp; done) | (simp [*]; done)), (by first | rfl | (simp; done) | (simp [*]; done)), H', ⟨Nat.le_refl _⟩, by repeat (first | exact Drawn0.refl _ | apply Drawn0.step)⟩
  case round =>
   clear H'; try clear p2
   try clear c3
   try clear c3b0
   try clear c3b1
   obtain ⟨x5_1, x6_1, rfl, rfl, HA, HK1, ⟨m1, rfl⟩⟩ := hrel
   cases gk with
   | zero => exact absurd HA.out (by simp [spileref08_Bung.l0])
   | succ k1 =>
    have H := HA.out; clear HA; simp only [spileref08_Bung.l0] at H; by_cases c4 : x6_1 < (l0.length : Int)
    ·
     rw [if_pos c4] at H; have c4b0 : decide (x6_1 < (l0.length : Int)) = true := decide_eq_true c4; clear c4; by_cases c5 : 0 ≤ x6_1
     ·
      rw [if_pos c5] at H; have c5b0 : decide (0 ≤ x6_1) = true := decide_eq_true c5; clear c5; by_cases c6 : 0 ≤ x5_1
      ·
       rw [if_pos c6] at H; have c6b0 : decide (0 ≤ x5_1) = true := decide_eq_true c6; clear c6; by_cases c7 : x5_1 < (l0.length : Int)
       ·
        rw [if_pos c7] at H; have c7b0 : decide (x5_1 < (l0.length : Int)) = true := decide_eq_true c7; clear c7; by_cases c8 : ((rd_T46 l0 x6_1).f1) > ((rd_T46 l0 x5_1).f1)
        ·
         rw [if_pos c8] at H; have c8b0 : decide (((rd_T46 l0 x5_1).f1) < ((rd_T46 l0 x6_1).f1)) = true := decide_eq_true c8; clear c8; have H' := Aside0.mk H; clear H; have p225 : 0 ≤ (x6_1 : Int) := of_decide_eq_true (by first | (with_reducible assumption) | assumption); have q225 : x6_1 < (l0.length : Int) := of_decide_eq_true (by first | (with_reducible assumption) | assumption); obtain ⟨ad225, e225, hx225_0, hx225_1⟩ := at_T46 HR0.out x6_1 p225 q225; cases e225; replace p225 := eq_true p225; replace q225 := eq_true q225; have p226 : 0 ≤ (x5_1 : Int) := of_decide_eq_true (by first | (with_reducible assumption) | assumption); have q226 : x5_1 < (l0.length : Int) := of_decide_eq_true (by first | (with_reducible assumption) | assumption); obtain ⟨ad226, e226, hx226_0, hx226_1⟩ := at_T46 HR0.out x5_1 p226 q226; obtain rfl : ad225 = ad226 := (by injection e226); replace p226 := eq_true p226; replace q226 := eq_true q226; go_wp2; repeat (go_quiet (fail); try go_wp2)
         go_roundg k1
         case measure => have := HK1.out; omega
         case rel => exact ⟨(x6_1), (wrap64 (x6_1 + 1)), (by first | rfl | (simp; done) | (simp [*]; done)), (by first | rfl | (simp; done) | (simp [*]; done)), H', ⟨by have := HK1.out; omega⟩, by repeat (first | exact Drawn0.refl _ | apply Drawn0.step)⟩
        ·
         rw [if_neg c8] at H; have c8b0 : decide (((rd_T46 l0 x5_1).f1) < ((rd_T46 l0 x6_1).f1)) = false := decide_eq_false c8; clear c8; have H' := Aside0.mk H; clear H; have p225 : 0 ≤ (x6_1 : Int) := of_decide_eq_true (by first | (with_reducible assumption) | assumption); have q225 : x6_1 < (l0.length : Int) := of_decide_eq_true (by first | (with_reducible assumption) | assumption); obtain ⟨ad225, e225, hx225_0, hx225_1⟩ := at_T46 HR0.out x6_1 p225 q225; cases e225; replace p225 := eq_true p225; replace q225 := eq_true q225; have p226 : 0 ≤ (x5_1 : Int) := of_decide_eq_true (by first | (with_reducible assumption) | assumption); have q226 : x5_1 < (l0.length : Int) := of_decide_eq_true (by first | (with_reducible assumption) | assumption); obtain ⟨ad226, e226, hx226_0, hx226_1⟩ := at_T46 HR0.out x5_1 p226 q226; obtain rfl : ad225 = ad226 := (by injection e226); replace p226 := eq_true p226; replace q226 := eq_true q226; go_wp2; repeat (go_quiet (fail); try go_wp2)
         go_roundg k1
         case measure => have := HK1.out; omega
         case rel => exact ⟨(x5_1), (wrap64 (x6_1 + 1)), (by first | rfl | (simp; done) | (simp [*]; done)), (by first | rfl | (simp; done) | (simp [*]; done)), H', ⟨by have := HK1.out; omega⟩, by repeat (first | exact Drawn0.refl _ | apply Drawn0.step)⟩
       · rw [if_neg c7] at H; exact absurd H (by simp)
      · rw [if_neg c6] at H; exact absurd H (by simp)
     · rw [if_neg c5] at H; exact absurd H (by simp)
    ·
     rw [if_neg c4] at H; have c4b0 : decide (x6_1 < (l0.length : Int)) = false := decide_eq_false c4; clear c4; simp only [Option.some.injEq, Prod.mk.injEq] at H; obtain ⟨rfl, rfl⟩ := H; go_wp2; repeat (go_quiet (fail); try go_wp2)
     go_ret2
     exact ⟨by first | rfl | (simp; done) | (simp [*]; done), by repeat (first | exact Drawn0.refl _ | apply Drawn0.step)⟩
 ·
  rw [if_neg c3] at H; have c3b0 : (t224 == 0) = false := beq_eq_false_iff_ne.mpr c3; have c3b1 : (t224 != 0) = true := bne_iff_ne.mpr c3; simp only [Option.some.injEq, Prod.mk.injEq] at H; obtain ⟨rfl, rfl⟩ := H; go_enter Tryd.func54, Tryd.ntmps54
  go_wp2_with (first | (go_at_call 41; (with_reducible refine (spileref08_Check.calls k _ _ l0 t224 _ ?side1 ?side2 A2.out).mono ?_); (case side1 => repeat (first | exact HR0.out | (with_reducible refine Kd.C_alloc ?_ _) | (with_reducible refine Kd.C_drewN ?_ _) | (with_reducible refine Kd.C_drew ?_))); (case side2 => exact HC0.out); rintro e w' ⟨rfl, ⟨nd, rfl⟩⟩; (try first | exact ⟨rfl, _, World.drewN_drewN _ _ _⟩ | exact ⟨rfl, _, Eq.trans (World.drewN_drewN _ _ _) (congrArg (World.drewN _) (Nat.add_assoc _ _ _))⟩)))
  repeat (go_quiet (first | (go_at_call 41; (with_reducible refine (spileref08_Check.calls k _ _ l0 t224 _ ?side1 ?side2 A2.out).mono ?_); (case side1 => repeat (first | exact HR0.out | (with_reducible refine Kd.C_alloc ?_ _) | (with_reducible refine Kd.C_drewN ?_ _) | (with_reducible refine Kd.C_drew ?_))); (case side2 => exact HC0.out); rintro e w' ⟨rfl, ⟨nd, rfl⟩⟩; (try first | exact ⟨rfl, _, World.drewN_drewN _ _ _⟩ | exact ⟨rfl, _, Eq.trans (World.drewN_drewN _ _ _) (congrArg (World.drewN _) (Nat.add_assoc _ _ _))⟩))); try go_wp2_with (first | (go_at_call 41; (with_reducible refine (spileref08_Check.calls k _ _ l0 t224 _ ?side1 ?side2 A2.out).mono ?_); (case side1 => repeat (first | exact HR0.out | (with_reducible refine Kd.C_alloc ?_ _) | (with_reducible refine Kd.C_drewN ?_ _) | (with_reducible refine Kd.C_drew ?_))); (case side2 => exact HC0.out); rintro e w' ⟨rfl, ⟨nd, rfl⟩⟩; (try first | exact ⟨rfl, _, World.drewN_drewN _ _ _⟩ | exact ⟨rfl, _, Eq.trans (World.drewN_drewN _ _ _) (congrArg (World.drewN _) (Nat.add_assoc _ _ _))⟩))))
  go_ret2
  exact ⟨by first | rfl | (simp; done) | (simp [*]; done), by repeat (first | exact Drawn0.refl _ | apply Drawn0.step)⟩
def spileref09_Radius.f (k : Nat) (a0_0 : ByteArray) (a0_1 : Int) (l0_2 : List (S46)) (a0_3 : Int) : Option (Int) := (spileref08_Bung.f k l0_2).bind fun bt228 => (if 0 ≤ bt228.1 then (if bt228.1 < (l0_2.length : Int) then (some ((rd_T46 l0_2 bt228.1).f1)) else (none)) else (none))
set_option maxHeartbeats 8000000 in
set_option maxRecDepth 100000 in
theorem spileref09_Radius.calls (k : Nat) (a0_0 : ByteArray) (a0_1 : Int) (A0_2 : Option Addr) (c0_2 : Nat) (l0_2 : List (S46)) (a0_3 : Int) (r : Int) (w : World) (hr0_2 : Kd.C k46 w A0_2 l0_2.length l0_2) (hc0_2 : l0_2.length ≤ c0_2) (h : spileref09_Radius.f k a0_0 a0_1 l0_2 a0_3 = some r) :
  Calls Tryd.prog 37 #[.agg #[.string a0_0, .int .i64 a0_1, .slice A0_2 l0_2.length c0_2, .int .i64 a0_3]] w fun e w' => e = .returned (.int .i64 r) ∧ Below w.heap.size w w' := by
 have hu27 := Tryd.underlying27; have HR0_2 := Aside0.mk hr0_2; have HC0_2 := Aside0.mk hc0_2; clear hr0_2 hc0_2; have HB := Aside0.mk (Below.refl w.heap.size w); have H : ((spileref08_Bung.f k l0_2).bind fun bt228 => (if 0 ≤ bt228.1 then (if bt228.1 < (l0_2.length : Int) then (some ((rd_T46 l0_2 bt228.1).f1)) else (none)) else (none))) = some r := h; clear h; replace H := Option.bind_eq_some_iff.mp H; obtain ⟨⟨t228, t229⟩, A20, H⟩ := H; replace H : (if 0 ≤ t228 then (if t228 < (l0_2.length : Int) then (some ((rd_T46 l0_2 t228).f1)) else (none)) else (none)) = some r := H; have A2 := Aside0.mk A20; clear A20; by_cases c3 : 0 ≤ t228
 ·
  rw [if_pos c3] at H; have c3b0 : decide (0 ≤ t228) = true := decide_eq_true c3; clear c3; by_cases c4 : t228 < (l0_2.length : Int)
  ·
   rw [if_pos c4] at H; have c4b0 : decide (t228 < (l0_2.length : Int)) = true := decide_eq_true c4; clear c4; obtain rfl := Option.some.inj H; go_enter Tryd.func37, Tryd.ntmps37
   go_wp2_with (first | ((with_reducible refine gate_dst (N := 1) rfl ?_); refine box_event ?hg (N := 1) ?hd (cs := #[.string a0_0, .int .i64 a0_1, .slice A0_2 l0_2.length c0_2, .int .i64 a0_3]) (t := 27) ?hr ?_; (case hd => rfl); (case hg => rfl); (case hr => first | (go_simp; done) | (go_simp; rfl)); intro gb227 hg w5 hbox hb; have n0_ := Aside0.mk (below_step (eG HB.out) hb); have n1_ := Aside0.mk (hbox); have n2_ := Aside0.mk ((by rw [hg]; exact (below_size (eG HB.out)) : w.heap.size ≤ gb227)); have n3_ := Aside0.mk ((by rw [hg]; exact (below_size (eG HB.out)) : w.heap.size ≤ gb227)); clear HB; have HB := n0_; have BK227 := n1_; have GW227 := n2_; have GE227 := n3_; have ig227_ := geI GE227; clear n0_ n1_ n2_ n3_; clear hb hbox hg; have hcz6_0 : w5.cell? ⟨gb227, 0, none⟩ = some (.string a0_0) := (blk_cell BK227.out 0).trans rfl; have hcz6_1 : w5.cell? ⟨gb227, 1, none⟩ = some (.int .i64 a0_1) := (blk_cell BK227.out 1).trans rfl; have hcz6_2 : w5.cell? ⟨gb227, 2, none⟩ = some (.slice A0_2 l0_2.length c0_2) := (blk_cell BK227.out 2).trans rfl; have hcz6_3 : w5.cell? ⟨gb227, 3, none⟩ = some (.int .i64 a0_3) := (blk_cell BK227.out 3).trans rfl; have hfz6_0 := blk_frozen BK227.out 0; have hfz6_1 := blk_frozen BK227.out 1; have hfz6_2 := blk_frozen BK227.out 2; have hfz6_3 := blk_frozen BK227.out 3) | ((with_reducible refine gate_callee (f := 54) rfl ?_); refine goesL_ (some 8) rfl rfl Tryd.func54 (by kernel_rfl) rfl #[.slice A0_2 l0_2.length c0_2] rfl (by (try simp only [List.map_toArray, List.map_cons, List.map_nil]); first | done | rfl | (simp only [List.length_drop, List.length_take]; rfl)) ?_; (with_reducible refine (spileref08_Bung.calls k _ _ l0_2 t228 t229 _ ?side1 ?side2 A2.out).mono ?_); (case side1 => repeat (first | exact (Kd.C_below HR0_2.out HB.out) | (with_reducible refine Kd.C_alloc ?_ _) | (with_reducible refine Kd.C_drewN ?_ _) | (with_reducible refine Kd.C_drew ?_))); (case side2 => exact HC0_2.out); rintro e w' ⟨rfl, ⟨nd, rfl⟩⟩; refine ⟨_, rfl, ?_⟩; have p230 : 0 ≤ (t228 : Int) := of_decide_eq_true (by first | (with_reducible assumption) | assumption); have q230 : t228 < (l0_2.length : Int) := of_decide_eq_true (by first | (with_reducible assumption) | assumption); obtain ⟨ad230, e230, hx230_0, hx230_1⟩ := at_T46 HR0_2.out t228 p230 q230; cases e230; replace hx230_0 := (HB.out.cell (World.block_lt_of_cell? w _ hx230_0)).trans hx230_0; replace hx230_1 := (HB.out.cell (World.block_lt_of_cell? w _ hx230_1)).trans hx230_1; replace p230 := eq_true p230; replace q230 := eq_true q230))
   go_ret
   exact ⟨by first | rfl | (simp [errW_none, errW_some] <;> rfl) | (simp [*, errW_none, errW_some] <;> rfl), eG HB.out⟩
  · rw [if_neg c4] at H; exact absurd H (by simp)
 · rw [if_neg c3] at H; exact absurd H (by simp)
def spileref09_Depth.f (k : Nat) (a0_0 : ByteArray) (a0_1 : Int) (l0_2 : List (S46)) (a0_3 : Int) : Option (Int × Int) := (spileref09_Check.f k a0_0 a0_1 l0_2 a0_3).bind fun t232 => (if t232 = 0 then (if a0_1 = 1 then ((spileref09_Radius.f k a0_0 a0_1 l0_2 a0_3).bind fun t233 => (some (wrap64 (2 * t233), 0))) else (if 0 ≤ (wrap64 ((l0_2.length : Int) - 1)) then (if (wrap64 ((l0_2.length : Int) - 1)) < (l0_2.length : Int) then (some ((rd_T46 l0_2 (wrap64 ((l0_2.length : Int) - 1))).f0, 0)) else (none)) else (none))) else (some (0, t232)))
set_option maxHeartbeats 8000000 in
set_option maxRecDepth 100000 in
theorem spileref09_Depth.calls (k : Nat) (a0_0 : ByteArray) (a0_1 : Int) (A0_2 : Option Addr) (c0_2 : Nat) (l0_2 : List (S46)) (a0_3 : Int) (r1 : Int) (r2 : Int) (w : World) (hr0_2 : Kd.C k46 w A0_2 l0_2.length l0_2) (hc0_2 : l0_2.length ≤ c0_2) (h : spileref09_Depth.f k a0_0 a0_1 l0_2 a0_3 = some (r1, r2)) :
  Calls Tryd.prog 19 #[.agg #[.string a0_0, .int .i64 a0_1, .slice A0_2 l0_2.length c0_2, .int .i64 a0_3]] w fun e w' => e = .returned (.tuple #[.int .i64 r1, .int .i64 r2]) ∧ Below w.heap.size w w' := by
 have hu27 := Tryd.underlying27; have HR0_2 := Aside0.mk hr0_2; have HC0_2 := Aside0.mk hc0_2; clear hr0_2 hc0_2; have HB := Aside0.mk (Below.refl w.heap.size w); have H : ((spileref09_Check.f k a0_0 a0_1 l0_2 a0_3).bind fun t232 => (if t232 = 0 then (if a0_1 = 1 then ((spileref09_Radius.f k a0_0 a0_1 l0_2 a0_3).bind fun t233 => (some (wrap64 (2 * t233), 0))) else (if 0 ≤ (wrap64 ((l0_2.length : Int) - 1)) then (if (wrap64 ((l0_2.length : Int) - 1)) < (l0_2.length : Int) then (some ((rd_T46 l0_2 (wrap64 ((l0_2.length : Int) - 1))).f0, 0)) else (none)) else (none))) else (some (0, t232)))) = some (r1, r2) := h; clear h; replace H := Option.bind_eq_some_iff.mp H; obtain ⟨t232, A20, H⟩ := H; replace H : (if t232 = 0 then (if a0_1 = 1 then ((spileref09_Radius.f k a0_0 a0_1 l0_2 a0_3).bind fun t233 => (some (wrap64 (2 * t233), 0))) else (if 0 ≤ (wrap64 ((l0_2.length : Int) - 1)) then (if (wrap64 ((l0_2.length : Int) - 1)) < (l0_2.length : Int) then (some ((rd_T46 l0_2 (wrap64 ((l0_2.length : Int) - 1))).f0, 0)) else (none)) else (none))) else (some (0, t232))) = some (r1, r2) := H; have A2 := Aside0.mk A20; clear A20; by_cases c3 : t232 = 0
 ·
  rw [if_pos c3] at H; have c3b0 : (t232 == 0) = true := beq_iff_eq.mpr c3; have c3b1 : (t232 != 0) = false := bne_eq_false_iff_eq.mpr c3; clear c3; by_cases c4 : a0_1 = 1
  ·
   rw [if_pos c4] at H; have c4b0 : (a0_1 == 1) = true := beq_iff_eq.mpr c4; have c4b1 : (a0_1 != 1) = false := bne_eq_false_iff_eq.mpr c4; clear c4; replace H := Option.bind_eq_some_iff.mp H; obtain ⟨t233, A50, H⟩ := H; replace H : (some (wrap64 (2 * t233), 0)) = some (r1, r2) := H; have A5 := Aside0.mk A50; clear A50; simp only [Option.some.injEq, Prod.mk.injEq] at H; obtain ⟨rfl, rfl⟩ := H; go_enter Tryd.func19, Tryd.ntmps19
   go_wp2_with (first | ((with_reducible refine gate_dst (N := 1) rfl ?_); refine box_event ?hg (N := 1) ?hd (cs := #[.string a0_0, .int .i64 a0_1, .slice A0_2 l0_2.length c0_2, .int .i64 a0_3]) (t := 27) ?hr ?_; (case hd => rfl); (case hg => rfl); (case hr => first | (go_simp; done) | (go_simp; rfl)); intro gb231 hg w6 hbox hb; have n0_ := Aside0.mk (below_step (eG HB.out) hb); have n1_ := Aside0.mk (hbox); have n2_ := Aside0.mk ((by rw [hg]; exact (below_size (eG HB.out)) : w.heap.size ≤ gb231)); have n3_ := Aside0.mk ((by rw [hg]; exact (below_size (eG HB.out)) : w.heap.size ≤ gb231)); clear HB; have HB := n0_; have BK231 := n1_; have GW231 := n2_; have GE231 := n3_; have ig231_ := geI GE231; clear n0_ n1_ n2_ n3_; clear hb hbox hg; have hcz7_0 : w6.cell? ⟨gb231, 0, none⟩ = some (.string a0_0) := (blk_cell BK231.out 0).trans rfl; have hcz7_1 : w6.cell? ⟨gb231, 1, none⟩ = some (.int .i64 a0_1) := (blk_cell BK231.out 1).trans rfl; have hcz7_2 : w6.cell? ⟨gb231, 2, none⟩ = some (.slice A0_2 l0_2.length c0_2) := (blk_cell BK231.out 2).trans rfl; have hcz7_3 : w6.cell? ⟨gb231, 3, none⟩ = some (.int .i64 a0_3) := (blk_cell BK231.out 3).trans rfl; have hfz7_0 := blk_frozen BK231.out 0; have hfz7_1 := blk_frozen BK231.out 1; have hfz7_2 := blk_frozen BK231.out 2; have hfz7_3 := blk_frozen BK231.out 3) | ((with_reducible refine gate_callee (f := 21) rfl ?_); refine goesL_ (some 6) rfl rfl Tryd.func21 (by kernel_rfl) rfl #[.agg #[.string a0_0, .int .i64 a0_1, .slice A0_2 l0_2.length c0_2, .int .i64 a0_3]] rfl (by (try simp only [List.map_toArray, List.map_cons, List.map_nil]); first | done | rfl | (simp only [List.length_drop, List.length_take]; rfl)) ?_; (with_reducible refine (spileref09_Check.calls k a0_0 a0_1 _ _ l0_2 a0_3 t232 _ ?side1 ?side2 A2.out).mono ?_); (case side1 => repeat (first | exact (Kd.C_below HR0_2.out HB.out) | (with_reducible refine Kd.C_alloc ?_ _) | (with_reducible refine Kd.C_drewN ?_ _) | (with_reducible refine Kd.C_drew ?_))); (case side2 => exact HC0_2.out); rintro e w8 ⟨rfl, hb⟩; refine ⟨_, rfl, ?_⟩; have n0_ := Aside0.mk (blk_below (bG BK231.out) hb); have n1_ := Aside0.mk (below_step (eG HB.out) hb); clear BK231; clear HB; have BK231 := n0_; have HB := n1_; clear n0_ n1_; (try clear hb); (try clear hb2); (try clear hk); (try clear hi); have hcz9_0 : w8.cell? ⟨gb231, 0, none⟩ = some (.string a0_0) := (blk_cell BK231.out 0).trans rfl; have hcz9_1 : w8.cell? ⟨gb231, 1, none⟩ = some (.int .i64 a0_1) := (blk_cell BK231.out 1).trans rfl; have hcz9_2 : w8.cell? ⟨gb231, 2, none⟩ = some (.slice A0_2 l0_2.length c0_2) := (blk_cell BK231.out 2).trans rfl; have hcz9_3 : w8.cell? ⟨gb231, 3, none⟩ = some (.int .i64 a0_3) := (blk_cell BK231.out 3).trans rfl; have hfz9_0 := blk_frozen BK231.out 0; have hfz9_1 := blk_frozen BK231.out 1; have hfz9_2 := blk_frozen BK231.out 2; have hfz9_3 := blk_frozen BK231.out 3) | ((with_reducible refine gate_callee (f := 37) rfl ?_); refine goesL_ (some 14) rfl rfl Tryd.func37 (by kernel_rfl) rfl #[.agg #[.string a0_0, .int .i64 a0_1, .slice A0_2 l0_2.length c0_2, .int .i64 a0_3]] rfl (by (try simp only [List.map_toArray, List.map_cons, List.map_nil]); first | done | rfl | (simp only [List.length_drop, List.length_take]; rfl)) ?_; (with_reducible refine (spileref09_Radius.calls k a0_0 a0_1 _ _ l0_2 a0_3 t233 _ ?side1 ?side2 A5.out).mono ?_); (case side1 => repeat (first | exact (Kd.C_below HR0_2.out HB.out) | (with_reducible refine Kd.C_alloc ?_ _) | (with_reducible refine Kd.C_drewN ?_ _) | (with_reducible refine Kd.C_drew ?_))); (case side2 => exact HC0_2.out); rintro e w10 ⟨rfl, hb⟩; refine ⟨_, rfl, ?_⟩; have n0_ := Aside0.mk (blk_below (bG BK231.out) hb); have n1_ := Aside0.mk (below_step (eG HB.out) hb); clear BK231; clear HB; have BK231 := n0_; have HB := n1_; clear n0_ n1_; (try clear hb); (try clear hb2); (try clear hk); (try clear hi)))
   go_ret2
   exact ⟨by first | rfl | (simp [errW_none, errW_some] <;> rfl) | (simp [*, errW_none, errW_some] <;> rfl), eG HB.out⟩
  ·
   rw [if_neg c4] at H; have c4b0 : (a0_1 == 1) = false := beq_eq_false_iff_ne.mpr c4; have c4b1 : (a0_1 != 1) = true := bne_iff_ne.mpr c4; obtain ⟨ji11, hji11⟩ : ∃ j_ : Int, (wrap64 ((l0_2.length : Int) - 1)) = j_ := ⟨_, rfl⟩; replace H : (if 0 ≤ (ji11) then (if (ji11) < (l0_2.length : Int) then (some ((rd_T46 l0_2 (ji11)).f0, 0)) else (none)) else (none)) = some (r1, r2) := by first | (rw [hji11] at H; exact H) | (simp only [hji11] at H ⊢; exact H)
   (try rw [hji11] at A2)
   have hji11w : (IntKind.i64.wrap ((l0_2.length : Int) - 1)) = ji11 := (i64_w _).trans hji11; by_cases c12 : 0 ≤ (ji11)
   ·
    rw [if_pos c12] at H; have c12b0 : decide (0 ≤ (ji11)) = true := decide_eq_true c12; clear c12; by_cases c13 : (ji11) < (l0_2.length : Int)
    ·
     rw [if_pos c13] at H; have c13b0 : decide ((ji11) < (l0_2.length : Int)) = true := decide_eq_true c13; clear c13; simp only [Option.some.injEq, Prod.mk.injEq] at H; obtain ⟨rfl, rfl⟩ := H; go_enter Tryd.func19, Tryd.ntmps19
     go_wp2_with (first | ((with_reducible refine gate_dst (N := 1) rfl ?_); refine box_event ?hg (N := 1) ?hd (cs := #[.string a0_0, .int .i64 a0_1, .slice A0_2 l0_2.length c0_2, .int .i64 a0_3]) (t := 27) ?hr ?_; (case hd => rfl); (case hg => rfl); (case hr => first | (go_simp; done) | (go_simp; rfl)); intro gb231 hg w14 hbox hb; have n0_ := Aside0.mk (below_step (eG HB.out) hb); have n1_ := Aside0.mk (hbox); have n2_ := Aside0.mk ((by rw [hg]; exact (below_size (eG HB.out)) : w.heap.size ≤ gb231)); have n3_ := Aside0.mk ((by rw [hg]; exact (below_size (eG HB.out)) : w.heap.size ≤ gb231)); clear HB; have HB := n0_; have BK231 := n1_; have GW231 := n2_; have GE231 := n3_; have ig231_ := geI GE231; clear n0_ n1_ n2_ n3_; clear hb hbox hg; have hcz15_0 : w14.cell? ⟨gb231, 0, none⟩ = some (.string a0_0) := (blk_cell BK231.out 0).trans rfl; have hcz15_1 : w14.cell? ⟨gb231, 1, none⟩ = some (.int .i64 a0_1) := (blk_cell BK231.out 1).trans rfl; have hcz15_2 : w14.cell? ⟨gb231, 2, none⟩ = some (.slice A0_2 l0_2.length c0_2) := (blk_cell BK231.out 2).trans rfl; have hcz15_3 : w14.cell? ⟨gb231, 3, none⟩ = some (.int .i64 a0_3) := (blk_cell BK231.out 3).trans rfl; have hfz15_0 := blk_frozen BK231.out 0; have hfz15_1 := blk_frozen BK231.out 1; have hfz15_2 := blk_frozen BK231.out 2; have hfz15_3 := blk_frozen BK231.out 3) | ((with_reducible refine gate_callee (f := 21) rfl ?_); refine goesL_ (some 6) rfl rfl Tryd.func21 (by kernel_rfl) rfl #[.agg #[.string a0_0, .int .i64 a0_1, .slice A0_2 l0_2.length c0_2, .int .i64 a0_3]] rfl (by (try simp only [List.map_toArray, List.map_cons, List.map_nil]); first | done | rfl | (simp only [List.length_drop, List.length_take]; rfl)) ?_; (with_reducible refine (spileref09_Check.calls k a0_0 a0_1 _ _ l0_2 a0_3 t232 _ ?side1 ?side2 A2.out).mono ?_); (case side1 => repeat (first | exact (Kd.C_below HR0_2.out HB.out) | (with_reducible refine Kd.C_alloc ?_ _) | (with_reducible refine Kd.C_drewN ?_ _) | (with_reducible refine Kd.C_drew ?_))); (case side2 => exact HC0_2.out); rintro e w16 ⟨rfl, hb⟩; refine ⟨_, rfl, ?_⟩; have n0_ := Aside0.mk (blk_below (bG BK231.out) hb); have n1_ := Aside0.mk (below_step (eG HB.out) hb); clear BK231; clear HB; have BK231 := n0_; have HB := n1_; clear n0_ n1_; (try clear hb); (try clear hb2); (try clear hk); (try clear hi); have hcz17_0 : w16.cell? ⟨gb231, 0, none⟩ = some (.string a0_0) := (blk_cell BK231.out 0).trans rfl; have hcz17_1 : w16.cell? ⟨gb231, 1, none⟩ = some (.int .i64 a0_1) := (blk_cell BK231.out 1).trans rfl; have hcz17_2 : w16.cell? ⟨gb231, 2, none⟩ = some (.slice A0_2 l0_2.length c0_2) := (blk_cell BK231.out 2).trans rfl; have hcz17_3 : w16.cell? ⟨gb231, 3, none⟩ = some (.int .i64 a0_3) := (blk_cell BK231.out 3).trans rfl; have hfz17_0 := blk_frozen BK231.out 0; have hfz17_1 := blk_frozen BK231.out 1; have hfz17_2 := blk_frozen BK231.out 2; have hfz17_3 := blk_frozen BK231.out 3; have p234 : 0 ≤ ((ji11) : Int) := of_decide_eq_true (by first | (with_reducible assumption) | assumption); have q234 : (ji11) < (l0_2.length : Int) := of_decide_eq_true (by first | (with_reducible assumption) | assumption); obtain ⟨ad234, e234, hx234_0, hx234_1⟩ := at_T46 HR0_2.out (ji11) p234 q234; cases e234; replace hx234_0 := (HB.out.cell (World.block_lt_of_cell? w _ hx234_0)).trans hx234_0; replace hx234_1 := (HB.out.cell (World.block_lt_of_cell? w _ hx234_1)).trans hx234_1; replace p234 := eq_true p234; replace q234 := eq_true q234))
     go_ret2
     exact ⟨by first | rfl | (simp [errW_none, errW_some] <;> rfl) | (simp only [← hji11]; first | rfl | (simp [errW_none, errW_some] <;> rfl)) | (simp [*, errW_none, errW_some] <;> rfl), eG HB.out⟩
    · rw [if_neg c13] at H; exact absurd H (by simp)
   · rw [if_neg c12] at H; exact absurd H (by simp)
 ·
  rw [if_neg c3] at H; have c3b0 : (t232 == 0) = false := beq_eq_false_iff_ne.mpr c3; have c3b1 : (t232 != 0) = true := bne_iff_ne.mpr c3; simp only [Option.some.injEq, Prod.mk.injEq] at H; obtain ⟨rfl, rfl⟩ := H; go_enter Tryd.func19, Tryd.ntmps19
  go_wp2_with (first | ((with_reducible refine gate_dst (N := 1) rfl ?_); refine box_event ?hg (N := 1) ?hd (cs := #[.string a0_0, .int .i64 a0_1, .slice A0_2 l0_2.length c0_2, .int .i64 a0_3]) (t := 27) ?hr ?_; (case hd => rfl); (case hg => rfl); (case hr => first | (go_simp; done) | (go_simp; rfl)); intro gb231 hg w18 hbox hb; have n0_ := Aside0.mk (below_step (eG HB.out) hb); have n1_ := Aside0.mk (hbox); have n2_ := Aside0.mk ((by rw [hg]; exact (below_size (eG HB.out)) : w.heap.size ≤ gb231)); have n3_ := Aside0.mk ((by rw [hg]; exact (below_size (eG HB.out)) : w.heap.size ≤ gb231)); clear HB; have HB := n0_; have BK231 := n1_; have GW231 := n2_; have GE231 := n3_; have ig231_ := geI GE231; clear n0_ n1_ n2_ n3_; clear hb hbox hg; have hcz19_0 : w18.cell? ⟨gb231, 0, none⟩ = some (.string a0_0) := (blk_cell BK231.out 0).trans rfl; have hcz19_1 : w18.cell? ⟨gb231, 1, none⟩ = some (.int .i64 a0_1) := (blk_cell BK231.out 1).trans rfl; have hcz19_2 : w18.cell? ⟨gb231, 2, none⟩ = some (.slice A0_2 l0_2.length c0_2) := (blk_cell BK231.out 2).trans rfl; have hcz19_3 : w18.cell? ⟨gb231, 3, none⟩ = some (.int .i64 a0_3) := (blk_cell BK231.out 3).trans rfl; have hfz19_0 := blk_frozen BK231.out 0; have hfz19_1 := blk_frozen BK231.out 1; have hfz19_2 := blk_frozen BK231.out 2; have hfz19_3 := blk_frozen BK231.out 3) | ((with_reducible refine gate_callee (f := 21) rfl ?_); refine goesL_ (some 6) rfl rfl Tryd.func21 (by kernel_rfl) rfl #[.agg #[.string a0_0, .int .i64 a0_1, .slice A0_2 l0_2.length c0_2, .int .i64 a0_3]] rfl (by (try simp only [List.map_toArray, List.map_cons, List.map_nil]); first | done | rfl | (simp only [List.length_drop, List.length_take]; rfl)) ?_; (with_reducible refine (spileref09_Check.calls k a0_0 a0_1 _ _ l0_2 a0_3 t232 _ ?side1 ?side2 A2.out).mono ?_); (case side1 => repeat (first | exact (Kd.C_below HR0_2.out HB.out) | (with_reducible refine Kd.C_alloc ?_ _) | (with_reducible refine Kd.C_drewN ?_ _) | (with_reducible refine Kd.C_drew ?_))); (case side2 => exact HC0_2.out); rintro e w20 ⟨rfl, hb⟩; refine ⟨_, rfl, ?_⟩; have n0_ := Aside0.mk (blk_below (bG BK231.out) hb); have n1_ := Aside0.mk (below_step (eG HB.out) hb); clear BK231; clear HB; have BK231 := n0_; have HB := n1_; clear n0_ n1_; (try clear hb); (try clear hb2); (try clear hk); (try clear hi)))
  go_ret2
  exact ⟨by first | rfl | (simp [errW_none, errW_some] <;> rfl) | (simp [*, errW_none, errW_some] <;> rfl), eG HB.out⟩
end Go.Proofs.YtnhmlneebnkjcaaDoor.Pr
