/-
A part of what these laws rest on: contracts of the functions that they reach, and plain lemmas.
-/
import Derived.Lib.AtoiAll
import Derived.Lib.IndexMore
import Derived.Lib.Split
import Derived.Test.YtmdfnambaedllaaDoorCorrectTextsC
set_option linter.unusedVariables false
set_option linter.unusedSimpArgs false
namespace Go.Proofs.YtmdfnambaedllaaDoor.Pr
open Go.RowKit Go.Proofs.YtmdfnambaedllaaDoorW.PrintWords Go.Proofs.YtmdfnambaedllaaDoorW.PrintLast Go.Proofs.YtmdfnambaedllaaDoorW.PrintMore Go.Proofs.YtmdfnambaedllaaDoor.X
attribute [local go_sem] kJ kH zAS zAR uF uE kI kG   -- for this text's walks alone
set_option linter.unusedVariables false
set_option linter.unusedSimpArgs false
mutual
def wJ.j0 : Nat → Bool → List Int → List Int → List (List Int) → Option (Bool)
 | 0, _, _, _, _ => none
 | k + 1, x22, zRI, zRH, zKM => if x22 = true then (some false) else (wJ.l0 k 0 zRI zRH zKM)
def wJ.l0 : Nat → Int → List Int → List Int → List (List Int) → Option (Bool)
 | 0, _, _, _, _ => none
 | k + 1, x3, zRI, zRH, zKM => if x3 < (zKM.length : Int) then (if 0 ≤ x3 then ((vK.f ((zW zKM x3).length : Int)).bind fun t211 => (if t211 = true then (wJ.l0 k (wrap64 (x3 + 1)) zRI zRH zKM) else (some false))) else (none)) else (some true)
end
def wJ.f (k : Nat) (l0_0 : List Int) (l0_1 : List Int) (l0_2 : List (List Int)) : Option (Bool) := (vK.f (l0_0.length : Int)).bind fun t207 => (if t207 = true then ((vK.f (l0_1.length : Int)).bind fun t208 => (if t208 = true then ((vK.f (l0_2.length : Int)).bind fun t209 => (wJ.j0 k (!t209) l0_0 l0_1 l0_2)) else (wJ.j0 k true l0_0 l0_1 l0_2))) else (wJ.j0 k true l0_0 l0_1 l0_2))
set_option maxHeartbeats 8000000 in
set_option maxRecDepth 100000 in
theorem wJ.calls (k : Nat) (A0_0 : Option Addr) (c0_0 : Nat) (l0_0 : List Int) (A0_1 : Option Addr) (c0_1 : Nat) (l0_1 : List Int) (A0_2 : Option Addr) (c0_2 : Nat) (l0_2 : List (List Int)) (r : Bool) (w : World) (hr0_0 : Kd.C (Kd.int .i64) w A0_0 l0_0.length l0_0) (zAW : l0_0.length ≤ c0_0) (hr0_1 : Kd.C (Kd.int .i64) w A0_1 l0_1.length l0_1) (zAV : l0_1.length ≤ c0_1) (hr0_2 : Kd.C (Kd.slice 3 (Kd.int .i64)) w A0_2 l0_2.length l0_2) (zAU : l0_2.length ≤ c0_2) (h : wJ.f k l0_0 l0_1 l0_2 = some r) :
  Calls Tryd.prog 11 #[.agg #[.slice A0_0 l0_0.length c0_0, .slice A0_1 l0_1.length c0_1, .slice A0_2 l0_2.length c0_2]] w fun e w' => e = .returned (.bool r) ∧ Below w.heap.size w w' := by
 have hu25 := Tryd.underlying25; have HR0_0 := zA.mk hr0_0; have HC0_0 := zA.mk zAW; clear hr0_0 zAW; have HR0_1 := zA.mk hr0_1; have HC0_1 := zA.mk zAV; clear hr0_1 zAV; have HR0_2 := zA.mk hr0_2; have HC0_2 := zA.mk zAU; clear hr0_2 zAU; have HB := zA.mk (Below.refl w.heap.size w); have H : ((vK.f (l0_0.length : Int)).bind fun t207 => (if t207 = true then ((vK.f (l0_1.length : Int)).bind fun t208 => (if t208 = true then ((vK.f (l0_2.length : Int)).bind fun t209 => (wJ.j0 k (!t209) l0_0 l0_1 l0_2)) else (wJ.j0 k true l0_0 l0_1 l0_2))) else (wJ.j0 k true l0_0 l0_1 l0_2))) = some r := h; clear h; have HC2 := zA.mk H; clear H; go_enter Tryd.func11, Tryd.ntmps11
 go_upto_region 1 with (first | ((with_reducible refine vH (N := 1) rfl ?_); (try (refine vJ (by rfl) ?_; dsimp only)); refine vD ?hg (N := 1) ?hd (cs := #[.slice A0_0 l0_0.length c0_0, .slice A0_1 l0_1.length c0_1, .slice A0_2 l0_2.length c0_2]) (t := 25) ?hr ?_; (case hd => rfl); (case hg => rfl); (case hr => first | (go_simp; done) | (go_simp; rfl)); intro zDJ hg w3 hbox hb; have n0_ := zA.mk (zG (eG HB.out) hb); have n1_ := zA.mk (hbox); have n2_ := zA.mk ((by rw [hg]; exact (zD (eG HB.out)) : w.heap.size ≤ zDJ)); have n3_ := zA.mk ((by rw [hg]; exact (zD (eG HB.out)) : w.heap.size ≤ zDJ)); clear HB; have HB := n0_; have kE := n1_; have GW206 := n2_; have GE206 := n3_; have ig206_ := geI GE206; clear n0_ n1_ n2_ n3_; clear hb hbox hg))
 (try simp only [Act.put, sIA, sC0, sCS])
 go_cut [22] (fun v22 wc => ∃ (kq : Nat) (x22_1 : Bool), v22 = .bool x22_1 ∧ zA (wJ.j0 kq x22_1 l0_0 l0_1 l0_2 = some r) ∧ zA (kq ≤ k) ∧ zA (wc.heap[zDJ]? = some (.cells #[(.slice A0_0 l0_0.length c0_0), (.slice A0_1 l0_1.length c0_1), (.slice A0_2 l0_2.length c0_2)] 25 (0, 0))) ∧ zA (Below w.heap.size w wc))
 case first =>
  have H := HC2.out; clear HC2; replace H := Option.bind_eq_some_iff.mp H; obtain ⟨t207, A40, H⟩ := H; replace H : (if t207 = true then ((vK.f (l0_1.length : Int)).bind fun t208 => (if t208 = true then ((vK.f (l0_2.length : Int)).bind fun t209 => (wJ.j0 k (!t209) l0_0 l0_1 l0_2)) else (wJ.j0 k true l0_0 l0_1 l0_2))) else (wJ.j0 k true l0_0 l0_1 l0_2)) = some r := H; have A4 := zA.mk A40; clear A40; by_cases c5 : t207 = true
  ·
   subst c5; replace H : ((vK.f (l0_1.length : Int)).bind fun t208 => (if t208 = true then ((vK.f (l0_2.length : Int)).bind fun t209 => (wJ.j0 k (!t209) l0_0 l0_1 l0_2)) else (wJ.j0 k true l0_0 l0_1 l0_2))) = some r := by rw [if_pos rfl] at H; exact H
   replace H := Option.bind_eq_some_iff.mp H; obtain ⟨t208, A60, H⟩ := H; replace H : (if t208 = true then ((vK.f (l0_2.length : Int)).bind fun t209 => (wJ.j0 k (!t209) l0_0 l0_1 l0_2)) else (wJ.j0 k true l0_0 l0_1 l0_2)) = some r := H; have A6 := zA.mk A60; clear A60; by_cases c7 : t208 = true
   ·
    subst c7; replace H : ((vK.f (l0_2.length : Int)).bind fun t209 => (wJ.j0 k (!t209) l0_0 l0_1 l0_2)) = some r := by rw [if_pos rfl] at H; exact H
    replace H := Option.bind_eq_some_iff.mp H; obtain ⟨t209, A80, H⟩ := H; replace H : (wJ.j0 k (!t209) l0_0 l0_1 l0_2) = some r := H; have A8 := zA.mk A80; clear A80; have H' := zA.mk H; clear H; have zEG : w3.cell? ⟨zDJ, 0, none⟩ = some (.slice A0_0 l0_0.length c0_0) := (zC kE.out 0).trans rfl; have zWT : w3.cell? ⟨zDJ, 1, none⟩ = some (.slice A0_1 l0_1.length c0_1) := (zC kE.out 1).trans rfl; have zWS : w3.cell? ⟨zDJ, 2, none⟩ = some (.slice A0_2 l0_2.length c0_2) := (zC kE.out 2).trans rfl; have zED := zB kE.out 0; have zWC := zB kE.out 1; have zWB := zB kE.out 2; go_wp2_with (first | ((with_reducible refine zQ (f := 25) rfl ?_); refine vN (some 7) rfl rfl Tryd.func25 (by kernel_rfl) rfl #[.int .i64 (l0_0.length : Int)] rfl (by (try simp only [List.map_toArray, List.map_cons, List.map_nil]); first | done | rfl | (simp only [List.length_drop, List.length_take]; rfl)) ?_; (with_reducible refine (vK.calls (l0_0.length : Int) true _ A4.out).mono ?_); rintro e w' ⟨rfl, ⟨nd, rfl⟩⟩; refine ⟨_, rfl, ?_⟩) | (go_at_call 25; (with_reducible refine (vK.calls (l0_1.length : Int) true _ A6.out).mono ?_); rintro e w' ⟨rfl, ⟨nd, rfl⟩⟩) | (go_at_call 25; (with_reducible refine (vK.calls (l0_2.length : Int) t209 _ A8.out).mono ?_); rintro e w' ⟨rfl, ⟨nd, rfl⟩⟩))
    go_meet
    case rel => exact ⟨_, (!t209), (by first | rfl | (simp; done) | (simp [*]; done)), H', ⟨by first | omega | exact Nat.le_refl _⟩, ⟨by (with_reducible repeat first | apply bN | apply bD | apply bA); exact kE.out⟩, ⟨eG HB.out⟩⟩
   ·
    replace c7 := Bool.eq_false_iff.mpr c7; subst c7; replace H : (wJ.j0 k true l0_0 l0_1 l0_2) = some r := by rw [if_neg (show ¬ (false = true) by decide)] at H; exact H
    have H' := zA.mk H; clear H; have zBO : w3.cell? ⟨zDJ, 0, none⟩ = some (.slice A0_0 l0_0.length c0_0) := (zC kE.out 0).trans rfl; have zBN : w3.cell? ⟨zDJ, 1, none⟩ = some (.slice A0_1 l0_1.length c0_1) := (zC kE.out 1).trans rfl; have zBM : w3.cell? ⟨zDJ, 2, none⟩ = some (.slice A0_2 l0_2.length c0_2) := (zC kE.out 2).trans rfl; have zBI := zB kE.out 0; have zBH := zB kE.out 1; have zBG := zB kE.out 2; go_wp2_with (first | ((with_reducible refine zQ (f := 25) rfl ?_); refine vN (some 7) rfl rfl Tryd.func25 (by kernel_rfl) rfl #[.int .i64 (l0_0.length : Int)] rfl (by (try simp only [List.map_toArray, List.map_cons, List.map_nil]); first | done | rfl | (simp only [List.length_drop, List.length_take]; rfl)) ?_; (with_reducible refine (vK.calls (l0_0.length : Int) true _ A4.out).mono ?_); rintro e w' ⟨rfl, ⟨nd, rfl⟩⟩; refine ⟨_, rfl, ?_⟩) | (go_at_call 25; (with_reducible refine (vK.calls (l0_1.length : Int) false _ A6.out).mono ?_); rintro e w' ⟨rfl, ⟨nd, rfl⟩⟩))
    go_meet
    case rel => exact ⟨_, (true), (by first | rfl | (simp; done) | (simp [*]; done)), H', ⟨by first | omega | exact Nat.le_refl _⟩, ⟨by (with_reducible repeat first | apply bN | apply bD | apply bA); exact kE.out⟩, ⟨eG HB.out⟩⟩
  ·
   replace c5 := Bool.eq_false_iff.mpr c5; subst c5; replace H : (wJ.j0 k true l0_0 l0_1 l0_2) = some r := by rw [if_neg (show ¬ (false = true) by decide)] at H; exact H
   have H' := zA.mk H; clear H; have zBL : w3.cell? ⟨zDJ, 0, none⟩ = some (.slice A0_0 l0_0.length c0_0) := (zC kE.out 0).trans rfl; have zBK : w3.cell? ⟨zDJ, 1, none⟩ = some (.slice A0_1 l0_1.length c0_1) := (zC kE.out 1).trans rfl; have zBJ : w3.cell? ⟨zDJ, 2, none⟩ = some (.slice A0_2 l0_2.length c0_2) := (zC kE.out 2).trans rfl; have zBF := zB kE.out 0; have zBE := zB kE.out 1; have zBD := zB kE.out 2; go_wp2_with (first | ((with_reducible refine zQ (f := 25) rfl ?_); refine vN (some 7) rfl rfl Tryd.func25 (by kernel_rfl) rfl #[.int .i64 (l0_0.length : Int)] rfl (by (try simp only [List.map_toArray, List.map_cons, List.map_nil]); first | done | rfl | (simp only [List.length_drop, List.length_take]; rfl)) ?_; (with_reducible refine (vK.calls (l0_0.length : Int) false _ A4.out).mono ?_); rintro e w' ⟨rfl, ⟨nd, rfl⟩⟩; refine ⟨_, rfl, ?_⟩))
   go_meet
   case rel => exact ⟨_, (true), (by first | rfl | (simp; done) | (simp [*]; done)), H', ⟨by first | omega | exact Nat.le_refl _⟩, ⟨by (with_reducible repeat first | apply bN | apply bD | apply bA); exact kE.out⟩, ⟨eG HB.out⟩⟩
 case rest =>
  clear HC2; repeat first | clear c1 | clear c2 | clear p2 | clear c5 | clear c7 | clear c11 | clear zBO | clear zBN | clear zBM | clear zBL | clear zBK | clear zBJ | clear zEG | clear zWT | clear zWS | clear zBI | clear zBH | clear zBG | clear zBF | clear zBE | clear zBD | clear zED | clear zWC | clear zWB
  obtain ⟨kq, x22_1, rfl, HA, HJ1, kE, HB⟩ := hcut
  cases kq with
  | zero => exact absurd HA.out (by simp [wJ.j0])
  | succ kj1 =>
   have H := HA.out; clear HA; simp only [wJ.j0] at H; by_cases c12 : x22_1 = true
   ·
    subst c12; replace H : (some false) = some r := by rw [if_pos rfl] at H; exact H
    obtain rfl := Option.some.inj H; go_wp2; go_ret
    exact ⟨by first | rfl | (simp [zI, zH] <;> rfl) | (simp [*, zI, zH] <;> rfl), eG HB.out⟩
   ·
    replace c12 := Bool.eq_false_iff.mpr c12; subst c12; replace H : (wJ.l0 kj1 0 l0_0 l0_1 l0_2) = some r := by rw [if_neg (show ¬ (false = true) by decide)] at H; exact H
    have H' := zA.mk H; clear H; go_wp2; go_loopg [3] kj1 (fun kq v3 w' => ∃ (x3_2 : Int), v3 = .int .i64 x3_2 ∧ zA (wJ.l0 kq x3_2 l0_0 l0_1 l0_2 = some r) ∧ zA (kq ≤ kj1) ∧ zA (w'.heap[zDJ]? = some (.cells #[(.slice A0_0 l0_0.length c0_0), (.slice A0_1 l0_1.length c0_1), (.slice A0_2 l0_2.length c0_2)] 25 (0, 0))) ∧ zA (Below w.heap.size w w'))
    case atStart => exact ⟨(0), (by first | rfl | (simp; done) | (simp [*]; done)), H', ⟨Nat.le_refl _⟩, ⟨by (with_reducible repeat first | apply bN | apply bD | apply bA); exact kE.out⟩, ⟨eG HB.out⟩⟩
    case round =>
     clear H'; repeat first | clear c1 | clear c2 | clear p2 | clear c5 | clear c7 | clear c11 | clear c12 | clear zBO | clear zBN | clear zBM | clear zBL | clear zBK | clear zBJ | clear zEG | clear zWT | clear zWS | clear zBI | clear zBH | clear zBG | clear zBF | clear zBE | clear zBD | clear zED | clear zWC | clear zWB | clear p2
     obtain ⟨x3_2, rfl, HA, HK2, kE, HB⟩ := hrel
     cases gk with
     | zero => exact absurd HA.out (by simp [wJ.l0])
     | succ k2 =>
      have H := HA.out; clear HA; simp only [wJ.l0] at H; by_cases c13 : x3_2 < (l0_2.length : Int)
      ·
       rw [if_pos c13] at H; have c13b0 : decide (x3_2 < (l0_2.length : Int)) = true := decide_eq_true c13; clear c13; by_cases c14 : 0 ≤ x3_2
       ·
        rw [if_pos c14] at H; have c14b0 : decide (0 ≤ x3_2) = true := decide_eq_true c14; clear c14; replace H := Option.bind_eq_some_iff.mp H; obtain ⟨t211, A150, H⟩ := H; replace H : (if t211 = true then (wJ.l0 k2 (wrap64 (x3_2 + 1)) l0_0 l0_1 l0_2) else (some false)) = some r := H; have A15 := zA.mk A150; clear A150; by_cases c16 : t211 = true
        ·
         subst c16; replace H : (wJ.l0 k2 (wrap64 (x3_2 + 1)) l0_0 l0_1 l0_2) = some r := by rw [if_pos rfl] at H; exact H
         have H' := zA.mk H; clear H; have zJJ : wr.cell? ⟨zDJ, 0, none⟩ = some (.slice A0_0 l0_0.length c0_0) := (zC kE.out 0).trans rfl; have zSX : wr.cell? ⟨zDJ, 1, none⟩ = some (.slice A0_1 l0_1.length c0_1) := (zC kE.out 1).trans rfl; have zSW : wr.cell? ⟨zDJ, 2, none⟩ = some (.slice A0_2 l0_2.length c0_2) := (zC kE.out 2).trans rfl; have zIW := zB kE.out 0; have zSO := zB kE.out 1; have zSN := zB kE.out 2; have p210 : 0 ≤ (x3_2 : Int) := of_decide_eq_true (by first | (with_reducible assumption) | assumption); have q210 : x3_2 < (l0_2.length : Int) := of_decide_eq_true (by first | (with_reducible assumption) | assumption); obtain ⟨ad210, A210_0, c210_0, e210, zHD, hl210_0, hi210_0⟩ := kQ HR0_2.out x3_2 p210 q210; cases e210; replace zHD := (HB.out.cell (World.block_lt_of_cell? w _ zHD)).trans zHD; have HR210_0 := zA.mk hi210_0; have HC210_0 := zA.mk hl210_0; clear hi210_0 hl210_0; replace p210 := eq_true p210; replace q210 := eq_true q210; go_wp2_with (first | ((with_reducible refine zQ (f := 25) rfl ?_); refine vN (some 36) rfl rfl Tryd.func25 (by kernel_rfl) rfl #[.int .i64 ((zW l0_2 x3_2).length : Int)] rfl (by (try simp only [List.map_toArray, List.map_cons, List.map_nil]); first | done | rfl | (simp only [List.length_drop, List.length_take]; rfl)) ?_; (with_reducible refine (vK.calls ((zW l0_2 x3_2).length : Int) true _ A15.out).mono ?_); rintro e w' ⟨rfl, ⟨nd, rfl⟩⟩; refine ⟨_, rfl, ?_⟩))
         go_roundg k2
         case measure => have := HJ1.out; have := HK2.out; omega
         case rel => exact ⟨(wrap64 (x3_2 + 1)), (by first | rfl | (simp; done) | (simp [*]; done)), H', ⟨by have := HJ1.out; have := HK2.out; omega⟩, ⟨by (with_reducible repeat first | apply bN | apply bD | apply bA); exact kE.out⟩, ⟨eG HB.out⟩⟩
        ·
         replace c16 := Bool.eq_false_iff.mpr c16; subst c16; replace H : (some false) = some r := by rw [if_neg (show ¬ (false = true) by decide)] at H; exact H
         obtain rfl := Option.some.inj H; have zDA : wr.cell? ⟨zDJ, 0, none⟩ = some (.slice A0_0 l0_0.length c0_0) := (zC kE.out 0).trans rfl; have zFT : wr.cell? ⟨zDJ, 1, none⟩ = some (.slice A0_1 l0_1.length c0_1) := (zC kE.out 1).trans rfl; have zFS : wr.cell? ⟨zDJ, 2, none⟩ = some (.slice A0_2 l0_2.length c0_2) := (zC kE.out 2).trans rfl; have zCX := zB kE.out 0; have zFP := zB kE.out 1; have zFO := zB kE.out 2; have p210 : 0 ≤ (x3_2 : Int) := of_decide_eq_true (by first | (with_reducible assumption) | assumption); have q210 : x3_2 < (l0_2.length : Int) := of_decide_eq_true (by first | (with_reducible assumption) | assumption); obtain ⟨ad210, A210_0, c210_0, e210, zHD, hl210_0, hi210_0⟩ := kQ HR0_2.out x3_2 p210 q210; cases e210; replace zHD := (HB.out.cell (World.block_lt_of_cell? w _ zHD)).trans zHD; have HR210_0 := zA.mk hi210_0; have HC210_0 := zA.mk hl210_0; clear hi210_0 hl210_0; replace p210 := eq_true p210; replace q210 := eq_true q210; go_wp2_with (first | ((with_reducible refine zQ (f := 25) rfl ?_); refine vN (some 36) rfl rfl Tryd.func25 (by kernel_rfl) rfl #[.int .i64 ((zW l0_2 x3_2).length : Int)] rfl (by (try simp only [List.map_toArray, List.map_cons, List.map_nil]); first | done | rfl | (simp only [List.length_drop, List.length_take]; rfl)) ?_; (with_reducible refine (vK.calls ((zW l0_2 x3_2).length : Int) false _ A15.out).mono ?_); rintro e w' ⟨rfl, ⟨nd, rfl⟩⟩; refine ⟨_, rfl, ?_⟩))
         go_ret
         exact ⟨by first | rfl | (simp [zI, zH] <;> rfl) | (simp [*, zI, zH] <;> rfl), eG HB.out⟩
       · rw [if_neg c14] at H; exact absurd H (by simp)
      ·
       rw [if_neg c13] at H; have c13b0 : decide (x3_2 < (l0_2.length : Int)) = false := decide_eq_false c13; clear c13; obtain rfl := Option.some.inj H; have zJI : wr.cell? ⟨zDJ, 0, none⟩ = some (.slice A0_0 l0_0.length c0_0) := (zC kE.out 0).trans rfl; have zJH : wr.cell? ⟨zDJ, 1, none⟩ = some (.slice A0_1 l0_1.length c0_1) := (zC kE.out 1).trans rfl; have zJG : wr.cell? ⟨zDJ, 2, none⟩ = some (.slice A0_2 l0_2.length c0_2) := (zC kE.out 2).trans rfl; have zIV := zB kE.out 0; have zIU := zB kE.out 1; have zIT := zB kE.out 2; go_wp2; go_ret
       exact ⟨by first | rfl | (simp [zI, zH] <;> rfl) | (simp [*, zI, zH] <;> rfl), eG HB.out⟩
mutual
def zV.j0 : Nat → Bool → List Int → List Int → List (List Int) → Option (Int)
 | 0, _, _, _, _ => none
 | k + 1, x13, zFC, zFB, zEN => if x13 = true then (some 9) else (if (zFC.length : Int) > 32 then (zV.j1 k true zFC zFB zEN) else (zV.j1 k (decide ((zFB.length : Int) > 32)) zFC zFB zEN))
def zV.j1 : Nat → Bool → List Int → List Int → List (List Int) → Option (Int)
 | 0, _, _, _, _ => none
 | k + 1, x23, zFC, zFB, zEN => if x23 = true then (some 8) else (if (zEN.length : Int) = (zFC.length : Int) then (zV.l0 k 0 zFC zFB zEN) else (some 10))
def zV.l0 : Nat → Int → List Int → List Int → List (List Int) → Option (Int)
 | 0, _, _, _, _ => none
 | k + 1, x3, zFC, zFB, zEN => if x3 < (zEN.length : Int) then (if 0 ≤ x3 then (if ((zW zEN x3).length : Int) = (zFB.length : Int) then (zV.l0 k (wrap64 (x3 + 1)) zFC zFB zEN) else (some 10)) else (none)) else (some 0)
end
def zV.f (k : Nat) (l0_0 : List Int) (l0_1 : List Int) (l0_2 : List (List Int)) : Option (Int) := if (l0_0.length : Int) < 2 then (zV.j0 k true l0_0 l0_1 l0_2) else (zV.j0 k (decide ((l0_1.length : Int) < 2)) l0_0 l0_1 l0_2)
set_option maxHeartbeats 8000000 in
set_option maxRecDepth 100000 in
theorem zV.calls (k : Nat) (A0_0 : Option Addr) (c0_0 : Nat) (l0_0 : List Int) (A0_1 : Option Addr) (c0_1 : Nat) (l0_1 : List Int) (A0_2 : Option Addr) (c0_2 : Nat) (l0_2 : List (List Int)) (r : Int) (w : World) (hr0_0 : Kd.C (Kd.int .i64) w A0_0 l0_0.length l0_0) (zAW : l0_0.length ≤ c0_0) (hr0_1 : Kd.C (Kd.int .i64) w A0_1 l0_1.length l0_1) (zAV : l0_1.length ≤ c0_1) (hr0_2 : Kd.C (Kd.slice 3 (Kd.int .i64)) w A0_2 l0_2.length l0_2) (zAU : l0_2.length ≤ c0_2) (h : zV.f k l0_0 l0_1 l0_2 = some r) :
  Calls Tryd.prog 40 #[.agg #[.slice A0_0 l0_0.length c0_0, .slice A0_1 l0_1.length c0_1, .slice A0_2 l0_2.length c0_2]] w fun e w' => e = .returned (.int .i64 r) ∧ Below w.heap.size w w' := by
 have hu25 := Tryd.underlying25; have HR0_0 := zA.mk hr0_0; have HC0_0 := zA.mk zAW; clear hr0_0 zAW; have HR0_1 := zA.mk hr0_1; have HC0_1 := zA.mk zAV; clear hr0_1 zAV; have HR0_2 := zA.mk hr0_2; have HC0_2 := zA.mk zAU; clear hr0_2 zAU; have HB := zA.mk (Below.refl w.heap.size w); have H : (if (l0_0.length : Int) < 2 then (zV.j0 k true l0_0 l0_1 l0_2) else (zV.j0 k (decide ((l0_1.length : Int) < 2)) l0_0 l0_1 l0_2)) = some r := h; clear h; have HC2 := zA.mk H; clear H; go_enter Tryd.func40, Tryd.ntmps40
 go_upto_region 1 with (first | ((with_reducible refine vH (N := 1) rfl ?_); (try (refine vJ (by rfl) ?_; dsimp only)); refine vD ?hg (N := 1) ?hd (cs := #[.slice A0_0 l0_0.length c0_0, .slice A0_1 l0_1.length c0_1, .slice A0_2 l0_2.length c0_2]) (t := 25) ?hr ?_; (case hd => rfl); (case hg => rfl); (case hr => first | (go_simp; done) | (go_simp; rfl)); intro kY hg w3 hbox hb; have n0_ := zA.mk (zG (eG HB.out) hb); have n1_ := zA.mk (hbox); have n2_ := zA.mk ((by rw [hg]; exact (zD (eG HB.out)) : w.heap.size ≤ kY)); have n3_ := zA.mk ((by rw [hg]; exact (zD (eG HB.out)) : w.heap.size ≤ kY)); clear HB; have HB := n0_; have yQ := n1_; have GW212 := n2_; have zYN := n3_; have ig212_ := geI zYN; clear n0_ n1_ n2_ n3_; clear hb hbox hg))
 repeat (go_quiet (first | ((with_reducible refine vH (N := 1) rfl ?_); (try (refine vJ (by rfl) ?_; dsimp only)); refine vD ?hg (N := 1) ?hd (cs := #[.slice A0_0 l0_0.length c0_0, .slice A0_1 l0_1.length c0_1, .slice A0_2 l0_2.length c0_2]) (t := 25) ?hr ?_; (case hd => rfl); (case hg => rfl); (case hr => first | (go_simp; done) | (go_simp; rfl)); intro kY hg w3 hbox hb; have n0_ := zA.mk (zG (eG HB.out) hb); have n1_ := zA.mk (hbox); have n2_ := zA.mk ((by rw [hg]; exact (zD (eG HB.out)) : w.heap.size ≤ kY)); have n3_ := zA.mk ((by rw [hg]; exact (zD (eG HB.out)) : w.heap.size ≤ kY)); clear HB; have HB := n0_; have yQ := n1_; have GW212 := n2_; have zYN := n3_; have ig212_ := geI zYN; clear n0_ n1_ n2_ n3_; clear hb hbox hg)); go_upto_region 1 with (first | ((with_reducible refine vH (N := 1) rfl ?_); (try (refine vJ (by rfl) ?_; dsimp only)); refine vD ?hg (N := 1) ?hd (cs := #[.slice A0_0 l0_0.length c0_0, .slice A0_1 l0_1.length c0_1, .slice A0_2 l0_2.length c0_2]) (t := 25) ?hr ?_; (case hd => rfl); (case hg => rfl); (case hr => first | (go_simp; done) | (go_simp; rfl)); intro kY hg w3 hbox hb; have n0_ := zA.mk (zG (eG HB.out) hb); have n1_ := zA.mk (hbox); have n2_ := zA.mk ((by rw [hg]; exact (zD (eG HB.out)) : w.heap.size ≤ kY)); have n3_ := zA.mk ((by rw [hg]; exact (zD (eG HB.out)) : w.heap.size ≤ kY)); clear HB; have HB := n0_; have yQ := n1_; have GW212 := n2_; have zYN := n3_; have ig212_ := geI zYN; clear n0_ n1_ n2_ n3_; clear hb hbox hg)))
 (try simp only [Act.put, sIA, sC0, sCS])
 go_cut [13] (fun v13 wc => ∃ (kq : Nat) (x13_1 : Bool), v13 = .bool x13_1 ∧ zA (zV.j0 kq x13_1 l0_0 l0_1 l0_2 = some r) ∧ zA (kq ≤ k) ∧ zA (wc.heap[kY]? = some (.cells #[(.slice A0_0 l0_0.length c0_0), (.slice A0_1 l0_1.length c0_1), (.slice A0_2 l0_2.length c0_2)] 25 (0, 0))) ∧ zA (Below w.heap.size w wc))
 case first =>
  have H := HC2.out; clear HC2; by_cases c4 : (l0_0.length : Int) < 2
  ·
   rw [if_pos c4] at H; have c4b0 : decide ((l0_0.length : Int) < 2) = true := decide_eq_true c4; have c4b1 : decide (l0_0.length < 2) = true := decide_eq_true (by omega); clear c4; (first | rw [c4b0] | (simp only [wX, vB]; rw [c4b0]) | skip)
   have H' := zA.mk H; clear H; have zWZ : w3.cell? ⟨kY, 0, none⟩ = some (.slice A0_0 l0_0.length c0_0) := (zC yQ.out 0).trans rfl; have zWY : w3.cell? ⟨kY, 1, none⟩ = some (.slice A0_1 l0_1.length c0_1) := (zC yQ.out 1).trans rfl; have zWX : w3.cell? ⟨kY, 2, none⟩ = some (.slice A0_2 l0_2.length c0_2) := (zC yQ.out 2).trans rfl; have zWI := zB yQ.out 0; have zWH := zB yQ.out 1; have zWG := zB yQ.out 2; go_wp2; repeat (go_quiet (fail); try go_wp2)
   go_meet
   case rel => exact ⟨_, (true), (by first | rfl | (simp; done) | (simp [*]; done)), H', ⟨by first | omega | exact Nat.le_refl _⟩, ⟨by (with_reducible repeat first | apply bN | apply bD | apply bA); exact yQ.out⟩, ⟨eG HB.out⟩⟩
  ·
   rw [if_neg c4] at H; have c4b0 : decide ((l0_0.length : Int) < 2) = false := decide_eq_false c4; have c4b1 : decide (l0_0.length < 2) = false := decide_eq_false (by omega); clear c4; (first | rw [c4b0] | (simp only [wX, vB]; rw [c4b0]) | skip)
   have H' := zA.mk H; clear H; have zDN : w3.cell? ⟨kY, 0, none⟩ = some (.slice A0_0 l0_0.length c0_0) := (zC yQ.out 0).trans rfl; have zEI : w3.cell? ⟨kY, 1, none⟩ = some (.slice A0_1 l0_1.length c0_1) := (zC yQ.out 1).trans rfl; have zEH : w3.cell? ⟨kY, 2, none⟩ = some (.slice A0_2 l0_2.length c0_2) := (zC yQ.out 2).trans rfl; have zDM := zB yQ.out 0; have zEF := zB yQ.out 1; have zEE := zB yQ.out 2; go_wp2; repeat (go_quiet (fail); try go_wp2)
   go_meet
   case rel => exact ⟨_, (decide ((l0_1.length : Int) < 2)), (by first | rfl | (simp; done) | (simp [*]; done)), H', ⟨by first | omega | exact Nat.le_refl _⟩, ⟨by (with_reducible repeat first | apply bN | apply bD | apply bA); exact yQ.out⟩, ⟨eG HB.out⟩⟩
 case rest =>
  clear HC2; repeat first | clear p2 | clear c4 | clear c4b0 | clear c4b1 | clear zWZ | clear zWY | clear zWX | clear zDN | clear zEI | clear zEH | clear zWI | clear zWH | clear zWG | clear zDM | clear zEF | clear zEE
  obtain ⟨kq, x13_1, rfl, HA, HJ1, yQ, HB⟩ := hcut
  cases kq with
  | zero => exact absurd HA.out (by simp [zV.j0])
  | succ kj1 =>
   have H := HA.out; clear HA; simp only [zV.j0] at H; by_cases c7 : x13_1 = true
   ·
    subst c7; replace H : (some 9) = some r := by rw [if_pos rfl] at H; exact H
    obtain rfl := Option.some.inj H; go_wp2; repeat (go_quiet (fail); try go_wp2)
    go_ret
    exact ⟨by first | rfl | (simp [zI, zH] <;> rfl) | (simp [*, zI, zH] <;> rfl), eG HB.out⟩
   ·
    replace c7 := Bool.eq_false_iff.mpr c7; subst c7; replace H : (if (l0_0.length : Int) > 32 then (zV.j1 kj1 true l0_0 l0_1 l0_2) else (zV.j1 kj1 (decide ((l0_1.length : Int) > 32)) l0_0 l0_1 l0_2)) = some r := by rw [if_neg (show ¬ (false = true) by decide)] at H; exact H
    have HC8 := zA.mk H; clear H; go_upto_region 3 with (fail)
    repeat (go_quiet (fail); go_upto_region 3 with (fail))
    go_cut [23] (fun v23 wc => ∃ (kq : Nat) (x23_7 : Bool), v23 = .bool x23_7 ∧ zA (zV.j1 kq x23_7 l0_0 l0_1 l0_2 = some r) ∧ zA (kq ≤ kj1) ∧ zA (wc.heap[kY]? = some (.cells #[(.slice A0_0 l0_0.length c0_0), (.slice A0_1 l0_1.length c0_1), (.slice A0_2 l0_2.length c0_2)] 25 (0, 0))) ∧ zA (Below w.heap.size w wc))
    case first =>
     have H := HC8.out; clear HC8; by_cases c9 : (l0_0.length : Int) > 32
     ·
      rw [if_pos c9] at H; have c9b0 : decide (32 < (l0_0.length : Int)) = true := decide_eq_true c9; have c9b1 : decide (32 < l0_0.length) = true := decide_eq_true (by omega); clear c9; (first | rw [c9b0] | (simp only [wX, vB]; rw [c9b0]) | skip)
      have H' := zA.mk H; clear H; have zBO : wc.cell? ⟨kY, 0, none⟩ = some (.slice A0_0 l0_0.length c0_0) := (zC yQ.out 0).trans rfl; have zBN : wc.cell? ⟨kY, 1, none⟩ = some (.slice A0_1 l0_1.length c0_1) := (zC yQ.out 1).trans rfl; have zBM : wc.cell? ⟨kY, 2, none⟩ = some (.slice A0_2 l0_2.length c0_2) := (zC yQ.out 2).trans rfl; have zBI := zB yQ.out 0; have zBH := zB yQ.out 1; have zBG := zB yQ.out 2; go_wp2; repeat (go_quiet (fail); try go_wp2)
      go_meet
      case rel => exact ⟨_, (true), (by first | rfl | (simp; done) | (simp [*]; done)), H', ⟨by have := HJ1.out; first | omega | exact Nat.le_refl _⟩, ⟨by (with_reducible repeat first | apply bN | apply bD | apply bA); exact yQ.out⟩, ⟨eG HB.out⟩⟩
     ·
      rw [if_neg c9] at H; have c9b0 : decide (32 < (l0_0.length : Int)) = false := decide_eq_false c9; have c9b1 : decide (32 < l0_0.length) = false := decide_eq_false (by omega); clear c9; (first | rw [c9b0] | (simp only [wX, vB]; rw [c9b0]) | skip)
      have H' := zA.mk H; clear H; have zBL : wc.cell? ⟨kY, 0, none⟩ = some (.slice A0_0 l0_0.length c0_0) := (zC yQ.out 0).trans rfl; have zBK : wc.cell? ⟨kY, 1, none⟩ = some (.slice A0_1 l0_1.length c0_1) := (zC yQ.out 1).trans rfl; have zBJ : wc.cell? ⟨kY, 2, none⟩ = some (.slice A0_2 l0_2.length c0_2) := (zC yQ.out 2).trans rfl; have zBF := zB yQ.out 0; have zBE := zB yQ.out 1; have zBD := zB yQ.out 2; go_wp2; repeat (go_quiet (fail); try go_wp2)
      go_meet
      case rel => exact ⟨_, (decide ((l0_1.length : Int) > 32)), (by first | rfl | (simp; done) | (simp [*]; done)), H', ⟨by have := HJ1.out; first | omega | exact Nat.le_refl _⟩, ⟨by (with_reducible repeat first | apply bN | apply bD | apply bA); exact yQ.out⟩, ⟨eG HB.out⟩⟩
    case rest =>
     clear HC8; repeat first | clear p2 | clear c4 | clear c4b0 | clear c4b1 | clear c7 | clear c9 | clear c9b0 | clear c9b1 | clear zBO | clear zBN | clear zBM | clear zBL | clear zBK | clear zBJ | clear zWZ | clear zWY | clear zWX | clear zDN | clear zEI | clear zEH | clear zBI | clear zBH | clear zBG | clear zBF | clear zBE | clear zBD | clear zWI | clear zWH | clear zWG | clear zDM | clear zEF | clear zEE | clear p2
     obtain ⟨kq, x23_7, rfl, HA, HJ7, yQ, HB⟩ := hcut
     cases kq with
     | zero => exact absurd HA.out (by simp [zV.j1])
     | succ kj7 =>
      have H := HA.out; clear HA; simp only [zV.j1] at H; by_cases c12 : x23_7 = true
      ·
       subst c12; replace H : (some 8) = some r := by rw [if_pos rfl] at H; exact H
       obtain rfl := Option.some.inj H; go_wp2; repeat (go_quiet (fail); try go_wp2)
       go_ret
       exact ⟨by first | rfl | (simp [zI, zH] <;> rfl) | (simp [*, zI, zH] <;> rfl), eG HB.out⟩
      ·
       replace c12 := Bool.eq_false_iff.mpr c12; subst c12; replace H : (if (l0_2.length : Int) = (l0_0.length : Int) then (zV.l0 kj7 0 l0_0 l0_1 l0_2) else (some 10)) = some r := by rw [if_neg (show ¬ (false = true) by decide)] at H; exact H
       by_cases c13 : (l0_2.length : Int) = (l0_0.length : Int)
       ·
        rw [if_pos c13] at H; have c13b0 : ((l0_2.length : Int) == (l0_0.length : Int)) = true := beq_iff_eq.mpr c13; have c13b1 : ((l0_2.length : Int) != (l0_0.length : Int)) = false := bne_eq_false_iff_eq.mpr c13; have c13b2 : (l0_2.length == l0_0.length) = true := by first | simpa using c13 | (simp at c13 ⊢; omega)
        clear c13; have H' := zA.mk H; clear H; have zDB : wc.cell? ⟨kY, 0, none⟩ = some (.slice A0_0 l0_0.length c0_0) := (zC yQ.out 0).trans rfl; have zLZ : wc.cell? ⟨kY, 1, none⟩ = some (.slice A0_1 l0_1.length c0_1) := (zC yQ.out 1).trans rfl; have zLY : wc.cell? ⟨kY, 2, none⟩ = some (.slice A0_2 l0_2.length c0_2) := (zC yQ.out 2).trans rfl; have zCY := zB yQ.out 0; have zLU := zB yQ.out 1; have zLT := zB yQ.out 2; go_wp2; repeat (go_quiet (fail); try go_wp2)
        go_loopg [3] kj7 (fun kq v3 w' => ∃ (x3_3 : Int), v3 = .int .i64 x3_3 ∧ zA (zV.l0 kq x3_3 l0_0 l0_1 l0_2 = some r) ∧ zA (kq ≤ kj7) ∧ zA (w'.heap[kY]? = some (.cells #[(.slice A0_0 l0_0.length c0_0), (.slice A0_1 l0_1.length c0_1), (.slice A0_2 l0_2.length c0_2)] 25 (0, 0))) ∧ zA (Below w.heap.size w w'))
        case atStart => exact ⟨(0), (by first | rfl | (simp; done) | (simp [*]; done)), H', ⟨Nat.le_refl _⟩, ⟨by (with_reducible repeat first | apply bN | apply bD | apply bA); exact yQ.out⟩, ⟨eG HB.out⟩⟩
        case round =>
         clear H'; repeat first | clear c1 | clear p2 | clear c4 | clear c4b0 | clear c4b1 | clear c7 | clear c9 | clear c9b0 | clear c9b1 | clear c12 | clear c13 | clear c13b0 | clear c13b1 | clear c13b2 | clear zBO | clear zBN | clear zBM | clear zBL | clear zBK | clear zBJ | clear zDB | clear zLZ | clear zLY | clear zWZ | clear zWY | clear zWX | clear zDN | clear zEI | clear zEH | clear zBI | clear zBH | clear zBG | clear zBF | clear zBE | clear zBD | clear zCY | clear zLU | clear zLT | clear zWI | clear zWH | clear zWG | clear zDM | clear zEF | clear zEE | clear p2
         obtain ⟨x3_3, rfl, HA, HK3, yQ, HB⟩ := hrel
         cases gk with
         | zero => exact absurd HA.out (by simp [zV.l0])
         | succ k3 =>
          have H := HA.out; clear HA; simp only [zV.l0] at H; by_cases c15 : x3_3 < (l0_2.length : Int)
          ·
           rw [if_pos c15] at H; have c15b0 : decide (x3_3 < (l0_2.length : Int)) = true := decide_eq_true c15; clear c15; by_cases c16 : 0 ≤ x3_3
           ·
            rw [if_pos c16] at H; have c16b0 : decide (0 ≤ x3_3) = true := decide_eq_true c16; clear c16; by_cases c17 : ((zW l0_2 x3_3).length : Int) = (l0_1.length : Int)
            ·
             rw [if_pos c17] at H; have c17b0 : (((zW l0_2 x3_3).length : Int) == (l0_1.length : Int)) = true := beq_iff_eq.mpr c17; have c17b1 : (((zW l0_2 x3_3).length : Int) != (l0_1.length : Int)) = false := bne_eq_false_iff_eq.mpr c17; have c17b2 : ((zW l0_2 x3_3).length == l0_1.length) = true := by first | simpa using c17 | (simp at c17 ⊢; omega)
             clear c17; have H' := zA.mk H; clear H; have zDA : wr.cell? ⟨kY, 0, none⟩ = some (.slice A0_0 l0_0.length c0_0) := (zC yQ.out 0).trans rfl; have zFT : wr.cell? ⟨kY, 1, none⟩ = some (.slice A0_1 l0_1.length c0_1) := (zC yQ.out 1).trans rfl; have zFS : wr.cell? ⟨kY, 2, none⟩ = some (.slice A0_2 l0_2.length c0_2) := (zC yQ.out 2).trans rfl; have zCX := zB yQ.out 0; have zFP := zB yQ.out 1; have zFO := zB yQ.out 2; have p213 : 0 ≤ (x3_3 : Int) := of_decide_eq_true (by first | (with_reducible assumption) | assumption); have q213 : x3_3 < (l0_2.length : Int) := of_decide_eq_true (by first | (with_reducible assumption) | assumption); obtain ⟨ad213, A213_0, c213_0, e213, zHC, hl213_0, hi213_0⟩ := kQ HR0_2.out x3_3 p213 q213; cases e213; replace zHC := (HB.out.cell (World.block_lt_of_cell? w _ zHC)).trans zHC; have HR213_0 := zA.mk hi213_0; have HC213_0 := zA.mk hl213_0; clear hi213_0 hl213_0; replace p213 := eq_true p213; replace q213 := eq_true q213; go_wp2; repeat (go_quiet (fail); try go_wp2)
             go_roundg k3
             case measure => have := HJ1.out; have := HJ7.out; have := HK3.out; omega
             case rel => exact ⟨(wrap64 (x3_3 + 1)), (by first | rfl | (simp; done) | (simp [*]; done)), H', ⟨by have := HJ1.out; have := HJ7.out; have := HK3.out; omega⟩, ⟨by (with_reducible repeat first | apply bN | apply bD | apply bA); exact yQ.out⟩, ⟨eG HB.out⟩⟩
            ·
             rw [if_neg c17] at H; have c17b0 : (((zW l0_2 x3_3).length : Int) == (l0_1.length : Int)) = false := beq_eq_false_iff_ne.mpr c17; have c17b1 : (((zW l0_2 x3_3).length : Int) != (l0_1.length : Int)) = true := bne_iff_ne.mpr c17; have c17b2 : ((zW l0_2 x3_3).length == l0_1.length) = false := by first | simpa using c17 | (simp at c17 ⊢; omega)
             obtain rfl := Option.some.inj H; have zJI : wr.cell? ⟨kY, 0, none⟩ = some (.slice A0_0 l0_0.length c0_0) := (zC yQ.out 0).trans rfl; have zJH : wr.cell? ⟨kY, 1, none⟩ = some (.slice A0_1 l0_1.length c0_1) := (zC yQ.out 1).trans rfl; have zJG : wr.cell? ⟨kY, 2, none⟩ = some (.slice A0_2 l0_2.length c0_2) := (zC yQ.out 2).trans rfl; have zIV := zB yQ.out 0; have zIU := zB yQ.out 1; have zIT := zB yQ.out 2; have p213 : 0 ≤ (x3_3 : Int) := of_decide_eq_true (by first | (with_reducible assumption) | assumption); have q213 : x3_3 < (l0_2.length : Int) := of_decide_eq_true (by first | (with_reducible assumption) | assumption); obtain ⟨ad213, A213_0, c213_0, e213, zHC, hl213_0, hi213_0⟩ := kQ HR0_2.out x3_3 p213 q213; cases e213; replace zHC := (HB.out.cell (World.block_lt_of_cell? w _ zHC)).trans zHC; have HR213_0 := zA.mk hi213_0; have HC213_0 := zA.mk hl213_0; clear hi213_0 hl213_0; replace p213 := eq_true p213; replace q213 := eq_true q213; go_wp2; repeat (go_quiet (fail); try go_wp2)
             go_ret
             exact ⟨by first | rfl | (simp [zI, zH] <;> rfl) | (simp [*, zI, zH] <;> rfl), eG HB.out⟩
           · rw [if_neg c16] at H; exact absurd H (by simp)
          ·
           rw [if_neg c15] at H; have c15b0 : decide (x3_3 < (l0_2.length : Int)) = false := decide_eq_false c15; clear c15; obtain rfl := Option.some.inj H; have zJF : wr.cell? ⟨kY, 0, none⟩ = some (.slice A0_0 l0_0.length c0_0) := (zC yQ.out 0).trans rfl; have zJE : wr.cell? ⟨kY, 1, none⟩ = some (.slice A0_1 l0_1.length c0_1) := (zC yQ.out 1).trans rfl; have zJD : wr.cell? ⟨kY, 2, none⟩ = some (.slice A0_2 l0_2.length c0_2) := (zC yQ.out 2).trans rfl; have zIS := zB yQ.out 0; have zIR := zB yQ.out 1; have zIQ := zB yQ.out 2; go_wp2; repeat (go_quiet (fail); try go_wp2)
           go_ret
           exact ⟨by first | rfl | (simp [zI, zH] <;> rfl) | (simp [*, zI, zH] <;> rfl), eG HB.out⟩
       ·
        rw [if_neg c13] at H; have c13b0 : ((l0_2.length : Int) == (l0_0.length : Int)) = false := beq_eq_false_iff_ne.mpr c13; have c13b1 : ((l0_2.length : Int) != (l0_0.length : Int)) = true := bne_iff_ne.mpr c13; have c13b2 : (l0_2.length == l0_0.length) = false := by first | simpa using c13 | (simp at c13 ⊢; omega)
        obtain rfl := Option.some.inj H; have zJC : wc.cell? ⟨kY, 0, none⟩ = some (.slice A0_0 l0_0.length c0_0) := (zC yQ.out 0).trans rfl; have zJB : wc.cell? ⟨kY, 1, none⟩ = some (.slice A0_1 l0_1.length c0_1) := (zC yQ.out 1).trans rfl; have zJA : wc.cell? ⟨kY, 2, none⟩ = some (.slice A0_2 l0_2.length c0_2) := (zC yQ.out 2).trans rfl; have zIP := zB yQ.out 0; have zIO := zB yQ.out 1; have zIN := zB yQ.out 2; go_wp2; repeat (go_quiet (fail); try go_wp2)
        go_ret
        exact ⟨by first | rfl | (simp [zI, zH] <;> rfl) | (simp [*, zI, zH] <;> rfl), eG HB.out⟩
end Go.Proofs.YtmdfnambaedllaaDoor.Pr
namespace Go.Proofs.YtmdfnambaedllaaDoor.Pr
open Go.RowKit Go.Proofs.YtmdfnambaedllaaDoorW.PrintWords Go.Proofs.YtmdfnambaedllaaDoorW.PrintLast Go.Proofs.YtmdfnambaedllaaDoorW.PrintMore Go.Proofs.YtmdfnambaedllaaDoor.X
attribute [local go_sem] kJ kH zAS zAR uF uE kI kG   -- for this text's walks alone
set_option linter.unusedVariables false
set_option linter.unusedSimpArgs false
def wH.l0 : Nat → List Int → Int → Int → Int → Option (Bool)
 | 0, _, _, _, _ => none
 | k + 1, x0, x1, x2, x7 => if x7 < (x0.length : Int) then (if 0 ≤ x7 then (if (rd x0 x7) < x1 then (some false) else (if (rd x0 x7) > x2 then (some false) else (wH.l0 k x0 x1 x2 (wrap64 (x7 + 1))))) else (none)) else (some true)
def wH.f (k : Nat) (l0 : List Int) (a1 : Int) (a2 : Int) : Option (Bool) := wH.l0 k l0 a1 a2 0
set_option maxHeartbeats 8000000 in
set_option maxRecDepth 100000 in
theorem wH.calls (k : Nat) (A0 : Option Addr) (c0 : Nat) (l0 : List Int) (a1 : Int) (a2 : Int) (r : Bool) (w : World) (hr0 : Kd.C (Kd.int .i64) w A0 l0.length l0) (hc0 : l0.length ≤ c0) (h : wH.f k l0 a1 a2 = some r) :
  Calls Tryd.prog 41 #[.slice A0 l0.length c0, .int .i64 a1, .int .i64 a2] w fun e w' => e = .returned (.bool r) ∧ wI w w' := by
 have HR0 := zA.mk hr0; have HC0 := zA.mk hc0; clear hr0 hc0; have H : (wH.l0 k l0 a1 a2 0) = some r := h; clear h; have H' := zA.mk H; clear H; go_enter Tryd.func41, Tryd.ntmps41
 go_wp2; go_loopg [7] k (fun kq v7 w' => ∃ (x7_1 : Int), v7 = .int .i64 x7_1 ∧ zA (wH.l0 kq l0 a1 a2 x7_1 = some r) ∧ zA (kq ≤ k) ∧ wI w w')
 case atStart => exact ⟨(0), (by first | rfl | (simp; done) | (simp [*]; done)), H', ⟨Nat.le_refl _⟩, by repeat (first | exact wI.refl _ | apply wI.step)⟩
 case round =>
  clear H'; try clear p2
  obtain ⟨x7_1, rfl, HA, HK1, ⟨m1, rfl⟩⟩ := hrel
  cases gk with
  | zero => exact absurd HA.out (by simp [wH.l0])
  | succ k1 =>
   have H := HA.out; clear HA; simp only [wH.l0] at H; by_cases c4 : x7_1 < (l0.length : Int)
   ·
    rw [if_pos c4] at H; have c4b0 : decide (x7_1 < (l0.length : Int)) = true := decide_eq_true c4; clear c4; by_cases c5 : 0 ≤ x7_1
    ·
     rw [if_pos c5] at H; have c5b0 : decide (0 ≤ x7_1) = true := decide_eq_true c5; clear c5; by_cases c6 : (rd l0 x7_1) < a1
     ·
      rw [if_pos c6] at H; have c6b0 : decide ((rd l0 x7_1) < a1) = true := decide_eq_true c6; clear c6; obtain rfl := Option.some.inj H; have p214 : 0 ≤ (x7_1 : Int) := of_decide_eq_true (by first | (with_reducible assumption) | assumption); have q214 : x7_1 < (l0.length : Int) := of_decide_eq_true (by first | (with_reducible assumption) | assumption); obtain ⟨ad214, e214, zVZ⟩ := Kd.qC HR0.out x7_1 p214 q214; cases e214; replace p214 := eq_true p214; replace q214 := eq_true q214; go_wp2; go_ret
      exact ⟨by first | rfl | (simp; done) | (simp [*]; done), by repeat (first | exact wI.refl _ | apply wI.step)⟩
     ·
      rw [if_neg c6] at H; have c6b0 : decide ((rd l0 x7_1) < a1) = false := decide_eq_false c6; clear c6; by_cases c7 : (rd l0 x7_1) > a2
      ·
       rw [if_pos c7] at H; have c7b0 : decide (a2 < (rd l0 x7_1)) = true := decide_eq_true c7; clear c7; obtain rfl := Option.some.inj H; have p214 : 0 ≤ (x7_1 : Int) := of_decide_eq_true (by first | (with_reducible assumption) | assumption); have q214 : x7_1 < (l0.length : Int) := of_decide_eq_true (by first | (with_reducible assumption) | assumption); obtain ⟨ad214, e214, zVZ⟩ := Kd.qC HR0.out x7_1 p214 q214; cases e214; replace p214 := eq_true p214; replace q214 := eq_true q214; have p215 : 0 ≤ (x7_1 : Int) := of_decide_eq_true (by first | (with_reducible assumption) | assumption); have q215 : x7_1 < (l0.length : Int) := of_decide_eq_true (by first | (with_reducible assumption) | assumption); obtain ⟨ad215, e215, hx215_0⟩ := Kd.qC HR0.out x7_1 p215 q215; obtain rfl : ad214 = ad215 := (by injection e215); replace p215 := eq_true p215; replace q215 := eq_true q215; go_wp2; go_ret
       exact ⟨by first | rfl | (simp; done) | (simp [*]; done), by repeat (first | exact wI.refl _ | apply wI.step)⟩
      ·
       rw [if_neg c7] at H; have c7b0 : decide (a2 < (rd l0 x7_1)) = false := decide_eq_false c7; clear c7; have H' := zA.mk H; clear H; have p214 : 0 ≤ (x7_1 : Int) := of_decide_eq_true (by first | (with_reducible assumption) | assumption); have q214 : x7_1 < (l0.length : Int) := of_decide_eq_true (by first | (with_reducible assumption) | assumption); obtain ⟨ad214, e214, zVZ⟩ := Kd.qC HR0.out x7_1 p214 q214; cases e214; replace p214 := eq_true p214; replace q214 := eq_true q214; have p215 : 0 ≤ (x7_1 : Int) := of_decide_eq_true (by first | (with_reducible assumption) | assumption); have q215 : x7_1 < (l0.length : Int) := of_decide_eq_true (by first | (with_reducible assumption) | assumption); obtain ⟨ad215, e215, hx215_0⟩ := Kd.qC HR0.out x7_1 p215 q215; obtain rfl : ad214 = ad215 := (by injection e215); replace p215 := eq_true p215; replace q215 := eq_true q215; go_wp2; go_roundg k1
       case measure => have := HK1.out; omega
       case rel => exact ⟨(wrap64 (x7_1 + 1)), (by first | rfl | (simp; done) | (simp [*]; done)), H', ⟨by have := HK1.out; omega⟩, by repeat (first | exact wI.refl _ | apply wI.step)⟩
    · rw [if_neg c5] at H; exact absurd H (by simp)
   ·
    rw [if_neg c4] at H; have c4b0 : decide (x7_1 < (l0.length : Int)) = false := decide_eq_false c4; clear c4; obtain rfl := Option.some.inj H; go_wp2; go_ret
    exact ⟨by first | rfl | (simp; done) | (simp [*]; done), by repeat (first | exact wI.refl _ | apply wI.step)⟩
def vC.l0 : Nat → List Int → Int → Option (Bool)
 | 0, _, _ => none
 | k + 1, x0, x3 => if x3 < (x0.length : Int) then (if 0 ≤ x3 then (if 0 ≤ (wrap64 (x3 - 1)) then (if (wrap64 (x3 - 1)) < (x0.length : Int) then (if (rd x0 x3) ≤ (rd x0 (wrap64 (x3 - 1))) then (some false) else (vC.l0 k x0 (wrap64 (x3 + 1)))) else (none)) else (none)) else (none)) else (some true)
def vC.f (k : Nat) (l0 : List Int) : Option (Bool) := vC.l0 k l0 1
set_option maxHeartbeats 8000000 in
set_option maxRecDepth 100000 in
theorem vC.calls (k : Nat) (A0 : Option Addr) (c0 : Nat) (l0 : List Int) (r : Bool) (w : World) (hr0 : Kd.C (Kd.int .i64) w A0 l0.length l0) (hc0 : l0.length ≤ c0) (h : vC.f k l0 = some r) :
  Calls Tryd.prog 42 #[.slice A0 l0.length c0] w fun e w' => e = .returned (.bool r) ∧ wI w w' := by
 have HR0 := zA.mk hr0; have HC0 := zA.mk hc0; clear hr0 hc0; have H : (vC.l0 k l0 1) = some r := h; clear h; have H' := zA.mk H; clear H; go_enter Tryd.func42, Tryd.ntmps42
 go_wp2; repeat (go_quiet (fail); try go_wp2)
 go_loopg [3] k (fun kq v3 w' => ∃ (x3_1 : Int), v3 = .int .i64 x3_1 ∧ zA (vC.l0 kq l0 x3_1 = some r) ∧ zA (kq ≤ k) ∧ wI w w')
 case atStart => exact ⟨(1), (by first | rfl | (simp; done) | (simp [*]; done)), H', ⟨Nat.le_refl _⟩, by repeat (first | exact wI.refl _ | apply wI.step)⟩
 case round =>
  clear H'; obtain ⟨x3_1, rfl, HA, HK1, ⟨m1, rfl⟩⟩ := hrel
  cases gk with
  | zero => exact absurd HA.out (by simp [vC.l0])
  | succ k1 =>
   have H := HA.out; clear HA; simp only [vC.l0] at H; by_cases c2 : x3_1 < (l0.length : Int)
   ·
    rw [if_pos c2] at H; have c2b0 : decide (x3_1 < (l0.length : Int)) = true := decide_eq_true c2; clear c2; by_cases c3 : 0 ≤ x3_1
    ·
     rw [if_pos c3] at H; have c3b0 : decide (0 ≤ x3_1) = true := decide_eq_true c3; clear c3; obtain ⟨ji4, hji4⟩ : ∃ j_ : Int, (wrap64 (x3_1 - 1)) = j_ := ⟨_, rfl⟩; replace H : (if 0 ≤ (ji4) then (if (ji4) < (l0.length : Int) then (if (rd l0 x3_1) ≤ (rd l0 (ji4)) then (some false) else (vC.l0 k1 l0 (wrap64 (x3_1 + 1)))) else (none)) else (none)) = some r := by first | (rw [hji4] at H; exact H) | (simp only [hji4] at H ⊢; exact H)
     have hji4w : (IntKind.i64.wrap (x3_1 - 1)) = ji4 := (wX _).trans hji4; by_cases c5 : 0 ≤ (ji4)
     ·
      rw [if_pos c5] at H; have c5b0 : decide (0 ≤ (ji4)) = true := decide_eq_true c5; clear c5; by_cases c6 : (ji4) < (l0.length : Int)
      ·
       rw [if_pos c6] at H; have c6b0 : decide ((ji4) < (l0.length : Int)) = true := decide_eq_true c6; clear c6; by_cases c7 : (rd l0 x3_1) ≤ (rd l0 (ji4))
       ·
        rw [if_pos c7] at H; have c7b0 : decide ((rd l0 x3_1) ≤ (rd l0 (ji4))) = true := decide_eq_true c7; clear c7; obtain rfl := Option.some.inj H; have p216 : 0 ≤ (x3_1 : Int) := of_decide_eq_true (by first | (with_reducible assumption) | assumption); have q216 : x3_1 < (l0.length : Int) := of_decide_eq_true (by first | (with_reducible assumption) | assumption); obtain ⟨ad216, e216, hx216_0⟩ := Kd.qC HR0.out x3_1 p216 q216; cases e216; replace p216 := eq_true p216; replace q216 := eq_true q216; have p217 : 0 ≤ ((ji4) : Int) := of_decide_eq_true (by first | (with_reducible assumption) | assumption); have q217 : (ji4) < (l0.length : Int) := of_decide_eq_true (by first | (with_reducible assumption) | assumption); obtain ⟨ad217, e217, hx217_0⟩ := Kd.qC HR0.out (ji4) p217 q217; obtain rfl : ad216 = ad217 := (by injection e217); replace p217 := eq_true p217; replace q217 := eq_true q217; go_wp2; repeat (go_quiet (fail); try go_wp2)
        go_ret
        exact ⟨by first | rfl | (simp; done) | (simp only [← hji4] <;> (first | rfl | simp)) | (simp [*]; done), by repeat (first | exact wI.refl _ | apply wI.step)⟩
       ·
        rw [if_neg c7] at H; have c7b0 : decide ((rd l0 x3_1) ≤ (rd l0 (ji4))) = false := decide_eq_false c7; clear c7; have H' := zA.mk H; clear H; have p216 : 0 ≤ (x3_1 : Int) := of_decide_eq_true (by first | (with_reducible assumption) | assumption); have q216 : x3_1 < (l0.length : Int) := of_decide_eq_true (by first | (with_reducible assumption) | assumption); obtain ⟨ad216, e216, hx216_0⟩ := Kd.qC HR0.out x3_1 p216 q216; cases e216; replace p216 := eq_true p216; replace q216 := eq_true q216; have p217 : 0 ≤ ((ji4) : Int) := of_decide_eq_true (by first | (with_reducible assumption) | assumption); have q217 : (ji4) < (l0.length : Int) := of_decide_eq_true (by first | (with_reducible assumption) | assumption); obtain ⟨ad217, e217, hx217_0⟩ := Kd.qC HR0.out (ji4) p217 q217; obtain rfl : ad216 = ad217 := (by injection e217); replace p217 := eq_true p217; replace q217 := eq_true q217; go_wp2; repeat (go_quiet (fail); try go_wp2)
        go_roundg k1
        case measure => have := HK1.out; omega
        case rel => exact ⟨(wrap64 (x3_1 + 1)), (by first | rfl | (simp; done) | (simp [*]; done)), H', ⟨by have := HK1.out; omega⟩, by repeat (first | exact wI.refl _ | apply wI.step)⟩
      · rw [if_neg c6] at H; exact absurd H (by simp)
     · rw [if_neg c5] at H; exact absurd H (by simp)
    · rw [if_neg c3] at H; exact absurd H (by simp)
   ·
    rw [if_neg c2] at H; have c2b0 : decide (x3_1 < (l0.length : Int)) = false := decide_eq_false c2; clear c2; obtain rfl := Option.some.inj H; go_wp2; repeat (go_quiet (fail); try go_wp2)
    go_ret
    exact ⟨by first | rfl | (simp; done) | (simp [*]; done), by repeat (first | exact wI.refl _ | apply wI.step)⟩
end Go.Proofs.YtmdfnambaedllaaDoor.Pr
namespace Go.Proofs.YtmdfnambaedllaaDoor.Pr
open Go.RowKit Go.Proofs.YtmdfnambaedllaaDoorW.PrintWords Go.Proofs.YtmdfnambaedllaaDoorW.PrintLast Go.Proofs.YtmdfnambaedllaaDoorW.PrintMore Go.Proofs.YtmdfnambaedllaaDoor.X
attribute [local go_sem] kJ kH zAS zAR uF uE kI kG   -- for this text's walks alone
set_option linter.unusedVariables false
set_option linter.unusedSimpArgs false
mutual
def zF.j0 : Nat → Bool → List Int → List Int → List (List Int) → Option (Int)
 | 0, _, _, _, _ => none
 | k + 1, x21, zAP, zAF, yM => if x21 = true then (some 2) else (zF.l0 k 0 zAP zAF yM)
def zF.l0 : Nat → Int → List Int → List Int → List (List Int) → Option (Int)
 | 0, _, _, _, _ => none
 | k + 1, x4, zAP, zAF, yM => if x4 < (yM.length : Int) then (if 0 ≤ x4 then ((wH.f k (zW yM x4) 0 10000).bind fun t223 => (if t223 = true then (zF.l0 k (wrap64 (x4 + 1)) zAP zAF yM) else (some 2))) else (none)) else ((vC.f k zAP).bind fun t224 => (if t224 = true then ((vC.f k zAF).bind fun t225 => (zF.j2 k (!t225) zAP zAF yM)) else (zF.j2 k true zAP zAF yM)))
def zF.j2 : Nat → Bool → List Int → List Int → List (List Int) → Option (Int)
 | 0, _, _, _, _ => none
 | k + 1, x45, zAP, zAF, yM => if x45 = true then (some 5) else (zF.l1 k 0 zAP zAF yM)
def zF.l1 : Nat → Int → List Int → List Int → List (List Int) → Option (Int)
 | 0, _, _, _, _ => none
 | k + 1, x5, zAP, zAF, yM => if x5 < (yM.length : Int) then (zF.l2 k x5 0 zAP zAF yM) else (some 0)
def zF.l2 : Nat → Int → Int → List Int → List Int → List (List Int) → Option (Int)
 | 0, _, _, _, _, _ => none
 | k + 1, x5, x6, zAP, zAF, yM => if x6 < (zAF.length : Int) then (if x6 > 0 then (if 0 ≤ x5 then (if x5 < (yM.length : Int) then (if 0 ≤ x6 then (if x6 < ((zW yM x5).length : Int) then (if 0 ≤ (wrap64 (x6 - 1)) then (if (wrap64 (x6 - 1)) < ((zW yM x5).length : Int) then (if (rd (zW yM x5) x6) < (rd (zW yM x5) (wrap64 (x6 - 1))) then (some 18) else (if x5 > 0 then (if 0 ≤ (wrap64 (x5 - 1)) then (if (wrap64 (x5 - 1)) < (yM.length : Int) then (if x6 < ((zW yM (wrap64 (x5 - 1))).length : Int) then (if (rd (zW yM x5) x6) > (rd (zW yM (wrap64 (x5 - 1))) x6) then (some 18) else (zF.l2 k x5 (wrap64 (x6 + 1)) zAP zAF yM)) else (none)) else (none)) else (none)) else (zF.l2 k x5 (wrap64 (x6 + 1)) zAP zAF yM))) else (none)) else (none)) else (none)) else (none)) else (none)) else (none)) else (if x5 > 0 then (if 0 ≤ x5 then (if x5 < (yM.length : Int) then (if 0 ≤ x6 then (if x6 < ((zW yM x5).length : Int) then (if 0 ≤ (wrap64 (x5 - 1)) then (if (wrap64 (x5 - 1)) < (yM.length : Int) then (if x6 < ((zW yM (wrap64 (x5 - 1))).length : Int) then (if (rd (zW yM x5) x6) > (rd (zW yM (wrap64 (x5 - 1))) x6) then (some 18) else (zF.l2 k x5 (wrap64 (x6 + 1)) zAP zAF yM)) else (none)) else (none)) else (none)) else (none)) else (none)) else (none)) else (none)) else (zF.l2 k x5 (wrap64 (x6 + 1)) zAP zAF yM))) else (zF.l1 k (wrap64 (x5 + 1)) zAP zAF yM)
end
def zF.f (k : Nat) (l0_0 : List Int) (l0_1 : List Int) (l0_2 : List (List Int)) : Option (Int) := (zV.f k l0_0 l0_1 l0_2).bind fun t219 => (if t219 = 0 then ((wH.f k l0_0 (-400) 600).bind fun t220 => (if t220 = true then ((wH.f k l0_1 0 10000).bind fun t221 => (zF.j0 k (!t221) l0_0 l0_1 l0_2)) else (zF.j0 k true l0_0 l0_1 l0_2))) else (some t219))
set_option maxHeartbeats 8000000 in
set_option maxRecDepth 100000 in
theorem zF.calls (k : Nat) (A0_0 : Option Addr) (c0_0 : Nat) (l0_0 : List Int) (A0_1 : Option Addr) (c0_1 : Nat) (l0_1 : List Int) (A0_2 : Option Addr) (c0_2 : Nat) (l0_2 : List (List Int)) (r : Int) (w : World) (hr0_0 : Kd.C (Kd.int .i64) w A0_0 l0_0.length l0_0) (zAW : l0_0.length ≤ c0_0) (hr0_1 : Kd.C (Kd.int .i64) w A0_1 l0_1.length l0_1) (zAV : l0_1.length ≤ c0_1) (hr0_2 : Kd.C (Kd.slice 3 (Kd.int .i64)) w A0_2 l0_2.length l0_2) (zAU : l0_2.length ≤ c0_2) (h : zF.f k l0_0 l0_1 l0_2 = some r) :
  Calls Tryd.prog 19 #[.agg #[.slice A0_0 l0_0.length c0_0, .slice A0_1 l0_1.length c0_1, .slice A0_2 l0_2.length c0_2]] w fun e w' => e = .returned (.int .i64 r) ∧ Below w.heap.size w w' := by
 have hu25 := Tryd.underlying25; have HR0_0 := zA.mk hr0_0; have HC0_0 := zA.mk zAW; clear hr0_0 zAW; have HR0_1 := zA.mk hr0_1; have HC0_1 := zA.mk zAV; clear hr0_1 zAV; have HR0_2 := zA.mk hr0_2; have HC0_2 := zA.mk zAU; clear hr0_2 zAU; have HB := zA.mk (Below.refl w.heap.size w); have H : ((zV.f k l0_0 l0_1 l0_2).bind fun t219 => (if t219 = 0 then ((wH.f k l0_0 (-400) 600).bind fun t220 => (if t220 = true then ((wH.f k l0_1 0 10000).bind fun t221 => (zF.j0 k (!t221) l0_0 l0_1 l0_2)) else (zF.j0 k true l0_0 l0_1 l0_2))) else (some t219))) = some r := h; clear h; replace H := Option.bind_eq_some_iff.mp H; obtain ⟨t219, A20, H⟩ := H; replace H : (if t219 = 0 then ((wH.f k l0_0 (-400) 600).bind fun t220 => (if t220 = true then ((wH.f k l0_1 0 10000).bind fun t221 => (zF.j0 k (!t221) l0_0 l0_1 l0_2)) else (zF.j0 k true l0_0 l0_1 l0_2))) else (some t219)) = some r := H; have A2 := zA.mk A20; clear A20; by_cases c3 : t219 = 0
 ·
  rw [if_pos c3] at H; have c3b0 : (t219 == 0) = true := beq_iff_eq.mpr c3; have c3b1 : (t219 != 0) = false := bne_eq_false_iff_eq.mpr c3; clear c3; have HC4 := zA.mk H; clear H; go_enter Tryd.func19, Tryd.ntmps19
  go_upto_region 4 with (first | ((with_reducible refine vH (N := 1) rfl ?_); refine vD ?hg (N := 1) ?hd (cs := #[.slice A0_0 l0_0.length c0_0, .slice A0_1 l0_1.length c0_1, .slice A0_2 l0_2.length c0_2]) (t := 25) ?hr ?_; (case hd => rfl); (case hg => rfl); (case hr => first | (go_simp; done) | (go_simp; rfl)); intro yA hg w5 hbox hb; have n0_ := zA.mk (zG (eG HB.out) hb); have n1_ := zA.mk (hbox); have n2_ := zA.mk ((by rw [hg]; exact (zD (eG HB.out)) : w.heap.size ≤ yA)); have n3_ := zA.mk ((by rw [hg]; exact (zD (eG HB.out)) : w.heap.size ≤ yA)); clear HB; have HB := n0_; have vE := n1_; have zYJ := n2_; have zMF := n3_; have zQS := geI zMF; clear n0_ n1_ n2_ n3_; clear hb hbox hg; have zDN : w5.cell? ⟨yA, 0, none⟩ = some (.slice A0_0 l0_0.length c0_0) := (zC vE.out 0).trans rfl; have zEI : w5.cell? ⟨yA, 1, none⟩ = some (.slice A0_1 l0_1.length c0_1) := (zC vE.out 1).trans rfl; have zEH : w5.cell? ⟨yA, 2, none⟩ = some (.slice A0_2 l0_2.length c0_2) := (zC vE.out 2).trans rfl; have zDM := zB vE.out 0; have zEF := zB vE.out 1; have zEE := zB vE.out 2) | (go_at_call 40; (with_reducible refine (zV.calls k _ _ l0_0 _ _ l0_1 _ _ l0_2 t219 _ ?side1 ?side2 ?side3 ?side4 ?side5 ?side6 A2.out).mono ?_); (case side1 => repeat (first | exact (Kd.zX HR0_0.out HB.out) | (with_reducible refine Kd.zP ?_ _) | (with_reducible refine Kd.zO ?_ _) | (with_reducible refine Kd.zY ?_))); (case side2 => exact HC0_0.out); (case side3 => repeat (first | exact (Kd.zX HR0_1.out HB.out) | (with_reducible refine Kd.zP ?_ _) | (with_reducible refine Kd.zO ?_ _) | (with_reducible refine Kd.zY ?_))); (case side4 => exact HC0_1.out); (case side5 => repeat (first | exact (Kd.zX HR0_2.out HB.out) | (with_reducible refine Kd.zP ?_ _) | (with_reducible refine Kd.zO ?_ _) | (with_reducible refine Kd.zY ?_))); (case side6 => exact HC0_2.out); rintro e w7 ⟨rfl, hb⟩; have n0_ := zA.mk (zM (bG vE.out) hb); have n1_ := zA.mk (zG (eG HB.out) hb); clear vE; clear HB; have vE := n0_; have HB := n1_; clear n0_ n1_; (try clear hb); (try clear hb2); (try clear hk); (try clear hi)))
  repeat (go_quiet (first | ((with_reducible refine vH (N := 1) rfl ?_); refine vD ?hg (N := 1) ?hd (cs := #[.slice A0_0 l0_0.length c0_0, .slice A0_1 l0_1.length c0_1, .slice A0_2 l0_2.length c0_2]) (t := 25) ?hr ?_; (case hd => rfl); (case hg => rfl); (case hr => first | (go_simp; done) | (go_simp; rfl)); intro yA hg w5 hbox hb; have n0_ := zA.mk (zG (eG HB.out) hb); have n1_ := zA.mk (hbox); have n2_ := zA.mk ((by rw [hg]; exact (zD (eG HB.out)) : w.heap.size ≤ yA)); have n3_ := zA.mk ((by rw [hg]; exact (zD (eG HB.out)) : w.heap.size ≤ yA)); clear HB; have HB := n0_; have vE := n1_; have zYJ := n2_; have zMF := n3_; have zQS := geI zMF; clear n0_ n1_ n2_ n3_; clear hb hbox hg; have zDN : w5.cell? ⟨yA, 0, none⟩ = some (.slice A0_0 l0_0.length c0_0) := (zC vE.out 0).trans rfl; have zEI : w5.cell? ⟨yA, 1, none⟩ = some (.slice A0_1 l0_1.length c0_1) := (zC vE.out 1).trans rfl; have zEH : w5.cell? ⟨yA, 2, none⟩ = some (.slice A0_2 l0_2.length c0_2) := (zC vE.out 2).trans rfl; have zDM := zB vE.out 0; have zEF := zB vE.out 1; have zEE := zB vE.out 2) | (go_at_call 40; (with_reducible refine (zV.calls k _ _ l0_0 _ _ l0_1 _ _ l0_2 t219 _ ?side1 ?side2 ?side3 ?side4 ?side5 ?side6 A2.out).mono ?_); (case side1 => repeat (first | exact (Kd.zX HR0_0.out HB.out) | (with_reducible refine Kd.zP ?_ _) | (with_reducible refine Kd.zO ?_ _) | (with_reducible refine Kd.zY ?_))); (case side2 => exact HC0_0.out); (case side3 => repeat (first | exact (Kd.zX HR0_1.out HB.out) | (with_reducible refine Kd.zP ?_ _) | (with_reducible refine Kd.zO ?_ _) | (with_reducible refine Kd.zY ?_))); (case side4 => exact HC0_1.out); (case side5 => repeat (first | exact (Kd.zX HR0_2.out HB.out) | (with_reducible refine Kd.zP ?_ _) | (with_reducible refine Kd.zO ?_ _) | (with_reducible refine Kd.zY ?_))); (case side6 => exact HC0_2.out); rintro e w7 ⟨rfl, hb⟩; have n0_ := zA.mk (zM (bG vE.out) hb); have n1_ := zA.mk (zG (eG HB.out) hb); clear vE; clear HB; have vE := n0_; have HB := n1_; clear n0_ n1_; (try clear hb); (try clear hb2); (try clear hk); (try clear hi))); go_upto_region 4 with (first | ((with_reducible refine vH (N := 1) rfl ?_); refine vD ?hg (N := 1) ?hd (cs := #[.slice A0_0 l0_0.length c0_0, .slice A0_1 l0_1.length c0_1, .slice A0_2 l0_2.length c0_2]) (t := 25) ?hr ?_; (case hd => rfl); (case hg => rfl); (case hr => first | (go_simp; done) | (go_simp; rfl)); intro yA hg w5 hbox hb; have n0_ := zA.mk (zG (eG HB.out) hb); have n1_ := zA.mk (hbox); have n2_ := zA.mk ((by rw [hg]; exact (zD (eG HB.out)) : w.heap.size ≤ yA)); have n3_ := zA.mk ((by rw [hg]; exact (zD (eG HB.out)) : w.heap.size ≤ yA)); clear HB; have HB := n0_; have vE := n1_; have zYJ := n2_; have zMF := n3_; have zQS := geI zMF; clear n0_ n1_ n2_ n3_; clear hb hbox hg; have zDN : w5.cell? ⟨yA, 0, none⟩ = some (.slice A0_0 l0_0.length c0_0) := (zC vE.out 0).trans rfl; have zEI : w5.cell? ⟨yA, 1, none⟩ = some (.slice A0_1 l0_1.length c0_1) := (zC vE.out 1).trans rfl; have zEH : w5.cell? ⟨yA, 2, none⟩ = some (.slice A0_2 l0_2.length c0_2) := (zC vE.out 2).trans rfl; have zDM := zB vE.out 0; have zEF := zB vE.out 1; have zEE := zB vE.out 2) | (go_at_call 40; (with_reducible refine (zV.calls k _ _ l0_0 _ _ l0_1 _ _ l0_2 t219 _ ?side1 ?side2 ?side3 ?side4 ?side5 ?side6 A2.out).mono ?_); (case side1 => repeat (first | exact (Kd.zX HR0_0.out HB.out) | (with_reducible refine Kd.zP ?_ _) | (with_reducible refine Kd.zO ?_ _) | (with_reducible refine Kd.zY ?_))); (case side2 => exact HC0_0.out); (case side3 => repeat (first | exact (Kd.zX HR0_1.out HB.out) | (with_reducible refine Kd.zP ?_ _) | (with_reducible refine Kd.zO ?_ _) | (with_reducible refine Kd.zY ?_))); (case side4 => exact HC0_1.out); (case side5 => repeat (first | exact (Kd.zX HR0_2.out HB.out) | (with_reducible refine Kd.zP ?_ _) | (with_reducible refine Kd.zO ?_ _) | (with_reducible refine Kd.zY ?_))); (case side6 => exact HC0_2.out); rintro e w7 ⟨rfl, hb⟩; have n0_ := zA.mk (zM (bG vE.out) hb); have n1_ := zA.mk (zG (eG HB.out) hb); clear vE; clear HB; have vE := n0_; have HB := n1_; clear n0_ n1_; (try clear hb); (try clear hb2); (try clear hk); (try clear hi))))
  (try simp only [Act.put, sIA, sC0, sCS])
  go_cut [21] (fun v21 wc => ∃ (kq : Nat) (x21_3 : Bool), v21 = .bool x21_3 ∧ zA (zF.j0 kq x21_3 l0_0 l0_1 l0_2 = some r) ∧ zA (kq ≤ k) ∧ zA (wc.heap[yA]? = some (.cells #[(.slice A0_0 l0_0.length c0_0), (.slice A0_1 l0_1.length c0_1), (.slice A0_2 l0_2.length c0_2)] 25 (0, 0))) ∧ zA (Below w.heap.size w wc))
  case first =>
   have H := HC4.out; clear HC4; replace H := Option.bind_eq_some_iff.mp H; obtain ⟨t220, A80, H⟩ := H; replace H : (if t220 = true then ((wH.f k l0_1 0 10000).bind fun t221 => (zF.j0 k (!t221) l0_0 l0_1 l0_2)) else (zF.j0 k true l0_0 l0_1 l0_2)) = some r := H; have A8 := zA.mk A80; clear A80; by_cases c9 : t220 = true
   ·
    subst c9; replace H : ((wH.f k l0_1 0 10000).bind fun t221 => (zF.j0 k (!t221) l0_0 l0_1 l0_2)) = some r := by rw [if_pos rfl] at H; exact H
    replace H := Option.bind_eq_some_iff.mp H; obtain ⟨t221, A100, H⟩ := H; replace H : (zF.j0 k (!t221) l0_0 l0_1 l0_2) = some r := H; have A10 := zA.mk A100; clear A100; have H' := zA.mk H; clear H; have zBL : w7.cell? ⟨yA, 0, none⟩ = some (.slice A0_0 l0_0.length c0_0) := (zC vE.out 0).trans rfl; have zBK : w7.cell? ⟨yA, 1, none⟩ = some (.slice A0_1 l0_1.length c0_1) := (zC vE.out 1).trans rfl; have zBJ : w7.cell? ⟨yA, 2, none⟩ = some (.slice A0_2 l0_2.length c0_2) := (zC vE.out 2).trans rfl; have zBF := zB vE.out 0; have zBE := zB vE.out 1; have zBD := zB vE.out 2; go_wp2_with (first | (go_at_call 41; (with_reducible refine (wH.calls k _ _ l0_0 (-400) 600 true _ ?side1 ?side2 A8.out).mono ?_); (case side1 => repeat (first | exact (Kd.zX HR0_0.out HB.out) | (with_reducible refine Kd.zP ?_ _) | (with_reducible refine Kd.zO ?_ _) | (with_reducible refine Kd.zY ?_))); (case side2 => exact HC0_0.out); rintro e w' ⟨rfl, ⟨nd, rfl⟩⟩; (try first | exact ⟨rfl, _, World.drewN_drewN _ _ _⟩ | exact ⟨rfl, _, Eq.trans (World.drewN_drewN _ _ _) (congrArg (World.drewN _) (Nat.add_assoc _ _ _))⟩)) | (go_at_call 41; (with_reducible refine (wH.calls k _ _ l0_1 0 10000 t221 _ ?side1 ?side2 A10.out).mono ?_); (case side1 => repeat (first | exact (Kd.zX HR0_1.out (eG HB.out)) | (with_reducible refine Kd.zP ?_ _) | (with_reducible refine Kd.zO ?_ _) | (with_reducible refine Kd.zY ?_))); (case side2 => exact HC0_1.out); rintro e w' ⟨rfl, ⟨nd, rfl⟩⟩; (try first | exact ⟨rfl, _, World.drewN_drewN _ _ _⟩ | exact ⟨rfl, _, Eq.trans (World.drewN_drewN _ _ _) (congrArg (World.drewN _) (Nat.add_assoc _ _ _))⟩)))
    repeat (go_quiet (first | (go_at_call 41; (with_reducible refine (wH.calls k _ _ l0_0 (-400) 600 true _ ?side1 ?side2 A8.out).mono ?_); (case side1 => repeat (first | exact (Kd.zX HR0_0.out HB.out) | (with_reducible refine Kd.zP ?_ _) | (with_reducible refine Kd.zO ?_ _) | (with_reducible refine Kd.zY ?_))); (case side2 => exact HC0_0.out); rintro e w' ⟨rfl, ⟨nd, rfl⟩⟩; (try first | exact ⟨rfl, _, World.drewN_drewN _ _ _⟩ | exact ⟨rfl, _, Eq.trans (World.drewN_drewN _ _ _) (congrArg (World.drewN _) (Nat.add_assoc _ _ _))⟩)) | (go_at_call 41; (with_reducible refine (wH.calls k _ _ l0_1 0 10000 t221 _ ?side1 ?side2 A10.out).mono ?_); (case side1 => repeat (first | exact (Kd.zX HR0_1.out (eG HB.out)) | (with_reducible refine Kd.zP ?_ _) | (with_reducible refine Kd.zO ?_ _) | (with_reducible refine Kd.zY ?_))); (case side2 => exact HC0_1.out); rintro e w' ⟨rfl, ⟨nd, rfl⟩⟩; (try first | exact ⟨rfl, _, World.drewN_drewN _ _ _⟩ | exact ⟨rfl, _, Eq.trans (World.drewN_drewN _ _ _) (congrArg (World.drewN _) (Nat.add_assoc _ _ _))⟩))); try go_wp2_with (first | (go_at_call 41; (with_reducible refine (wH.calls k _ _ l0_0 (-400) 600 true _ ?side1 ?side2 A8.out).mono ?_); (case side1 => repeat (first | exact (Kd.zX HR0_0.out HB.out) | (with_reducible refine Kd.zP ?_ _) | (with_reducible refine Kd.zO ?_ _) | (with_reducible refine Kd.zY ?_))); (case side2 => exact HC0_0.out); rintro e w' ⟨rfl, ⟨nd, rfl⟩⟩; (try first | exact ⟨rfl, _, World.drewN_drewN _ _ _⟩ | exact ⟨rfl, _, Eq.trans (World.drewN_drewN _ _ _) (congrArg (World.drewN _) (Nat.add_assoc _ _ _))⟩)) | (go_at_call 41; (with_reducible refine (wH.calls k _ _ l0_1 0 10000 t221 _ ?side1 ?side2 A10.out).mono ?_); (case side1 => repeat (first | exact (Kd.zX HR0_1.out (eG HB.out)) | (with_reducible refine Kd.zP ?_ _) | (with_reducible refine Kd.zO ?_ _) | (with_reducible refine Kd.zY ?_))); (case side2 => exact HC0_1.out); rintro e w' ⟨rfl, ⟨nd, rfl⟩⟩; (try first | exact ⟨rfl, _, World.drewN_drewN _ _ _⟩ | exact ⟨rfl, _, Eq.trans (World.drewN_drewN _ _ _) (congrArg (World.drewN _) (Nat.add_assoc _ _ _))⟩))))
    go_meet
    case rel => exact ⟨_, (!t221), (by first | rfl | (simp; done) | (simp [*]; done)), H', ⟨by first | omega | exact Nat.le_refl _⟩, ⟨by (with_reducible repeat first | apply bN | apply bD | apply bA); exact vE.out⟩, ⟨eG HB.out⟩⟩
   ·
    replace c9 := Bool.eq_false_iff.mpr c9; subst c9; replace H : (zF.j0 k true l0_0 l0_1 l0_2) = some r := by rw [if_neg (show ¬ (false = true) by decide)] at H; exact H
    have H' := zA.mk H; clear H; have zDY : w7.cell? ⟨yA, 0, none⟩ = some (.slice A0_0 l0_0.length c0_0) := (zC vE.out 0).trans rfl; have zDX : w7.cell? ⟨yA, 1, none⟩ = some (.slice A0_1 l0_1.length c0_1) := (zC vE.out 1).trans rfl; have zDW : w7.cell? ⟨yA, 2, none⟩ = some (.slice A0_2 l0_2.length c0_2) := (zC vE.out 2).trans rfl; have zDV := zB vE.out 0; have zDU := zB vE.out 1; have zDT := zB vE.out 2; go_wp2_with (first | (go_at_call 41; (with_reducible refine (wH.calls k _ _ l0_0 (-400) 600 false _ ?side1 ?side2 A8.out).mono ?_); (case side1 => repeat (first | exact (Kd.zX HR0_0.out HB.out) | (with_reducible refine Kd.zP ?_ _) | (with_reducible refine Kd.zO ?_ _) | (with_reducible refine Kd.zY ?_))); (case side2 => exact HC0_0.out); rintro e w' ⟨rfl, ⟨nd, rfl⟩⟩; (try first | exact ⟨rfl, _, World.drewN_drewN _ _ _⟩ | exact ⟨rfl, _, Eq.trans (World.drewN_drewN _ _ _) (congrArg (World.drewN _) (Nat.add_assoc _ _ _))⟩)))
    repeat (go_quiet (first | (go_at_call 41; (with_reducible refine (wH.calls k _ _ l0_0 (-400) 600 false _ ?side1 ?side2 A8.out).mono ?_); (case side1 => repeat (first | exact (Kd.zX HR0_0.out HB.out) | (with_reducible refine Kd.zP ?_ _) | (with_reducible refine Kd.zO ?_ _) | (with_reducible refine Kd.zY ?_))); (case side2 => exact HC0_0.out); rintro e w' ⟨rfl, ⟨nd, rfl⟩⟩; (try first | exact ⟨rfl, _, World.drewN_drewN _ _ _⟩ | exact ⟨rfl, _, Eq.trans (World.drewN_drewN _ _ _) (congrArg (World.drewN _) (Nat.add_assoc _ _ _))⟩))); try go_wp2_with (first | (go_at_call 41; (with_reducible refine (wH.calls k _ _ l0_0 (-400) 600 false _ ?side1 ?side2 A8.out).mono ?_); (case side1 => repeat (first | exact (Kd.zX HR0_0.out HB.out) | (with_reducible refine Kd.zP ?_ _) | (with_reducible refine Kd.zO ?_ _) | (with_reducible refine Kd.zY ?_))); (case side2 => exact HC0_0.out); rintro e w' ⟨rfl, ⟨nd, rfl⟩⟩; (try first | exact ⟨rfl, _, World.drewN_drewN _ _ _⟩ | exact ⟨rfl, _, Eq.trans (World.drewN_drewN _ _ _) (congrArg (World.drewN _) (Nat.add_assoc _ _ _))⟩))))
    go_meet
    case rel => exact ⟨_, (true), (by first | rfl | (simp; done) | (simp [*]; done)), H', ⟨by first | omega | exact Nat.le_refl _⟩, ⟨by (with_reducible repeat first | apply bN | apply bD | apply bA); exact vE.out⟩, ⟨eG HB.out⟩⟩
  case rest =>
   clear HC4; repeat first | clear c1 | clear p2 | clear c3 | clear c3b0 | clear c3b1 | clear c9 | clear zBL | clear zBK | clear zBJ | clear zDY | clear zDX | clear zDW | clear zDN | clear zEI | clear zEH | clear zBF | clear zBE | clear zBD | clear zDV | clear zDU | clear zDT | clear zDM | clear zEF | clear zEE
   obtain ⟨kq, x21_3, rfl, HA, HJ3, vE, HB⟩ := hcut
   cases kq with
   | zero => exact absurd HA.out (by simp [zF.j0])
   | succ kj3 =>
    have H := HA.out; clear HA; simp only [zF.j0] at H; by_cases c13 : x21_3 = true
    ·
     subst c13; replace H : (some 2) = some r := by rw [if_pos rfl] at H; exact H
     obtain rfl := Option.some.inj H; go_wp2; repeat (go_quiet (fail); try go_wp2)
     go_ret
     exact ⟨by first | rfl | (simp [zI, zH] <;> rfl) | (simp [*, zI, zH] <;> rfl), eG HB.out⟩
    ·
     replace c13 := Bool.eq_false_iff.mpr c13; subst c13; replace H : (zF.l0 kj3 0 l0_0 l0_1 l0_2) = some r := by rw [if_neg (show ¬ (false = true) by decide)] at H; exact H
     have H' := zA.mk H; clear H; go_wp2; repeat (go_quiet (fail); try go_wp2)
     go_loopg [4] kj3 (fun kq v4 w' => ∃ (x4_2 : Int), v4 = .int .i64 x4_2 ∧ zA (zF.l0 kq x4_2 l0_0 l0_1 l0_2 = some r) ∧ zA (kq ≤ kj3) ∧ zA (w'.heap[yA]? = some (.cells #[(.slice A0_0 l0_0.length c0_0), (.slice A0_1 l0_1.length c0_1), (.slice A0_2 l0_2.length c0_2)] 25 (0, 0))) ∧ zA (Below w.heap.size w w'))
     case atStart => exact ⟨(0), (by first | rfl | (simp; done) | (simp [*]; done)), H', ⟨Nat.le_refl _⟩, ⟨by (with_reducible repeat first | apply bN | apply bD | apply bA); exact vE.out⟩, ⟨eG HB.out⟩⟩
     case round =>
      clear H'; repeat first | clear c1 | clear p2 | clear c3 | clear c3b0 | clear c3b1 | clear c9 | clear c13 | clear zBL | clear zBK | clear zBJ | clear zDY | clear zDX | clear zDW | clear zDN | clear zEI | clear zEH | clear zBF | clear zBE | clear zBD | clear zDV | clear zDU | clear zDT | clear zDM | clear zEF | clear zEE | clear p2
      obtain ⟨x4_2, rfl, HA, HK2, vE, HB⟩ := hrel
      cases gk with
      | zero => exact absurd HA.out (by simp [zF.l0])
      | succ k2 =>
       have H := HA.out; clear HA; simp only [zF.l0] at H; by_cases c14 : x4_2 < (l0_2.length : Int)
       ·
        rw [if_pos c14] at H; have c14b0 : decide (x4_2 < (l0_2.length : Int)) = true := decide_eq_true c14; clear c14; by_cases c15 : 0 ≤ x4_2
        ·
         rw [if_pos c15] at H; have c15b0 : decide (0 ≤ x4_2) = true := decide_eq_true c15; clear c15; replace H := Option.bind_eq_some_iff.mp H; obtain ⟨t223, A160, H⟩ := H; replace H : (if t223 = true then (zF.l0 k2 (wrap64 (x4_2 + 1)) l0_0 l0_1 l0_2) else (some 2)) = some r := H; have A16 := zA.mk A160; clear A160; by_cases c17 : t223 = true
         ·
          subst c17; replace H : (zF.l0 k2 (wrap64 (x4_2 + 1)) l0_0 l0_1 l0_2) = some r := by rw [if_pos rfl] at H; exact H
          have H' := zA.mk H; clear H; have zDA : wr.cell? ⟨yA, 0, none⟩ = some (.slice A0_0 l0_0.length c0_0) := (zC vE.out 0).trans rfl; have zFT : wr.cell? ⟨yA, 1, none⟩ = some (.slice A0_1 l0_1.length c0_1) := (zC vE.out 1).trans rfl; have zFS : wr.cell? ⟨yA, 2, none⟩ = some (.slice A0_2 l0_2.length c0_2) := (zC vE.out 2).trans rfl; have zCX := zB vE.out 0; have zFP := zB vE.out 1; have zFO := zB vE.out 2; have p222 : 0 ≤ (x4_2 : Int) := of_decide_eq_true (by first | (with_reducible assumption) | assumption); have q222 : x4_2 < (l0_2.length : Int) := of_decide_eq_true (by first | (with_reducible assumption) | assumption); obtain ⟨ad222, A222_0, c222_0, e222, zDS, hl222_0, hi222_0⟩ := kQ HR0_2.out x4_2 p222 q222; cases e222; replace zDS := (HB.out.cell (World.block_lt_of_cell? w _ zDS)).trans zDS; have HR222_0 := zA.mk hi222_0; have HC222_0 := zA.mk hl222_0; clear hi222_0 hl222_0; replace p222 := eq_true p222; replace q222 := eq_true q222; go_wp2_with (first | (go_at_call 41; (with_reducible refine (wH.calls k2 _ _ (zW l0_2 x4_2) 0 10000 true _ ?side1 ?side2 A16.out).mono ?_); (case side1 => repeat (first | exact (Kd.zX HR222_0.out HB.out) | (with_reducible refine Kd.zP ?_ _) | (with_reducible refine Kd.zO ?_ _) | (with_reducible refine Kd.zY ?_))); (case side2 => exact HC222_0.out); rintro e w' ⟨rfl, ⟨nd, rfl⟩⟩; (try first | exact ⟨rfl, _, World.drewN_drewN _ _ _⟩ | exact ⟨rfl, _, Eq.trans (World.drewN_drewN _ _ _) (congrArg (World.drewN _) (Nat.add_assoc _ _ _))⟩)))
          repeat (go_quiet (first | (go_at_call 41; (with_reducible refine (wH.calls k2 _ _ (zW l0_2 x4_2) 0 10000 true _ ?side1 ?side2 A16.out).mono ?_); (case side1 => repeat (first | exact (Kd.zX HR222_0.out HB.out) | (with_reducible refine Kd.zP ?_ _) | (with_reducible refine Kd.zO ?_ _) | (with_reducible refine Kd.zY ?_))); (case side2 => exact HC222_0.out); rintro e w' ⟨rfl, ⟨nd, rfl⟩⟩; (try first | exact ⟨rfl, _, World.drewN_drewN _ _ _⟩ | exact ⟨rfl, _, Eq.trans (World.drewN_drewN _ _ _) (congrArg (World.drewN _) (Nat.add_assoc _ _ _))⟩))); try go_wp2_with (first | (go_at_call 41; (with_reducible refine (wH.calls k2 _ _ (zW l0_2 x4_2) 0 10000 true _ ?side1 ?side2 A16.out).mono ?_); (case side1 => repeat (first | exact (Kd.zX HR222_0.out HB.out) | (with_reducible refine Kd.zP ?_ _) | (with_reducible refine Kd.zO ?_ _) | (with_reducible refine Kd.zY ?_))); (case side2 => exact HC222_0.out); rintro e w' ⟨rfl, ⟨nd, rfl⟩⟩; (try first | exact ⟨rfl, _, World.drewN_drewN _ _ _⟩ | exact ⟨rfl, _, Eq.trans (World.drewN_drewN _ _ _) (congrArg (World.drewN _) (Nat.add_assoc _ _ _))⟩))))
          go_roundg k2
          case measure => have := HJ3.out; have := HK2.out; omega
          case rel => exact ⟨(wrap64 (x4_2 + 1)), (by first | rfl | (simp; done) | (simp [*]; done)), H', ⟨by have := HJ3.out; have := HK2.out; omega⟩, ⟨by (with_reducible repeat first | apply bN | apply bD | apply bA); exact vE.out⟩, ⟨eG HB.out⟩⟩
         ·
          replace c17 := Bool.eq_false_iff.mpr c17; subst c17; replace H : (some 2) = some r := by rw [if_neg (show ¬ (false = true) by decide)] at H; exact H
          obtain rfl := Option.some.inj H; have zJI : wr.cell? ⟨yA, 0, none⟩ = some (.slice A0_0 l0_0.length c0_0) := (zC vE.out 0).trans rfl; have zJH : wr.cell? ⟨yA, 1, none⟩ = some (.slice A0_1 l0_1.length c0_1) := (zC vE.out 1).trans rfl; have zJG : wr.cell? ⟨yA, 2, none⟩ = some (.slice A0_2 l0_2.length c0_2) := (zC vE.out 2).trans rfl; have zIV := zB vE.out 0; have zIU := zB vE.out 1; have zIT := zB vE.out 2; have p222 : 0 ≤ (x4_2 : Int) := of_decide_eq_true (by first | (with_reducible assumption) | assumption); have q222 : x4_2 < (l0_2.length : Int) := of_decide_eq_true (by first | (with_reducible assumption) | assumption); obtain ⟨ad222, A222_0, c222_0, e222, zDS, hl222_0, hi222_0⟩ := kQ HR0_2.out x4_2 p222 q222; cases e222; replace zDS := (HB.out.cell (World.block_lt_of_cell? w _ zDS)).trans zDS; have HR222_0 := zA.mk hi222_0; have HC222_0 := zA.mk hl222_0; clear hi222_0 hl222_0; replace p222 := eq_true p222; replace q222 := eq_true q222; go_wp2_with (first | (go_at_call 41; (with_reducible refine (wH.calls k2 _ _ (zW l0_2 x4_2) 0 10000 false _ ?side1 ?side2 A16.out).mono ?_); (case side1 => repeat (first | exact (Kd.zX HR222_0.out HB.out) | (with_reducible refine Kd.zP ?_ _) | (with_reducible refine Kd.zO ?_ _) | (with_reducible refine Kd.zY ?_))); (case side2 => exact HC222_0.out); rintro e w' ⟨rfl, ⟨nd, rfl⟩⟩; (try first | exact ⟨rfl, _, World.drewN_drewN _ _ _⟩ | exact ⟨rfl, _, Eq.trans (World.drewN_drewN _ _ _) (congrArg (World.drewN _) (Nat.add_assoc _ _ _))⟩)))
          repeat (go_quiet (first | (go_at_call 41; (with_reducible refine (wH.calls k2 _ _ (zW l0_2 x4_2) 0 10000 false _ ?side1 ?side2 A16.out).mono ?_); (case side1 => repeat (first | exact (Kd.zX HR222_0.out HB.out) | (with_reducible refine Kd.zP ?_ _) | (with_reducible refine Kd.zO ?_ _) | (with_reducible refine Kd.zY ?_))); (case side2 => exact HC222_0.out); rintro e w' ⟨rfl, ⟨nd, rfl⟩⟩; (try first | exact ⟨rfl, _, World.drewN_drewN _ _ _⟩ | exact ⟨rfl, _, Eq.trans (World.drewN_drewN _ _ _) (congrArg (World.drewN _) (Nat.add_assoc _ _ _))⟩))); try go_wp2_with (first | (go_at_call 41; (with_reducible refine (wH.calls k2 _ _ (zW l0_2 x4_2) 0 10000 false _ ?side1 ?side2 A16.out).mono ?_); (case side1 => repeat (first | exact (Kd.zX HR222_0.out HB.out) | (with_reducible refine Kd.zP ?_ _) | (with_reducible refine Kd.zO ?_ _) | (with_reducible refine Kd.zY ?_))); (case side2 => exact HC222_0.out); rintro e w' ⟨rfl, ⟨nd, rfl⟩⟩; (try first | exact ⟨rfl, _, World.drewN_drewN _ _ _⟩ | exact ⟨rfl, _, Eq.trans (World.drewN_drewN _ _ _) (congrArg (World.drewN _) (Nat.add_assoc _ _ _))⟩))))
          go_ret
          exact ⟨by first | rfl | (simp [zI, zH] <;> rfl) | (simp [*, zI, zH] <;> rfl), eG HB.out⟩
        · rw [if_neg c15] at H; exact absurd H (by simp)
       ·
        rw [if_neg c14] at H; have c14b0 : decide (x4_2 < (l0_2.length : Int)) = false := decide_eq_false c14; clear c14; have HC20 := zA.mk H; clear H; have zJC : wr.cell? ⟨yA, 0, none⟩ = some (.slice A0_0 l0_0.length c0_0) := (zC vE.out 0).trans rfl; have zJB : wr.cell? ⟨yA, 1, none⟩ = some (.slice A0_1 l0_1.length c0_1) := (zC vE.out 1).trans rfl; have zJA : wr.cell? ⟨yA, 2, none⟩ = some (.slice A0_2 l0_2.length c0_2) := (zC vE.out 2).trans rfl; have zIP := zB vE.out 0; have zIO := zB vE.out 1; have zIN := zB vE.out 2; go_upto_region 11 with (fail)
        repeat (go_quiet (fail); go_upto_region 11 with (fail))
        go_cut [45] (fun v45 wc => ∃ (kq : Nat) (x45_19 : Bool), v45 = .bool x45_19 ∧ zA (zF.j2 kq x45_19 l0_0 l0_1 l0_2 = some r) ∧ zA (kq ≤ k2) ∧ zA (wc.heap[yA]? = some (.cells #[(.slice A0_0 l0_0.length c0_0), (.slice A0_1 l0_1.length c0_1), (.slice A0_2 l0_2.length c0_2)] 25 (0, 0))) ∧ zA (Below w.heap.size w wc))
        case first =>
         have H := HC20.out; clear HC20; replace H := Option.bind_eq_some_iff.mp H; obtain ⟨t224, A220, H⟩ := H; replace H : (if t224 = true then ((vC.f k2 l0_1).bind fun t225 => (zF.j2 k2 (!t225) l0_0 l0_1 l0_2)) else (zF.j2 k2 true l0_0 l0_1 l0_2)) = some r := H; have A22 := zA.mk A220; clear A220; by_cases c23 : t224 = true
         ·
          subst c23; replace H : ((vC.f k2 l0_1).bind fun t225 => (zF.j2 k2 (!t225) l0_0 l0_1 l0_2)) = some r := by rw [if_pos rfl] at H; exact H
          replace H := Option.bind_eq_some_iff.mp H; obtain ⟨t225, A240, H⟩ := H; replace H : (zF.j2 k2 (!t225) l0_0 l0_1 l0_2) = some r := H; have A24 := zA.mk A240; clear A240; have H' := zA.mk H; clear H; have zCZ : wr.cell? ⟨yA, 0, none⟩ = some (.slice A0_0 l0_0.length c0_0) := (zC vE.out 0).trans rfl; have zFR : wr.cell? ⟨yA, 1, none⟩ = some (.slice A0_1 l0_1.length c0_1) := (zC vE.out 1).trans rfl; have zFQ : wr.cell? ⟨yA, 2, none⟩ = some (.slice A0_2 l0_2.length c0_2) := (zC vE.out 2).trans rfl; have zCW := zB vE.out 0; have zFN := zB vE.out 1; have zFM := zB vE.out 2; go_wp2_with (first | (go_at_call 42; (with_reducible refine (vC.calls k2 _ _ l0_0 true _ ?side1 ?side2 A22.out).mono ?_); (case side1 => repeat (first | exact (Kd.zX HR0_0.out HB.out) | (with_reducible refine Kd.zP ?_ _) | (with_reducible refine Kd.zO ?_ _) | (with_reducible refine Kd.zY ?_))); (case side2 => exact HC0_0.out); rintro e w' ⟨rfl, ⟨nd, rfl⟩⟩; (try first | exact ⟨rfl, _, World.drewN_drewN _ _ _⟩ | exact ⟨rfl, _, Eq.trans (World.drewN_drewN _ _ _) (congrArg (World.drewN _) (Nat.add_assoc _ _ _))⟩)) | (go_at_call 42; (with_reducible refine (vC.calls k2 _ _ l0_1 t225 _ ?side1 ?side2 A24.out).mono ?_); (case side1 => repeat (first | exact (Kd.zX HR0_1.out (eG HB.out)) | (with_reducible refine Kd.zP ?_ _) | (with_reducible refine Kd.zO ?_ _) | (with_reducible refine Kd.zY ?_))); (case side2 => exact HC0_1.out); rintro e w' ⟨rfl, ⟨nd, rfl⟩⟩; (try first | exact ⟨rfl, _, World.drewN_drewN _ _ _⟩ | exact ⟨rfl, _, Eq.trans (World.drewN_drewN _ _ _) (congrArg (World.drewN _) (Nat.add_assoc _ _ _))⟩)))
          repeat (go_quiet (first | (go_at_call 42; (with_reducible refine (vC.calls k2 _ _ l0_0 true _ ?side1 ?side2 A22.out).mono ?_); (case side1 => repeat (first | exact (Kd.zX HR0_0.out HB.out) | (with_reducible refine Kd.zP ?_ _) | (with_reducible refine Kd.zO ?_ _) | (with_reducible refine Kd.zY ?_))); (case side2 => exact HC0_0.out); rintro e w' ⟨rfl, ⟨nd, rfl⟩⟩; (try first | exact ⟨rfl, _, World.drewN_drewN _ _ _⟩ | exact ⟨rfl, _, Eq.trans (World.drewN_drewN _ _ _) (congrArg (World.drewN _) (Nat.add_assoc _ _ _))⟩)) | (go_at_call 42; (with_reducible refine (vC.calls k2 _ _ l0_1 t225 _ ?side1 ?side2 A24.out).mono ?_); (case side1 => repeat (first | exact (Kd.zX HR0_1.out (eG HB.out)) | (with_reducible refine Kd.zP ?_ _) | (with_reducible refine Kd.zO ?_ _) | (with_reducible refine Kd.zY ?_))); (case side2 => exact HC0_1.out); rintro e w' ⟨rfl, ⟨nd, rfl⟩⟩; (try first | exact ⟨rfl, _, World.drewN_drewN _ _ _⟩ | exact ⟨rfl, _, Eq.trans (World.drewN_drewN _ _ _) (congrArg (World.drewN _) (Nat.add_assoc _ _ _))⟩))); try go_wp2_with (first | (go_at_call 42; (with_reducible refine (vC.calls k2 _ _ l0_0 true _ ?side1 ?side2 A22.out).mono ?_); (case side1 => repeat (first | exact (Kd.zX HR0_0.out HB.out) | (with_reducible refine Kd.zP ?_ _) | (with_reducible refine Kd.zO ?_ _) | (with_reducible refine Kd.zY ?_))); (case side2 => exact HC0_0.out); rintro e w' ⟨rfl, ⟨nd, rfl⟩⟩; (try first | exact ⟨rfl, _, World.drewN_drewN _ _ _⟩ | exact ⟨rfl, _, Eq.trans (World.drewN_drewN _ _ _) (congrArg (World.drewN _) (Nat.add_assoc _ _ _))⟩)) | (go_at_call 42; (with_reducible refine (vC.calls k2 _ _ l0_1 t225 _ ?side1 ?side2 A24.out).mono ?_); (case side1 => repeat (first | exact (Kd.zX HR0_1.out (eG HB.out)) | (with_reducible refine Kd.zP ?_ _) | (with_reducible refine Kd.zO ?_ _) | (with_reducible refine Kd.zY ?_))); (case side2 => exact HC0_1.out); rintro e w' ⟨rfl, ⟨nd, rfl⟩⟩; (try first | exact ⟨rfl, _, World.drewN_drewN _ _ _⟩ | exact ⟨rfl, _, Eq.trans (World.drewN_drewN _ _ _) (congrArg (World.drewN _) (Nat.add_assoc _ _ _))⟩))))
          go_meet
          case rel => exact ⟨_, (!t225), (by first | rfl | (simp; done) | (simp [*]; done)), H', ⟨by have := HJ3.out; have := HK2.out; first | omega | exact Nat.le_refl _⟩, ⟨by (with_reducible repeat first | apply bN | apply bD | apply bA); exact vE.out⟩, ⟨eG HB.out⟩⟩
         ·
          replace c23 := Bool.eq_false_iff.mpr c23; subst c23; replace H : (zF.j2 k2 true l0_0 l0_1 l0_2) = some r := by rw [if_neg (show ¬ (false = true) by decide)] at H; exact H
          have H' := zA.mk H; clear H; have zIZ : wr.cell? ⟨yA, 0, none⟩ = some (.slice A0_0 l0_0.length c0_0) := (zC vE.out 0).trans rfl; have zIY : wr.cell? ⟨yA, 1, none⟩ = some (.slice A0_1 l0_1.length c0_1) := (zC vE.out 1).trans rfl; have zIX : wr.cell? ⟨yA, 2, none⟩ = some (.slice A0_2 l0_2.length c0_2) := (zC vE.out 2).trans rfl; have zIM := zB vE.out 0; have zIL := zB vE.out 1; have zIK := zB vE.out 2; go_wp2_with (first | (go_at_call 42; (with_reducible refine (vC.calls k2 _ _ l0_0 false _ ?side1 ?side2 A22.out).mono ?_); (case side1 => repeat (first | exact (Kd.zX HR0_0.out HB.out) | (with_reducible refine Kd.zP ?_ _) | (with_reducible refine Kd.zO ?_ _) | (with_reducible refine Kd.zY ?_))); (case side2 => exact HC0_0.out); rintro e w' ⟨rfl, ⟨nd, rfl⟩⟩; (try first | exact ⟨rfl, _, World.drewN_drewN _ _ _⟩ | exact ⟨rfl, _, Eq.trans (World.drewN_drewN _ _ _) (congrArg (World.drewN _) (Nat.add_assoc _ _ _))⟩)))
          repeat (go_quiet (first | (go_at_call 42; (with_reducible refine (vC.calls k2 _ _ l0_0 false _ ?side1 ?side2 A22.out).mono ?_); (case side1 => repeat (first | exact (Kd.zX HR0_0.out HB.out) | (with_reducible refine Kd.zP ?_ _) | (with_reducible refine Kd.zO ?_ _) | (with_reducible refine Kd.zY ?_))); (case side2 => exact HC0_0.out); rintro e w' ⟨rfl, ⟨nd, rfl⟩⟩; (try first | exact ⟨rfl, _, World.drewN_drewN _ _ _⟩ | exact ⟨rfl, _, Eq.trans (World.drewN_drewN _ _ _) (congrArg (World.drewN _) (Nat.add_assoc _ _ _))⟩))); try go_wp2_with (first | (go_at_call 42; (with_reducible refine (vC.calls k2 _ _ l0_0 false _ ?side1 ?side2 A22.out).mono ?_); (case side1 => repeat (first | exact (Kd.zX HR0_0.out HB.out) | (with_reducible refine Kd.zP ?_ _) | (with_reducible refine Kd.zO ?_ _) | (with_reducible refine Kd.zY ?_))); (case side2 => exact HC0_0.out); rintro e w' ⟨rfl, ⟨nd, rfl⟩⟩; (try first | exact ⟨rfl, _, World.drewN_drewN _ _ _⟩ | exact ⟨rfl, _, Eq.trans (World.drewN_drewN _ _ _) (congrArg (World.drewN _) (Nat.add_assoc _ _ _))⟩))))
          go_meet
          case rel => exact ⟨_, (true), (by first | rfl | (simp; done) | (simp [*]; done)), H', ⟨by have := HJ3.out; have := HK2.out; first | omega | exact Nat.le_refl _⟩, ⟨by (with_reducible repeat first | apply bN | apply bD | apply bA); exact vE.out⟩, ⟨eG HB.out⟩⟩
        case rest =>
         clear HC20; repeat first | clear c1 | clear c2 | clear p2 | clear q2 | clear hx2 | clear c3 | clear c3b0 | clear c3b1 | clear p6 | clear c9 | clear c13 | clear c14 | clear c14b0 | clear c15 | clear c15b0 | clear c17 | clear c19 | clear c22 | clear p22 | clear q22 | clear hx22 | clear c23 | clear zBL | clear zBK | clear zBJ | clear zDY | clear zDX | clear zDW | clear zDA | clear zFT | clear zFS | clear zJI | clear zJH | clear zJG | clear zJC | clear zJB | clear zJA | clear zCZ | clear zFR | clear zFQ | clear zIZ | clear zIY | clear zIX | clear zDN | clear zEI | clear zEH | clear zBF | clear zBE | clear zBD | clear zDV | clear zDU | clear zDT | clear zCX | clear zFP | clear zFO | clear zIV | clear zIU | clear zIT | clear zIP | clear zIO | clear zIN | clear zCW | clear zFN | clear zFM | clear zIM | clear zIL | clear zIK | clear zDM | clear zEF | clear zEE | clear zDS | clear p2 | clear p222 | clear q222
         obtain ⟨kq, x45_19, rfl, HA, HJ19, vE, HB⟩ := hcut
         cases kq with
         | zero => exact absurd HA.out (by simp [zF.j2])
         | succ kj19 =>
          have H := HA.out; clear HA; simp only [zF.j2] at H; by_cases c27 : x45_19 = true
          ·
           subst c27; replace H : (some 5) = some r := by rw [if_pos rfl] at H; exact H
           obtain rfl := Option.some.inj H; go_wp2; repeat (go_quiet (fail); try go_wp2)
           go_ret
           exact ⟨by first | rfl | (simp [zI, zH] <;> rfl) | (simp [*, zI, zH] <;> rfl), eG HB.out⟩
          ·
           replace c27 := Bool.eq_false_iff.mpr c27; subst c27; replace H : (zF.l1 kj19 0 l0_0 l0_1 l0_2) = some r := by rw [if_neg (show ¬ (false = true) by decide)] at H; exact H
           have H' := zA.mk H; clear H; go_wp2; repeat (go_quiet (fail); try go_wp2)
           go_loopg [5] kj19 (fun kq v5 w' => ∃ (x5_4 : Int), v5 = .int .i64 x5_4 ∧ zA (zF.l1 kq x5_4 l0_0 l0_1 l0_2 = some r) ∧ zA (kq ≤ kj19) ∧ zA (w'.heap[yA]? = some (.cells #[(.slice A0_0 l0_0.length c0_0), (.slice A0_1 l0_1.length c0_1), (.slice A0_2 l0_2.length c0_2)] 25 (0, 0))) ∧ zA (Below w.heap.size w w'))
           case atStart => exact ⟨(0), (by first | rfl | (simp; done) | (simp [*]; done)), H', ⟨Nat.le_refl _⟩, ⟨by (with_reducible repeat first | apply bN | apply bD | apply bA); exact vE.out⟩, ⟨eG HB.out⟩⟩
           case round =>
            clear H'; repeat first | clear c1 | clear c2 | clear p2 | clear q2 | clear hx2 | clear c3 | clear c3b0 | clear c3b1 | clear p6 | clear c9 | clear c13 | clear c14 | clear c14b0 | clear c15 | clear c15b0 | clear c17 | clear c19 | clear c22 | clear p22 | clear q22 | clear hx22 | clear c23 | clear c27 | clear zBL | clear zBK | clear zBJ | clear zDY | clear zDX | clear zDW | clear zDA | clear zFT | clear zFS | clear zJI | clear zJH | clear zJG | clear zJC | clear zJB | clear zJA | clear zCZ | clear zFR | clear zFQ | clear zIZ | clear zIY | clear zIX | clear zDN | clear zEI | clear zEH | clear zBF | clear zBE | clear zBD | clear zDV | clear zDU | clear zDT | clear zCX | clear zFP | clear zFO | clear zIV | clear zIU | clear zIT | clear zIP | clear zIO | clear zIN | clear zCW | clear zFN | clear zFM | clear zIM | clear zIL | clear zIK | clear zDM | clear zEF | clear zEE | clear zDS | clear p2 | clear p22 | clear p222 | clear p6 | clear q2 | clear q22 | clear q222
            obtain ⟨x5_4, rfl, HA, HK4, vE, HB⟩ := hrel
            cases gk with
            | zero => exact absurd HA.out (by simp [zF.l1])
            | succ k4 =>
             have H := HA.out; clear HA; simp only [zF.l1] at H; by_cases c28 : x5_4 < (l0_2.length : Int)
             ·
              rw [if_pos c28] at H; have c28b0 : decide (x5_4 < (l0_2.length : Int)) = true := decide_eq_true c28; clear c28; have H' := zA.mk H; clear H; have zOY : wr.cell? ⟨yA, 0, none⟩ = some (.slice A0_0 l0_0.length c0_0) := (zC vE.out 0).trans rfl; have zOX : wr.cell? ⟨yA, 1, none⟩ = some (.slice A0_1 l0_1.length c0_1) := (zC vE.out 1).trans rfl; have zSU : wr.cell? ⟨yA, 2, none⟩ = some (.slice A0_2 l0_2.length c0_2) := (zC vE.out 2).trans rfl; have zOH := zB vE.out 0; have zOG := zB vE.out 1; have zSL := zB vE.out 2; go_wp2; repeat (go_quiet (fail); try go_wp2)
              go_loopg [6] k4 (fun kq v6 w' => ∃ (x6_5 : Int), v6 = .int .i64 x6_5 ∧ zA (zF.l2 kq x5_4 x6_5 l0_0 l0_1 l0_2 = some r) ∧ zA (kq ≤ k4) ∧ zA (w'.heap[yA]? = some (.cells #[(.slice A0_0 l0_0.length c0_0), (.slice A0_1 l0_1.length c0_1), (.slice A0_2 l0_2.length c0_2)] 25 (0, 0))) ∧ zA (Below w.heap.size w w'))
              case atStart => exact ⟨(0), (by first | rfl | (simp; done) | (simp [*]; done)), H', ⟨Nat.le_refl _⟩, ⟨by (with_reducible repeat first | apply bN | apply bD | apply bA); exact vE.out⟩, ⟨eG HB.out⟩⟩
              case round =>
               clear H'; repeat first | clear c1 | clear c2 | clear p2 | clear q2 | clear hx2 | clear c3 | clear c3b0 | clear c3b1 | clear p6 | clear c9 | clear c13 | clear c14 | clear c14b0 | clear c15 | clear c15b0 | clear c17 | clear c19 | clear c22 | clear p22 | clear q22 | clear hx22 | clear c23 | clear c27 | clear c28 | clear c28b0 | clear zBL | clear zBK | clear zBJ | clear zDY | clear zDX | clear zDW | clear zDA | clear zFT | clear zFS | clear zJI | clear zJH | clear zJG | clear zJC | clear zJB | clear zJA | clear zCZ | clear zFR | clear zFQ | clear zIZ | clear zIY | clear zIX | clear zOY | clear zOX | clear zSU | clear zDN | clear zEI | clear zEH | clear zBF | clear zBE | clear zBD | clear zDV | clear zDU | clear zDT | clear zCX | clear zFP | clear zFO | clear zIV | clear zIU | clear zIT | clear zIP | clear zIO | clear zIN | clear zCW | clear zFN | clear zFM | clear zIM | clear zIL | clear zIK | clear zOH | clear zOG | clear zSL | clear zDM | clear zEF | clear zEE | clear zDS | clear p2 | clear p22 | clear p222 | clear p6 | clear q2 | clear q22 | clear q222
               obtain ⟨x6_5, rfl, HA, HK5, vE, HB⟩ := hrel
               cases gk with
               | zero => exact absurd HA.out (by simp [zF.l2])
               | succ k5 =>
                have H := HA.out; clear HA; simp only [zF.l2] at H; by_cases c30 : x6_5 < (l0_1.length : Int)
                ·
                 rw [if_pos c30] at H; have c30b0 : decide (x6_5 < (l0_1.length : Int)) = true := decide_eq_true c30; clear c30; by_cases c31 : x6_5 > 0
                 ·
                  rw [if_pos c31] at H; have c31b0 : decide (0 < x6_5) = true := decide_eq_true c31; clear c31; by_cases c32 : 0 ≤ x5_4
                  ·
                   rw [if_pos c32] at H; have c32b0 : decide (0 ≤ x5_4) = true := decide_eq_true c32; clear c32; by_cases c33 : x5_4 < (l0_2.length : Int)
                   ·
                    rw [if_pos c33] at H; have c33b0 : decide (x5_4 < (l0_2.length : Int)) = true := decide_eq_true c33; clear c33; by_cases c34 : 0 ≤ x6_5
                    ·
                     rw [if_pos c34] at H; have c34b0 : decide (0 ≤ x6_5) = true := decide_eq_true c34; clear c34; by_cases c35 : x6_5 < ((zW l0_2 x5_4).length : Int)
                     ·
                      rw [if_pos c35] at H; have c35b0 : decide (x6_5 < ((zW l0_2 x5_4).length : Int)) = true := decide_eq_true c35; clear c35; obtain ⟨ji36, hji36⟩ : ∃ j_ : Int, (wrap64 (x6_5 - 1)) = j_ := ⟨_, rfl⟩; replace H : (if 0 ≤ (ji36) then (if (ji36) < ((zW l0_2 x5_4).length : Int) then (if (rd (zW l0_2 x5_4) x6_5) < (rd (zW l0_2 x5_4) (ji36)) then (some 18) else (if x5_4 > 0 then (if 0 ≤ (wrap64 (x5_4 - 1)) then (if (wrap64 (x5_4 - 1)) < (l0_2.length : Int) then (if x6_5 < ((zW l0_2 (wrap64 (x5_4 - 1))).length : Int) then (if (rd (zW l0_2 x5_4) x6_5) > (rd (zW l0_2 (wrap64 (x5_4 - 1))) x6_5) then (some 18) else (zF.l2 k5 x5_4 (wrap64 (x6_5 + 1)) l0_0 l0_1 l0_2)) else (none)) else (none)) else (none)) else (zF.l2 k5 x5_4 (wrap64 (x6_5 + 1)) l0_0 l0_1 l0_2))) else (none)) else (none)) = some r := by first | (rw [hji36] at H; exact H) | (simp only [hji36] at H ⊢; exact H)
                      have hji36w : (IntKind.i64.wrap (x6_5 - 1)) = ji36 := (wX _).trans hji36; by_cases c37 : 0 ≤ (ji36)
                      ·
                       rw [if_pos c37] at H; have c37b0 : decide (0 ≤ (ji36)) = true := decide_eq_true c37; clear c37; by_cases c38 : (ji36) < ((zW l0_2 x5_4).length : Int)
                       ·
                        rw [if_pos c38] at H; have c38b0 : decide ((ji36) < ((zW l0_2 x5_4).length : Int)) = true := decide_eq_true c38; clear c38; by_cases c39 : (rd (zW l0_2 x5_4) x6_5) < (rd (zW l0_2 x5_4) (ji36))
                        ·
                         rw [if_pos c39] at H; have c39b0 : decide ((rd (zW l0_2 x5_4) x6_5) < (rd (zW l0_2 x5_4) (ji36))) = true := decide_eq_true c39; clear c39; obtain rfl := Option.some.inj H; have hcz40_0 : wr.cell? ⟨yA, 0, none⟩ = some (.slice A0_0 l0_0.length c0_0) := (zC vE.out 0).trans rfl; have hcz40_1 : wr.cell? ⟨yA, 1, none⟩ = some (.slice A0_1 l0_1.length c0_1) := (zC vE.out 1).trans rfl; have hcz40_2 : wr.cell? ⟨yA, 2, none⟩ = some (.slice A0_2 l0_2.length c0_2) := (zC vE.out 2).trans rfl; have hfz40_0 := zB vE.out 0; have hfz40_1 := zB vE.out 1; have hfz40_2 := zB vE.out 2; have p226 : 0 ≤ (x5_4 : Int) := of_decide_eq_true (by first | (with_reducible assumption) | assumption); have q226 : x5_4 < (l0_2.length : Int) := of_decide_eq_true (by first | (with_reducible assumption) | assumption); obtain ⟨ad226, A226_0, c226_0, e226, kA, hl226_0, hi226_0⟩ := kQ HR0_2.out x5_4 p226 q226; cases e226; replace kA := (HB.out.cell (World.block_lt_of_cell? w _ kA)).trans kA; have HR226_0 := zA.mk hi226_0; have HC226_0 := zA.mk hl226_0; clear hi226_0 hl226_0; replace p226 := eq_true p226; replace q226 := eq_true q226; have p227 : 0 ≤ (x6_5 : Int) := of_decide_eq_true (by first | (with_reducible assumption) | assumption); have q227 : x6_5 < ((zW l0_2 x5_4).length : Int) := of_decide_eq_true (by first | (with_reducible assumption) | assumption); obtain ⟨ad227, e227, zBB⟩ := Kd.qC HR226_0.out x6_5 p227 q227; cases e227; replace zBB := (HB.out.cell (World.block_lt_of_cell? w _ zBB)).trans zBB; replace p227 := eq_true p227; replace q227 := eq_true q227; have p228 : 0 ≤ (x5_4 : Int) := of_decide_eq_true (by first | (with_reducible assumption) | assumption); have q228 : x5_4 < (l0_2.length : Int) := of_decide_eq_true (by first | (with_reducible assumption) | assumption); obtain ⟨ad228, A228_0, c228_0, e228, kT, hl228_0, hi228_0⟩ := kQ HR0_2.out x5_4 p228 q228; obtain rfl : ad226 = ad228 := (by injection e228); replace kT := (HB.out.cell (World.block_lt_of_cell? w _ kT)).trans kT; have HR228_0 := zA.mk hi228_0; have HC228_0 := zA.mk hl228_0; clear hi228_0 hl228_0; replace p228 := eq_true p228; replace q228 := eq_true q228; have ea_ := Option.some.inj (kA.symm.trans kT); injection ea_ with ea_ en_ ec_; subst ea_; subst ec_; clear en_; have p229 : 0 ≤ ((ji36) : Int) := of_decide_eq_true (by first | (with_reducible assumption) | assumption); have q229 : (ji36) < ((zW l0_2 x5_4).length : Int) := of_decide_eq_true (by first | (with_reducible assumption) | assumption); obtain ⟨ad229, e229, zBA⟩ := Kd.qC HR228_0.out (ji36) p229 q229; obtain rfl : ad227 = ad229 := (by injection e229); replace zBA := (HB.out.cell (World.block_lt_of_cell? w _ zBA)).trans zBA; replace p229 := eq_true p229; replace q229 := eq_true q229; go_wp2; repeat (go_quiet (fail); try go_wp2)
                         go_ret
                         exact ⟨by first | rfl | (simp [zI, zH] <;> rfl) | (simp only [← hji36]; first | rfl | (simp [zI, zH] <;> rfl)) | (simp [*, zI, zH] <;> rfl), eG HB.out⟩
                        ·
                         rw [if_neg c39] at H; have c39b0 : decide ((rd (zW l0_2 x5_4) x6_5) < (rd (zW l0_2 x5_4) (ji36))) = false := decide_eq_false c39; clear c39; by_cases c41 : x5_4 > 0
                         ·
                          rw [if_pos c41] at H; have c41b0 : decide (0 < x5_4) = true := decide_eq_true c41; clear c41; obtain ⟨ji42, hji42⟩ : ∃ j_ : Int, (wrap64 (x5_4 - 1)) = j_ := ⟨_, rfl⟩; replace H : (if 0 ≤ (ji42) then (if (ji42) < (l0_2.length : Int) then (if x6_5 < ((zW l0_2 (ji42)).length : Int) then (if (rd (zW l0_2 x5_4) x6_5) > (rd (zW l0_2 (ji42)) x6_5) then (some 18) else (zF.l2 k5 x5_4 (wrap64 (x6_5 + 1)) l0_0 l0_1 l0_2)) else (none)) else (none)) else (none)) = some r := by first | (rw [hji42] at H; exact H) | (simp only [hji42] at H ⊢; exact H)
                          have hji42w : (IntKind.i64.wrap (x5_4 - 1)) = ji42 := (wX _).trans hji42; by_cases c43 : 0 ≤ (ji42)
                          ·
                           rw [if_pos c43] at H; have c43b0 : decide (0 ≤ (ji42)) = true := decide_eq_true c43; clear c43; by_cases c44 : (ji42) < (l0_2.length : Int)
                           ·
                            rw [if_pos c44] at H; have c44b0 : decide ((ji42) < (l0_2.length : Int)) = true := decide_eq_true c44; clear c44; by_cases c45 : x6_5 < ((zW l0_2 (ji42)).length : Int)
                            ·
                             rw [if_pos c45] at H; have c45b0 : decide (x6_5 < ((zW l0_2 (ji42)).length : Int)) = true := decide_eq_true c45; clear c45; by_cases c46 : (rd (zW l0_2 x5_4) x6_5) > (rd (zW l0_2 (ji42)) x6_5)
                             ·
                              rw [if_pos c46] at H; have c46b0 : decide ((rd (zW l0_2 (ji42)) x6_5) < (rd (zW l0_2 x5_4) x6_5)) = true := decide_eq_true c46; clear c46; obtain rfl := Option.some.inj H; have zXC : wr.cell? ⟨yA, 0, none⟩ = some (.slice A0_0 l0_0.length c0_0) := (zC vE.out 0).trans rfl; have zXB : wr.cell? ⟨yA, 1, none⟩ = some (.slice A0_1 l0_1.length c0_1) := (zC vE.out 1).trans rfl; have zXA : wr.cell? ⟨yA, 2, none⟩ = some (.slice A0_2 l0_2.length c0_2) := (zC vE.out 2).trans rfl; have zWL := zB vE.out 0; have zWK := zB vE.out 1; have zWJ := zB vE.out 2; have p226 : 0 ≤ (x5_4 : Int) := of_decide_eq_true (by first | (with_reducible assumption) | assumption); have q226 : x5_4 < (l0_2.length : Int) := of_decide_eq_true (by first | (with_reducible assumption) | assumption); obtain ⟨ad226, A226_0, c226_0, e226, kA, hl226_0, hi226_0⟩ := kQ HR0_2.out x5_4 p226 q226; cases e226; replace kA := (HB.out.cell (World.block_lt_of_cell? w _ kA)).trans kA; have HR226_0 := zA.mk hi226_0; have HC226_0 := zA.mk hl226_0; clear hi226_0 hl226_0; replace p226 := eq_true p226; replace q226 := eq_true q226; have p227 : 0 ≤ (x6_5 : Int) := of_decide_eq_true (by first | (with_reducible assumption) | assumption); have q227 : x6_5 < ((zW l0_2 x5_4).length : Int) := of_decide_eq_true (by first | (with_reducible assumption) | assumption); obtain ⟨ad227, e227, zBB⟩ := Kd.qC HR226_0.out x6_5 p227 q227; cases e227; replace zBB := (HB.out.cell (World.block_lt_of_cell? w _ zBB)).trans zBB; replace p227 := eq_true p227; replace q227 := eq_true q227; have p228 : 0 ≤ (x5_4 : Int) := of_decide_eq_true (by first | (with_reducible assumption) | assumption); have q228 : x5_4 < (l0_2.length : Int) := of_decide_eq_true (by first | (with_reducible assumption) | assumption); obtain ⟨ad228, A228_0, c228_0, e228, kT, hl228_0, hi228_0⟩ := kQ HR0_2.out x5_4 p228 q228; obtain rfl : ad226 = ad228 := (by injection e228); replace kT := (HB.out.cell (World.block_lt_of_cell? w _ kT)).trans kT; have HR228_0 := zA.mk hi228_0; have HC228_0 := zA.mk hl228_0; clear hi228_0 hl228_0; replace p228 := eq_true p228; replace q228 := eq_true q228; have ea_ := Option.some.inj (kA.symm.trans kT); injection ea_ with ea_ en_ ec_; subst ea_; subst ec_; clear en_; have p229 : 0 ≤ ((ji36) : Int) := of_decide_eq_true (by first | (with_reducible assumption) | assumption); have q229 : (ji36) < ((zW l0_2 x5_4).length : Int) := of_decide_eq_true (by first | (with_reducible assumption) | assumption); obtain ⟨ad229, e229, zBA⟩ := Kd.qC HR228_0.out (ji36) p229 q229; obtain rfl : ad227 = ad229 := (by injection e229); replace zBA := (HB.out.cell (World.block_lt_of_cell? w _ zBA)).trans zBA; replace p229 := eq_true p229; replace q229 := eq_true q229; have p230 : 0 ≤ (x5_4 : Int) := of_decide_eq_true (by first | (with_reducible assumption) | assumption); have q230 : x5_4 < (l0_2.length : Int) := of_decide_eq_true (by first | (with_reducible assumption) | assumption); obtain ⟨ad230, A230_0, c230_0, e230, zES, hl230_0, hi230_0⟩ := kQ HR0_2.out x5_4 p230 q230; obtain rfl : ad226 = ad230 := (by injection e230); replace zES := (HB.out.cell (World.block_lt_of_cell? w _ zES)).trans zES; have HR230_0 := zA.mk hi230_0; have HC230_0 := zA.mk hl230_0; clear hi230_0 hl230_0; replace p230 := eq_true p230; replace q230 := eq_true q230; have ea_ := Option.some.inj (kA.symm.trans zES); injection ea_ with ea_ en_ ec_; subst ea_; subst ec_; clear en_; have p231 : 0 ≤ (x6_5 : Int) := of_decide_eq_true (by first | (with_reducible assumption) | assumption); have q231 : x6_5 < ((zW l0_2 x5_4).length : Int) := of_decide_eq_true (by first | (with_reducible assumption) | assumption); obtain ⟨ad231, e231, zHB⟩ := Kd.qC HR230_0.out x6_5 p231 q231; obtain rfl : ad227 = ad231 := (by injection e231); replace zHB := (HB.out.cell (World.block_lt_of_cell? w _ zHB)).trans zHB; replace p231 := eq_true p231; replace q231 := eq_true q231; have p232 : 0 ≤ ((ji42) : Int) := of_decide_eq_true (by first | (with_reducible assumption) | assumption); have q232 : (ji42) < (l0_2.length : Int) := of_decide_eq_true (by first | (with_reducible assumption) | assumption); obtain ⟨ad232, A232_0, c232_0, e232, zHA, hl232_0, hi232_0⟩ := kQ HR0_2.out (ji42) p232 q232; obtain rfl : ad226 = ad232 := (by injection e232); replace zHA := (HB.out.cell (World.block_lt_of_cell? w _ zHA)).trans zHA; have HR232_0 := zA.mk hi232_0; have HC232_0 := zA.mk hl232_0; clear hi232_0 hl232_0; replace p232 := eq_true p232; replace q232 := eq_true q232; have p233 : 0 ≤ (x6_5 : Int) := of_decide_eq_true (by first | (with_reducible assumption) | assumption); have q233 : x6_5 < ((zW l0_2 (ji42)).length : Int) := of_decide_eq_true (by first | (with_reducible assumption) | assumption); obtain ⟨ad233, e233, zGZ⟩ := Kd.qC HR232_0.out x6_5 p233 q233; cases e233; replace zGZ := (HB.out.cell (World.block_lt_of_cell? w _ zGZ)).trans zGZ; replace p233 := eq_true p233; replace q233 := eq_true q233; go_wp2; repeat (go_quiet (fail); try go_wp2)
                              go_ret
                              exact ⟨by first | rfl | (simp [zI, zH] <;> rfl) | (simp only [← hji36, ← hji42]; first | rfl | (simp [zI, zH] <;> rfl)) | (simp [*, zI, zH] <;> rfl), eG HB.out⟩
                             ·
                              rw [if_neg c46] at H; have c46b0 : decide ((rd (zW l0_2 (ji42)) x6_5) < (rd (zW l0_2 x5_4) x6_5)) = false := decide_eq_false c46; clear c46; have H' := zA.mk H; clear H; have hcz48_0 : wr.cell? ⟨yA, 0, none⟩ = some (.slice A0_0 l0_0.length c0_0) := (zC vE.out 0).trans rfl; have hcz48_1 : wr.cell? ⟨yA, 1, none⟩ = some (.slice A0_1 l0_1.length c0_1) := (zC vE.out 1).trans rfl; have hcz48_2 : wr.cell? ⟨yA, 2, none⟩ = some (.slice A0_2 l0_2.length c0_2) := (zC vE.out 2).trans rfl; have hfz48_0 := zB vE.out 0; have hfz48_1 := zB vE.out 1; have hfz48_2 := zB vE.out 2; have p226 : 0 ≤ (x5_4 : Int) := of_decide_eq_true (by first | (with_reducible assumption) | assumption); have q226 : x5_4 < (l0_2.length : Int) := of_decide_eq_true (by first | (with_reducible assumption) | assumption); obtain ⟨ad226, A226_0, c226_0, e226, kA, hl226_0, hi226_0⟩ := kQ HR0_2.out x5_4 p226 q226; cases e226; replace kA := (HB.out.cell (World.block_lt_of_cell? w _ kA)).trans kA; have HR226_0 := zA.mk hi226_0; have HC226_0 := zA.mk hl226_0; clear hi226_0 hl226_0; replace p226 := eq_true p226; replace q226 := eq_true q226; have p227 : 0 ≤ (x6_5 : Int) := of_decide_eq_true (by first | (with_reducible assumption) | assumption); have q227 : x6_5 < ((zW l0_2 x5_4).length : Int) := of_decide_eq_true (by first | (with_reducible assumption) | assumption); obtain ⟨ad227, e227, zBB⟩ := Kd.qC HR226_0.out x6_5 p227 q227; cases e227; replace zBB := (HB.out.cell (World.block_lt_of_cell? w _ zBB)).trans zBB; replace p227 := eq_true p227; replace q227 := eq_true q227; have p228 : 0 ≤ (x5_4 : Int) := of_decide_eq_true (by first | (with_reducible assumption) | assumption); have q228 : x5_4 < (l0_2.length : Int) := of_decide_eq_true (by first | (with_reducible assumption) | assumption); obtain ⟨ad228, A228_0, c228_0, e228, kT, hl228_0, hi228_0⟩ := kQ HR0_2.out x5_4 p228 q228; obtain rfl : ad226 = ad228 := (by injection e228); replace kT := (HB.out.cell (World.block_lt_of_cell? w _ kT)).trans kT; have HR228_0 := zA.mk hi228_0; have HC228_0 := zA.mk hl228_0; clear hi228_0 hl228_0; replace p228 := eq_true p228; replace q228 := eq_true q228; have ea_ := Option.some.inj (kA.symm.trans kT); injection ea_ with ea_ en_ ec_; subst ea_; subst ec_; clear en_; have p229 : 0 ≤ ((ji36) : Int) := of_decide_eq_true (by first | (with_reducible assumption) | assumption); have q229 : (ji36) < ((zW l0_2 x5_4).length : Int) := of_decide_eq_true (by first | (with_reducible assumption) | assumption); obtain ⟨ad229, e229, zBA⟩ := Kd.qC HR228_0.out (ji36) p229 q229; obtain rfl : ad227 = ad229 := (by injection e229); replace zBA := (HB.out.cell (World.block_lt_of_cell? w _ zBA)).trans zBA; replace p229 := eq_true p229; replace q229 := eq_true q229; have p230 : 0 ≤ (x5_4 : Int) := of_decide_eq_true (by first | (with_reducible assumption) | assumption); have q230 : x5_4 < (l0_2.length : Int) := of_decide_eq_true (by first | (with_reducible assumption) | assumption); obtain ⟨ad230, A230_0, c230_0, e230, zES, hl230_0, hi230_0⟩ := kQ HR0_2.out x5_4 p230 q230; obtain rfl : ad226 = ad230 := (by injection e230); replace zES := (HB.out.cell (World.block_lt_of_cell? w _ zES)).trans zES; have HR230_0 := zA.mk hi230_0; have HC230_0 := zA.mk hl230_0; clear hi230_0 hl230_0; replace p230 := eq_true p230; replace q230 := eq_true q230; have ea_ := Option.some.inj (kA.symm.trans zES); injection ea_ with ea_ en_ ec_; subst ea_; subst ec_; clear en_; have p231 : 0 ≤ (x6_5 : Int) := of_decide_eq_true (by first | (with_reducible assumption) | assumption); have q231 : x6_5 < ((zW l0_2 x5_4).length : Int) := of_decide_eq_true (by first | (with_reducible assumption) | assumption); obtain ⟨ad231, e231, zHB⟩ := Kd.qC HR230_0.out x6_5 p231 q231; obtain rfl : ad227 = ad231 := (by injection e231); replace zHB := (HB.out.cell (World.block_lt_of_cell? w _ zHB)).trans zHB; replace p231 := eq_true p231; replace q231 := eq_true q231; have p232 : 0 ≤ ((ji42) : Int) := of_decide_eq_true (by first | (with_reducible assumption) | assumption); have q232 : (ji42) < (l0_2.length : Int) := of_decide_eq_true (by first | (with_reducible assumption) | assumption); obtain ⟨ad232, A232_0, c232_0, e232, zHA, hl232_0, hi232_0⟩ := kQ HR0_2.out (ji42) p232 q232; obtain rfl : ad226 = ad232 := (by injection e232); replace zHA := (HB.out.cell (World.block_lt_of_cell? w _ zHA)).trans zHA; have HR232_0 := zA.mk hi232_0; have HC232_0 := zA.mk hl232_0; clear hi232_0 hl232_0; replace p232 := eq_true p232; replace q232 := eq_true q232; have p233 : 0 ≤ (x6_5 : Int) := of_decide_eq_true (by first | (with_reducible assumption) | assumption); have q233 : x6_5 < ((zW l0_2 (ji42)).length : Int) := of_decide_eq_true (by first | (with_reducible assumption) | assumption); obtain ⟨ad233, e233, zGZ⟩ := Kd.qC HR232_0.out x6_5 p233 q233; cases e233; replace zGZ := (HB.out.cell (World.block_lt_of_cell? w _ zGZ)).trans zGZ; replace p233 := eq_true p233; replace q233 := eq_true q233; go_wp2; repeat (go_quiet (fail); try go_wp2)
                              go_roundg k5
                              case measure => have := HJ3.out; have := HK2.out; have := HJ19.out; have := HK4.out; have := HK5.out; omega
                              case rel => exact ⟨(wrap64 (x6_5 + 1)), (by first | rfl | (simp; done) | (simp [*]; done)), H', ⟨by have := HJ3.out; have := HK2.out; have := HJ19.out; have := HK4.out; have := HK5.out; omega⟩, ⟨by (with_reducible repeat first | apply bN | apply bD | apply bA); exact vE.out⟩, ⟨eG HB.out⟩⟩
                            · rw [if_neg c45] at H; exact absurd H (by simp)
                           · rw [if_neg c44] at H; exact absurd H (by simp)
                          · rw [if_neg c43] at H; exact absurd H (by simp)
                         ·
                          rw [if_neg c41] at H; have c41b0 : decide (0 < x5_4) = false := decide_eq_false c41; clear c41; have H' := zA.mk H; clear H; have hcz49_0 : wr.cell? ⟨yA, 0, none⟩ = some (.slice A0_0 l0_0.length c0_0) := (zC vE.out 0).trans rfl; have hcz49_1 : wr.cell? ⟨yA, 1, none⟩ = some (.slice A0_1 l0_1.length c0_1) := (zC vE.out 1).trans rfl; have hcz49_2 : wr.cell? ⟨yA, 2, none⟩ = some (.slice A0_2 l0_2.length c0_2) := (zC vE.out 2).trans rfl; have hfz49_0 := zB vE.out 0; have hfz49_1 := zB vE.out 1; have hfz49_2 := zB vE.out 2; have p226 : 0 ≤ (x5_4 : Int) := of_decide_eq_true (by first | (with_reducible assumption) | assumption); have q226 : x5_4 < (l0_2.length : Int) := of_decide_eq_true (by first | (with_reducible assumption) | assumption); obtain ⟨ad226, A226_0, c226_0, e226, kA, hl226_0, hi226_0⟩ := kQ HR0_2.out x5_4 p226 q226; cases e226; replace kA := (HB.out.cell (World.block_lt_of_cell? w _ kA)).trans kA; have HR226_0 := zA.mk hi226_0; have HC226_0 := zA.mk hl226_0; clear hi226_0 hl226_0; replace p226 := eq_true p226; replace q226 := eq_true q226; have p227 : 0 ≤ (x6_5 : Int) := of_decide_eq_true (by first | (with_reducible assumption) | assumption); have q227 : x6_5 < ((zW l0_2 x5_4).length : Int) := of_decide_eq_true (by first | (with_reducible assumption) | assumption); obtain ⟨ad227, e227, zBB⟩ := Kd.qC HR226_0.out x6_5 p227 q227; cases e227; replace zBB := (HB.out.cell (World.block_lt_of_cell? w _ zBB)).trans zBB; replace p227 := eq_true p227; replace q227 := eq_true q227; have p228 : 0 ≤ (x5_4 : Int) := of_decide_eq_true (by first | (with_reducible assumption) | assumption); have q228 : x5_4 < (l0_2.length : Int) := of_decide_eq_true (by first | (with_reducible assumption) | assumption); obtain ⟨ad228, A228_0, c228_0, e228, kT, hl228_0, hi228_0⟩ := kQ HR0_2.out x5_4 p228 q228; obtain rfl : ad226 = ad228 := (by injection e228); replace kT := (HB.out.cell (World.block_lt_of_cell? w _ kT)).trans kT; have HR228_0 := zA.mk hi228_0; have HC228_0 := zA.mk hl228_0; clear hi228_0 hl228_0; replace p228 := eq_true p228; replace q228 := eq_true q228; have ea_ := Option.some.inj (kA.symm.trans kT); injection ea_ with ea_ en_ ec_; subst ea_; subst ec_; clear en_; have p229 : 0 ≤ ((ji36) : Int) := of_decide_eq_true (by first | (with_reducible assumption) | assumption); have q229 : (ji36) < ((zW l0_2 x5_4).length : Int) := of_decide_eq_true (by first | (with_reducible assumption) | assumption); obtain ⟨ad229, e229, zBA⟩ := Kd.qC HR228_0.out (ji36) p229 q229; obtain rfl : ad227 = ad229 := (by injection e229); replace zBA := (HB.out.cell (World.block_lt_of_cell? w _ zBA)).trans zBA; replace p229 := eq_true p229; replace q229 := eq_true q229; go_wp2; repeat (go_quiet (fail); try go_wp2)
                          go_roundg k5
                          case measure => have := HJ3.out; have := HK2.out; have := HJ19.out; have := HK4.out; have := HK5.out; omega
                          case rel => exact ⟨(wrap64 (x6_5 + 1)), (by first | rfl | (simp; done) | (simp [*]; done)), H', ⟨by have := HJ3.out; have := HK2.out; have := HJ19.out; have := HK4.out; have := HK5.out; omega⟩, ⟨by (with_reducible repeat first | apply bN | apply bD | apply bA); exact vE.out⟩, ⟨eG HB.out⟩⟩
                       · rw [if_neg c38] at H; exact absurd H (by simp)
                      · rw [if_neg c37] at H; exact absurd H (by simp)
                     · rw [if_neg c35] at H; exact absurd H (by simp)
                    · rw [if_neg c34] at H; exact absurd H (by simp)
                   · rw [if_neg c33] at H; exact absurd H (by simp)
                  · rw [if_neg c32] at H; exact absurd H (by simp)
                 ·
                  rw [if_neg c31] at H; have c31b0 : decide (0 < x6_5) = false := decide_eq_false c31; clear c31; by_cases c50 : x5_4 > 0
                  ·
                   rw [if_pos c50] at H; have c50b0 : decide (0 < x5_4) = true := decide_eq_true c50; clear c50; by_cases c51 : 0 ≤ x5_4
                   ·
                    rw [if_pos c51] at H; have c51b0 : decide (0 ≤ x5_4) = true := decide_eq_true c51; clear c51; by_cases c52 : x5_4 < (l0_2.length : Int)
                    ·
                     rw [if_pos c52] at H; have c52b0 : decide (x5_4 < (l0_2.length : Int)) = true := decide_eq_true c52; clear c52; by_cases c53 : 0 ≤ x6_5
                     ·
                      rw [if_pos c53] at H; have c53b0 : decide (0 ≤ x6_5) = true := decide_eq_true c53; clear c53; by_cases c54 : x6_5 < ((zW l0_2 x5_4).length : Int)
                      ·
                       rw [if_pos c54] at H; have c54b0 : decide (x6_5 < ((zW l0_2 x5_4).length : Int)) = true := decide_eq_true c54; clear c54; obtain ⟨ji55, hji55⟩ : ∃ j_ : Int, (wrap64 (x5_4 - 1)) = j_ := ⟨_, rfl⟩; replace H : (if 0 ≤ (ji55) then (if (ji55) < (l0_2.length : Int) then (if x6_5 < ((zW l0_2 (ji55)).length : Int) then (if (rd (zW l0_2 x5_4) x6_5) > (rd (zW l0_2 (ji55)) x6_5) then (some 18) else (zF.l2 k5 x5_4 (wrap64 (x6_5 + 1)) l0_0 l0_1 l0_2)) else (none)) else (none)) else (none)) = some r := by first | (rw [hji55] at H; exact H) | (simp only [hji55] at H ⊢; exact H)
                       have hji55w : (IntKind.i64.wrap (x5_4 - 1)) = ji55 := (wX _).trans hji55; by_cases c56 : 0 ≤ (ji55)
                       ·
                        rw [if_pos c56] at H; have c56b0 : decide (0 ≤ (ji55)) = true := decide_eq_true c56; clear c56; by_cases c57 : (ji55) < (l0_2.length : Int)
                        ·
                         rw [if_pos c57] at H; have c57b0 : decide ((ji55) < (l0_2.length : Int)) = true := decide_eq_true c57; clear c57; by_cases c58 : x6_5 < ((zW l0_2 (ji55)).length : Int)
                         ·
                          rw [if_pos c58] at H; have c58b0 : decide (x6_5 < ((zW l0_2 (ji55)).length : Int)) = true := decide_eq_true c58; clear c58; by_cases c59 : (rd (zW l0_2 x5_4) x6_5) > (rd (zW l0_2 (ji55)) x6_5)
                          ·
                           rw [if_pos c59] at H; have c59b0 : decide ((rd (zW l0_2 (ji55)) x6_5) < (rd (zW l0_2 x5_4) x6_5)) = true := decide_eq_true c59; clear c59; obtain rfl := Option.some.inj H; have hcz60_0 : wr.cell? ⟨yA, 0, none⟩ = some (.slice A0_0 l0_0.length c0_0) := (zC vE.out 0).trans rfl; have hcz60_1 : wr.cell? ⟨yA, 1, none⟩ = some (.slice A0_1 l0_1.length c0_1) := (zC vE.out 1).trans rfl; have hcz60_2 : wr.cell? ⟨yA, 2, none⟩ = some (.slice A0_2 l0_2.length c0_2) := (zC vE.out 2).trans rfl; have hfz60_0 := zB vE.out 0; have hfz60_1 := zB vE.out 1; have hfz60_2 := zB vE.out 2; have p234 : 0 ≤ (x5_4 : Int) := of_decide_eq_true (by first | (with_reducible assumption) | assumption); have q234 : x5_4 < (l0_2.length : Int) := of_decide_eq_true (by first | (with_reducible assumption) | assumption); obtain ⟨ad234, A234_0, c234_0, e234, zGY, hl234_0, hi234_0⟩ := kQ HR0_2.out x5_4 p234 q234; cases e234; replace zGY := (HB.out.cell (World.block_lt_of_cell? w _ zGY)).trans zGY; have HR234_0 := zA.mk hi234_0; have HC234_0 := zA.mk hl234_0; clear hi234_0 hl234_0; replace p234 := eq_true p234; replace q234 := eq_true q234; have p235 : 0 ≤ (x6_5 : Int) := of_decide_eq_true (by first | (with_reducible assumption) | assumption); have q235 : x6_5 < ((zW l0_2 x5_4).length : Int) := of_decide_eq_true (by first | (with_reducible assumption) | assumption); obtain ⟨ad235, e235, zGX⟩ := Kd.qC HR234_0.out x6_5 p235 q235; cases e235; replace zGX := (HB.out.cell (World.block_lt_of_cell? w _ zGX)).trans zGX; replace p235 := eq_true p235; replace q235 := eq_true q235; have p236 : 0 ≤ ((ji55) : Int) := of_decide_eq_true (by first | (with_reducible assumption) | assumption); have q236 : (ji55) < (l0_2.length : Int) := of_decide_eq_true (by first | (with_reducible assumption) | assumption); obtain ⟨ad236, A236_0, c236_0, e236, zGW, hl236_0, hi236_0⟩ := kQ HR0_2.out (ji55) p236 q236; obtain rfl : ad234 = ad236 := (by injection e236); replace zGW := (HB.out.cell (World.block_lt_of_cell? w _ zGW)).trans zGW; have HR236_0 := zA.mk hi236_0; have HC236_0 := zA.mk hl236_0; clear hi236_0 hl236_0; replace p236 := eq_true p236; replace q236 := eq_true q236; have p237 : 0 ≤ (x6_5 : Int) := of_decide_eq_true (by first | (with_reducible assumption) | assumption); have q237 : x6_5 < ((zW l0_2 (ji55)).length : Int) := of_decide_eq_true (by first | (with_reducible assumption) | assumption); obtain ⟨ad237, e237, zGV⟩ := Kd.qC HR236_0.out x6_5 p237 q237; cases e237; replace zGV := (HB.out.cell (World.block_lt_of_cell? w _ zGV)).trans zGV; replace p237 := eq_true p237; replace q237 := eq_true q237; go_wp2; repeat (go_quiet (fail); try go_wp2)
                           go_ret
                           exact ⟨by first | rfl | (simp [zI, zH] <;> rfl) | (simp only [← hji55]; first | rfl | (simp [zI, zH] <;> rfl)) | (simp [*, zI, zH] <;> rfl), eG HB.out⟩
                          ·
                           rw [if_neg c59] at H; have c59b0 : decide ((rd (zW l0_2 (ji55)) x6_5) < (rd (zW l0_2 x5_4) x6_5)) = false := decide_eq_false c59; clear c59; have H' := zA.mk H; clear H; have hcz61_0 : wr.cell? ⟨yA, 0, none⟩ = some (.slice A0_0 l0_0.length c0_0) := (zC vE.out 0).trans rfl; have hcz61_1 : wr.cell? ⟨yA, 1, none⟩ = some (.slice A0_1 l0_1.length c0_1) := (zC vE.out 1).trans rfl; have hcz61_2 : wr.cell? ⟨yA, 2, none⟩ = some (.slice A0_2 l0_2.length c0_2) := (zC vE.out 2).trans rfl; have hfz61_0 := zB vE.out 0; have hfz61_1 := zB vE.out 1; have hfz61_2 := zB vE.out 2; have p234 : 0 ≤ (x5_4 : Int) := of_decide_eq_true (by first | (with_reducible assumption) | assumption); have q234 : x5_4 < (l0_2.length : Int) := of_decide_eq_true (by first | (with_reducible assumption) | assumption); obtain ⟨ad234, A234_0, c234_0, e234, zGY, hl234_0, hi234_0⟩ := kQ HR0_2.out x5_4 p234 q234; cases e234; replace zGY := (HB.out.cell (World.block_lt_of_cell? w _ zGY)).trans zGY; have HR234_0 := zA.mk hi234_0; have HC234_0 := zA.mk hl234_0; clear hi234_0 hl234_0; replace p234 := eq_true p234; replace q234 := eq_true q234; have p235 : 0 ≤ (x6_5 : Int) := of_decide_eq_true (by first | (with_reducible assumption) | assumption); have q235 : x6_5 < ((zW l0_2 x5_4).length : Int) := of_decide_eq_true (by first | (with_reducible assumption) | assumption); obtain ⟨ad235, e235, zGX⟩ := Kd.qC HR234_0.out x6_5 p235 q235; cases e235; replace zGX := (HB.out.cell (World.block_lt_of_cell? w _ zGX)).trans zGX; replace p235 := eq_true p235; replace q235 := eq_true q235; have p236 : 0 ≤ ((ji55) : Int) := of_decide_eq_true (by first | (with_reducible assumption) | assumption); have q236 : (ji55) < (l0_2.length : Int) := of_decide_eq_true (by first | (with_reducible assumption) | assumption); obtain ⟨ad236, A236_0, c236_0, e236, zGW, hl236_0, hi236_0⟩ := kQ HR0_2.out (ji55) p236 q236; obtain rfl : ad234 = ad236 := (by injection e236); replace zGW := (HB.out.cell (World.block_lt_of_cell? w _ zGW)).trans zGW; have HR236_0 := zA.mk hi236_0; have HC236_0 := zA.mk hl236_0; clear hi236_0 hl236_0; replace p236 := eq_true p236; replace q236 := eq_true q236; have p237 : 0 ≤ (x6_5 : Int) := of_decide_eq_true (by first | (with_reducible assumption) | assumption); have q237 : x6_5 < ((zW l0_2 (ji55)).length : Int) := of_decide_eq_true (by first | (with_reducible assumption) | assumption); obtain ⟨ad237, e237, zGV⟩ := Kd.qC HR236_0.out x6_5 p237 q237; cases e237; replace zGV := (HB.out.cell (World.block_lt_of_cell? w _ zGV)).trans zGV; replace p237 := eq_true p237; replace q237 := eq_true q237; go_wp2; repeat (go_quiet (fail); try go_wp2)
                           go_roundg k5
                           case measure => have := HJ3.out; have := HK2.out; have := HJ19.out; have := HK4.out; have := HK5.out; omega
                           case rel => exact ⟨(wrap64 (x6_5 + 1)), (by first | rfl | (simp; done) | (simp [*]; done)), H', ⟨by have := HJ3.out; have := HK2.out; have := HJ19.out; have := HK4.out; have := HK5.out; omega⟩, ⟨by (with_reducible repeat first | apply bN | apply bD | apply bA); exact vE.out⟩, ⟨eG HB.out⟩⟩
                         · rw [if_neg c58] at H; exact absurd H (by simp)
                        · rw [if_neg c57] at H; exact absurd H (by simp)
                       · rw [if_neg c56] at H; exact absurd H (by simp)
                      · rw [if_neg c54] at H; exact absurd H (by simp)
                     · rw [if_neg c53] at H; exact absurd H (by simp)
                    · rw [if_neg c52] at H; exact absurd H (by simp)
                   · rw [if_neg c51] at H; exact absurd H (by simp)
                  ·
                   rw [if_neg c50] at H; have c50b0 : decide (0 < x5_4) = false := decide_eq_false c50; clear c50; have H' := zA.mk H; clear H; have hcz62_0 : wr.cell? ⟨yA, 0, none⟩ = some (.slice A0_0 l0_0.length c0_0) := (zC vE.out 0).trans rfl; have hcz62_1 : wr.cell? ⟨yA, 1, none⟩ = some (.slice A0_1 l0_1.length c0_1) := (zC vE.out 1).trans rfl; have hcz62_2 : wr.cell? ⟨yA, 2, none⟩ = some (.slice A0_2 l0_2.length c0_2) := (zC vE.out 2).trans rfl; have hfz62_0 := zB vE.out 0; have hfz62_1 := zB vE.out 1; have hfz62_2 := zB vE.out 2; go_wp2; repeat (go_quiet (fail); try go_wp2)
                   go_roundg k5
                   case measure => have := HJ3.out; have := HK2.out; have := HJ19.out; have := HK4.out; have := HK5.out; omega
                   case rel => exact ⟨(wrap64 (x6_5 + 1)), (by first | rfl | (simp; done) | (simp [*]; done)), H', ⟨by have := HJ3.out; have := HK2.out; have := HJ19.out; have := HK4.out; have := HK5.out; omega⟩, ⟨by (with_reducible repeat first | apply bN | apply bD | apply bA); exact vE.out⟩, ⟨eG HB.out⟩⟩
                ·
                 rw [if_neg c30] at H; have c30b0 : decide (x6_5 < (l0_1.length : Int)) = false := decide_eq_false c30; clear c30; have H' := zA.mk H; clear H; have hcz63_0 : wr.cell? ⟨yA, 0, none⟩ = some (.slice A0_0 l0_0.length c0_0) := (zC vE.out 0).trans rfl; have hcz63_1 : wr.cell? ⟨yA, 1, none⟩ = some (.slice A0_1 l0_1.length c0_1) := (zC vE.out 1).trans rfl; have hcz63_2 : wr.cell? ⟨yA, 2, none⟩ = some (.slice A0_2 l0_2.length c0_2) := (zC vE.out 2).trans rfl; have hfz63_0 := zB vE.out 0; have hfz63_1 := zB vE.out 1; have hfz63_2 := zB vE.out 2; go_wp2; repeat (go_quiet (fail); try go_wp2)
                 go_roundg k5
                 case measure => have := HJ3.out; have := HK2.out; have := HJ19.out; have := HK4.out; have := HK5.out; omega
                 case rel => exact ⟨(wrap64 (x5_4 + 1)), (by first | rfl | (simp; done) | (simp [*]; done)), H', ⟨by have := HJ3.out; have := HK2.out; have := HJ19.out; have := HK4.out; have := HK5.out; omega⟩, ⟨by (with_reducible repeat first | apply bN | apply bD | apply bA); exact vE.out⟩, ⟨eG HB.out⟩⟩
             ·
              rw [if_neg c28] at H; have c28b0 : decide (x5_4 < (l0_2.length : Int)) = false := decide_eq_false c28; clear c28; obtain rfl := Option.some.inj H; have hcz64_0 : wr.cell? ⟨yA, 0, none⟩ = some (.slice A0_0 l0_0.length c0_0) := (zC vE.out 0).trans rfl; have hcz64_1 : wr.cell? ⟨yA, 1, none⟩ = some (.slice A0_1 l0_1.length c0_1) := (zC vE.out 1).trans rfl; have hcz64_2 : wr.cell? ⟨yA, 2, none⟩ = some (.slice A0_2 l0_2.length c0_2) := (zC vE.out 2).trans rfl; have hfz64_0 := zB vE.out 0; have hfz64_1 := zB vE.out 1; have hfz64_2 := zB vE.out 2; go_wp2; repeat (go_quiet (fail); try go_wp2)
              go_ret
              exact ⟨by first | rfl | (simp [zI, zH] <;> rfl) | (simp [*, zI, zH] <;> rfl), eG HB.out⟩
 ·
  rw [if_neg c3] at H; have c3b0 : (t219 == 0) = false := beq_eq_false_iff_ne.mpr c3; have c3b1 : (t219 != 0) = true := bne_iff_ne.mpr c3; obtain rfl := Option.some.inj H; go_enter Tryd.func19, Tryd.ntmps19
  go_wp2_with (first | ((with_reducible refine vH (N := 1) rfl ?_); refine vD ?hg (N := 1) ?hd (cs := #[.slice A0_0 l0_0.length c0_0, .slice A0_1 l0_1.length c0_1, .slice A0_2 l0_2.length c0_2]) (t := 25) ?hr ?_; (case hd => rfl); (case hg => rfl); (case hr => first | (go_simp; done) | (go_simp; rfl)); intro yA hg w65 hbox hb; have n0_ := zA.mk (zG (eG HB.out) hb); have n1_ := zA.mk (hbox); have n2_ := zA.mk ((by rw [hg]; exact (zD (eG HB.out)) : w.heap.size ≤ yA)); have n3_ := zA.mk ((by rw [hg]; exact (zD (eG HB.out)) : w.heap.size ≤ yA)); clear HB; have HB := n0_; have vE := n1_; have zYJ := n2_; have zMF := n3_; have zQS := geI zMF; clear n0_ n1_ n2_ n3_; clear hb hbox hg; have zWW : w65.cell? ⟨yA, 0, none⟩ = some (.slice A0_0 l0_0.length c0_0) := (zC vE.out 0).trans rfl; have zWV : w65.cell? ⟨yA, 1, none⟩ = some (.slice A0_1 l0_1.length c0_1) := (zC vE.out 1).trans rfl; have zWU : w65.cell? ⟨yA, 2, none⟩ = some (.slice A0_2 l0_2.length c0_2) := (zC vE.out 2).trans rfl; have zWF := zB vE.out 0; have zWE := zB vE.out 1; have zWD := zB vE.out 2) | (go_at_call 40; (with_reducible refine (zV.calls k _ _ l0_0 _ _ l0_1 _ _ l0_2 t219 _ ?side1 ?side2 ?side3 ?side4 ?side5 ?side6 A2.out).mono ?_); (case side1 => repeat (first | exact (Kd.zX HR0_0.out HB.out) | (with_reducible refine Kd.zP ?_ _) | (with_reducible refine Kd.zO ?_ _) | (with_reducible refine Kd.zY ?_))); (case side2 => exact HC0_0.out); (case side3 => repeat (first | exact (Kd.zX HR0_1.out HB.out) | (with_reducible refine Kd.zP ?_ _) | (with_reducible refine Kd.zO ?_ _) | (with_reducible refine Kd.zY ?_))); (case side4 => exact HC0_1.out); (case side5 => repeat (first | exact (Kd.zX HR0_2.out HB.out) | (with_reducible refine Kd.zP ?_ _) | (with_reducible refine Kd.zO ?_ _) | (with_reducible refine Kd.zY ?_))); (case side6 => exact HC0_2.out); rintro e w67 ⟨rfl, hb⟩; have n0_ := zA.mk (zM (bG vE.out) hb); have n1_ := zA.mk (zG (eG HB.out) hb); clear vE; clear HB; have vE := n0_; have HB := n1_; clear n0_ n1_; (try clear hb); (try clear hb2); (try clear hk); (try clear hi)))
  repeat (go_quiet (first | ((with_reducible refine vH (N := 1) rfl ?_); refine vD ?hg (N := 1) ?hd (cs := #[.slice A0_0 l0_0.length c0_0, .slice A0_1 l0_1.length c0_1, .slice A0_2 l0_2.length c0_2]) (t := 25) ?hr ?_; (case hd => rfl); (case hg => rfl); (case hr => first | (go_simp; done) | (go_simp; rfl)); intro yA hg w65 hbox hb; have n0_ := zA.mk (zG (eG HB.out) hb); have n1_ := zA.mk (hbox); have n2_ := zA.mk ((by rw [hg]; exact (zD (eG HB.out)) : w.heap.size ≤ yA)); have n3_ := zA.mk ((by rw [hg]; exact (zD (eG HB.out)) : w.heap.size ≤ yA)); clear HB; have HB := n0_; have vE := n1_; have zYJ := n2_; have zMF := n3_; have zQS := geI zMF; clear n0_ n1_ n2_ n3_; clear hb hbox hg; have zWW : w65.cell? ⟨yA, 0, none⟩ = some (.slice A0_0 l0_0.length c0_0) := (zC vE.out 0).trans rfl; have zWV : w65.cell? ⟨yA, 1, none⟩ = some (.slice A0_1 l0_1.length c0_1) := (zC vE.out 1).trans rfl; have zWU : w65.cell? ⟨yA, 2, none⟩ = some (.slice A0_2 l0_2.length c0_2) := (zC vE.out 2).trans rfl; have zWF := zB vE.out 0; have zWE := zB vE.out 1; have zWD := zB vE.out 2) | (go_at_call 40; (with_reducible refine (zV.calls k _ _ l0_0 _ _ l0_1 _ _ l0_2 t219 _ ?side1 ?side2 ?side3 ?side4 ?side5 ?side6 A2.out).mono ?_); (case side1 => repeat (first | exact (Kd.zX HR0_0.out HB.out) | (with_reducible refine Kd.zP ?_ _) | (with_reducible refine Kd.zO ?_ _) | (with_reducible refine Kd.zY ?_))); (case side2 => exact HC0_0.out); (case side3 => repeat (first | exact (Kd.zX HR0_1.out HB.out) | (with_reducible refine Kd.zP ?_ _) | (with_reducible refine Kd.zO ?_ _) | (with_reducible refine Kd.zY ?_))); (case side4 => exact HC0_1.out); (case side5 => repeat (first | exact (Kd.zX HR0_2.out HB.out) | (with_reducible refine Kd.zP ?_ _) | (with_reducible refine Kd.zO ?_ _) | (with_reducible refine Kd.zY ?_))); (case side6 => exact HC0_2.out); rintro e w67 ⟨rfl, hb⟩; have n0_ := zA.mk (zM (bG vE.out) hb); have n1_ := zA.mk (zG (eG HB.out) hb); clear vE; clear HB; have vE := n0_; have HB := n1_; clear n0_ n1_; (try clear hb); (try clear hb2); (try clear hk); (try clear hi))); try go_wp2_with (first | ((with_reducible refine vH (N := 1) rfl ?_); refine vD ?hg (N := 1) ?hd (cs := #[.slice A0_0 l0_0.length c0_0, .slice A0_1 l0_1.length c0_1, .slice A0_2 l0_2.length c0_2]) (t := 25) ?hr ?_; (case hd => rfl); (case hg => rfl); (case hr => first | (go_simp; done) | (go_simp; rfl)); intro yA hg w65 hbox hb; have n0_ := zA.mk (zG (eG HB.out) hb); have n1_ := zA.mk (hbox); have n2_ := zA.mk ((by rw [hg]; exact (zD (eG HB.out)) : w.heap.size ≤ yA)); have n3_ := zA.mk ((by rw [hg]; exact (zD (eG HB.out)) : w.heap.size ≤ yA)); clear HB; have HB := n0_; have vE := n1_; have zYJ := n2_; have zMF := n3_; have zQS := geI zMF; clear n0_ n1_ n2_ n3_; clear hb hbox hg; have zWW : w65.cell? ⟨yA, 0, none⟩ = some (.slice A0_0 l0_0.length c0_0) := (zC vE.out 0).trans rfl; have zWV : w65.cell? ⟨yA, 1, none⟩ = some (.slice A0_1 l0_1.length c0_1) := (zC vE.out 1).trans rfl; have zWU : w65.cell? ⟨yA, 2, none⟩ = some (.slice A0_2 l0_2.length c0_2) := (zC vE.out 2).trans rfl; have zWF := zB vE.out 0; have zWE := zB vE.out 1; have zWD := zB vE.out 2) | (go_at_call 40; (with_reducible refine (zV.calls k _ _ l0_0 _ _ l0_1 _ _ l0_2 t219 _ ?side1 ?side2 ?side3 ?side4 ?side5 ?side6 A2.out).mono ?_); (case side1 => repeat (first | exact (Kd.zX HR0_0.out HB.out) | (with_reducible refine Kd.zP ?_ _) | (with_reducible refine Kd.zO ?_ _) | (with_reducible refine Kd.zY ?_))); (case side2 => exact HC0_0.out); (case side3 => repeat (first | exact (Kd.zX HR0_1.out HB.out) | (with_reducible refine Kd.zP ?_ _) | (with_reducible refine Kd.zO ?_ _) | (with_reducible refine Kd.zY ?_))); (case side4 => exact HC0_1.out); (case side5 => repeat (first | exact (Kd.zX HR0_2.out HB.out) | (with_reducible refine Kd.zP ?_ _) | (with_reducible refine Kd.zO ?_ _) | (with_reducible refine Kd.zY ?_))); (case side6 => exact HC0_2.out); rintro e w67 ⟨rfl, hb⟩; have n0_ := zA.mk (zM (bG vE.out) hb); have n1_ := zA.mk (zG (eG HB.out) hb); clear vE; clear HB; have vE := n0_; have HB := n1_; clear n0_ n1_; (try clear hb); (try clear hb2); (try clear hk); (try clear hi))))
  go_ret
  exact ⟨by first | rfl | (simp [zI, zH] <;> rfl) | (simp [*, zI, zH] <;> rfl), eG HB.out⟩
end Go.Proofs.YtmdfnambaedllaaDoor.Pr
namespace Go.Proofs.YtmdfnambaedllaaDoor.Pr
open Go.RowKit Go.Proofs.YtmdfnambaedllaaDoorW.PrintWords Go.Proofs.YtmdfnambaedllaaDoorW.PrintLast Go.Proofs.YtmdfnambaedllaaDoorW.PrintMore Go.Proofs.YtmdfnambaedllaaDoor.X
attribute [local go_sem] kJ kH zAS zAR uF uE kI kG   -- for this text's walks alone
set_option linter.unusedVariables false
set_option linter.unusedSimpArgs false
def wW.f : Nat → Int → Option (ByteArray)
 | 0, _ => none
 | k + 1, a0 => if a0 < 10 then (if 0 ≤ a0 then (if a0 ≤ (wrap64 (a0 + 1)) then (if (wrap64 (a0 + 1)) ≤ 10 then (some ((⟨#[48, 49, 50, 51, 52, 53, 54, 55, 56, 57]⟩ : ByteArray).extract (a0 : Int).toNat ((wrap64 (a0 + 1)) : Int).toNat)) else (none)) else (none)) else (none)) else ((wW.f k (wrap64 (Int.tdiv a0 10))).bind fun t358 => (if 0 ≤ (Int.tmod a0 10) then (if (Int.tmod a0 10) ≤ (wrap64 ((Int.tmod a0 10) + 1)) then (if (wrap64 ((Int.tmod a0 10) + 1)) ≤ 10 then (if t358.size + ((⟨#[48, 49, 50, 51, 52, 53, 54, 55, 56, 57]⟩ : ByteArray).extract ((Int.tmod a0 10) : Int).toNat ((wrap64 ((Int.tmod a0 10) + 1)) : Int).toNat).size ≤ 9223372036854775807 then (some (t358 ++ ((⟨#[48, 49, 50, 51, 52, 53, 54, 55, 56, 57]⟩ : ByteArray).extract ((Int.tmod a0 10) : Int).toNat ((wrap64 ((Int.tmod a0 10) + 1)) : Int).toNat))) else (none)) else (none)) else (none)) else (none)))
def wW.T3 : Bool × List (List Nat × List Nat) := (true, [([], []), ([0], [0]), ([1], [1]), ([], []), ([3], [3]), ([], []), ([5], [5]), ([6], [6]), ([4, 7], [4, 7]), ([2, 8], [2, 8]), ([9, 2, 0, 1, 2, 3, 4, 5, 6, 7, 8, 9], [9])])
def wW.B3 : List Nat := [0, 1, 3, 0, 8, 0, 32, 96, 248, 511, 1023]
theorem wW.tab3 : rtab .any (opsOf Tryd.f59 3) = wW.T3 := by kernel_rfl
theorem wW.bits3 : zCI wW.T3.2 wW.B3 = true := by kernel_rfl
set_option maxHeartbeats 8000000 in
set_option maxRecDepth 100000 in
theorem wW.calls (k : Nat) : ∀ (a0 : Int) (r : ByteArray) (w : World) (h : wW.f k a0 = some r),
  Calls Tryd.prog 59 #[.int .i64 a0] w fun e w' => e = .returned (.string r) ∧ Below w.heap.size w w' := by
 induction k using Nat.strongRecOn with
 | _ k ih =>
 intro a0 r w h
 cases k with
 | zero => exact absurd h (by simp [wW.f])
 | succ k =>
 simp only [wW.f] at h; have HB := zA.mk (Below.refl w.heap.size w); have H : (if a0 < 10 then (if 0 ≤ a0 then (if a0 ≤ (wrap64 (a0 + 1)) then (if (wrap64 (a0 + 1)) ≤ 10 then (some ((⟨#[48, 49, 50, 51, 52, 53, 54, 55, 56, 57]⟩ : ByteArray).extract (a0 : Int).toNat ((wrap64 (a0 + 1)) : Int).toNat)) else (none)) else (none)) else (none)) else ((wW.f k (wrap64 (Int.tdiv a0 10))).bind fun t358 => (if 0 ≤ (Int.tmod a0 10) then (if (Int.tmod a0 10) ≤ (wrap64 ((Int.tmod a0 10) + 1)) then (if (wrap64 ((Int.tmod a0 10) + 1)) ≤ 10 then (if t358.size + ((⟨#[48, 49, 50, 51, 52, 53, 54, 55, 56, 57]⟩ : ByteArray).extract ((Int.tmod a0 10) : Int).toNat ((wrap64 ((Int.tmod a0 10) + 1)) : Int).toNat).size ≤ 9223372036854775807 then (some (t358 ++ ((⟨#[48, 49, 50, 51, 52, 53, 54, 55, 56, 57]⟩ : ByteArray).extract ((Int.tmod a0 10) : Int).toNat ((wrap64 ((Int.tmod a0 10) + 1)) : Int).toNat))) else (none)) else (none)) else (none)) else (none)))) = some r := h; clear h; by_cases c2 : a0 < 10
 ·
  rw [if_pos c2] at H; have c2b0 : decide (a0 < 10) = true := decide_eq_true c2; clear c2; by_cases c3 : 0 ≤ a0
  ·
   rw [if_pos c3] at H; have c3b0 := eq_true c3; have c3b1 : decide (0 ≤ a0) = true := decide_eq_true c3; clear c3; by_cases c4 : a0 ≤ (wrap64 (a0 + 1))
   ·
    rw [if_pos c4] at H; have c4b0 := eq_true c4; have c4b1 : decide (a0 ≤ (wrap64 (a0 + 1))) = true := decide_eq_true c4; by_cases c5 : (wrap64 (a0 + 1)) ≤ 10
    ·
     rw [if_pos c5] at H; have c5b0 := eq_true c5; have c5b1 : decide ((wrap64 (a0 + 1)) ≤ 10) = true := decide_eq_true c5; obtain rfl := Option.some.inj H; go_enter Tryd.func59, Tryd.ntmps59
     go_wp2; go_ret
     exact ⟨by first | rfl | (simp [zI, zH] <;> rfl) | (simp [*, zI, zH] <;> rfl), eG HB.out⟩
    · rw [if_neg c5] at H; exact absurd H (by simp)
   · rw [if_neg c4] at H; exact absurd H (by simp)
  · rw [if_neg c3] at H; exact absurd H (by simp)
 ·
  rw [if_neg c2] at H; have c2b0 : decide (a0 < 10) = false := decide_eq_false c2; clear c2; replace H := Option.bind_eq_some_iff.mp H; obtain ⟨t358, A60, H⟩ := H; replace H : (if 0 ≤ (Int.tmod a0 10) then (if (Int.tmod a0 10) ≤ (wrap64 ((Int.tmod a0 10) + 1)) then (if (wrap64 ((Int.tmod a0 10) + 1)) ≤ 10 then (if t358.size + ((⟨#[48, 49, 50, 51, 52, 53, 54, 55, 56, 57]⟩ : ByteArray).extract ((Int.tmod a0 10) : Int).toNat ((wrap64 ((Int.tmod a0 10) + 1)) : Int).toNat).size ≤ 9223372036854775807 then (some (t358 ++ ((⟨#[48, 49, 50, 51, 52, 53, 54, 55, 56, 57]⟩ : ByteArray).extract ((Int.tmod a0 10) : Int).toNat ((wrap64 ((Int.tmod a0 10) + 1)) : Int).toNat))) else (none)) else (none)) else (none)) else (none)) = some r := H; have A6 := zA.mk A60; clear A60; obtain ⟨ji7, hji7⟩ : ∃ j_ : Int, (Int.tmod a0 10) = j_ := ⟨_, rfl⟩; replace H : (if 0 ≤ (ji7) then (if (ji7) ≤ (wrap64 ((ji7) + 1)) then (if (wrap64 ((ji7) + 1)) ≤ 10 then (if t358.size + ((⟨#[48, 49, 50, 51, 52, 53, 54, 55, 56, 57]⟩ : ByteArray).extract ((ji7) : Int).toNat ((wrap64 ((ji7) + 1)) : Int).toNat).size ≤ 9223372036854775807 then (some (t358 ++ ((⟨#[48, 49, 50, 51, 52, 53, 54, 55, 56, 57]⟩ : ByteArray).extract ((ji7) : Int).toNat ((wrap64 ((ji7) + 1)) : Int).toNat))) else (none)) else (none)) else (none)) else (none)) = some r := by first | (rw [hji7] at H; exact H) | (simp only [hji7] at H ⊢; exact H)
  (try rw [hji7] at A6)
  by_cases c8 : 0 ≤ (ji7)
  ·
   rw [if_pos c8] at H; have c8b0 := eq_true c8; have c8b1 : decide (0 ≤ (ji7)) = true := decide_eq_true c8; clear c8; by_cases c9 : (ji7) ≤ (wrap64 ((ji7) + 1))
   ·
    rw [if_pos c9] at H; have c9b0 := eq_true c9; have c9b1 : decide ((ji7) ≤ (wrap64 ((ji7) + 1))) = true := decide_eq_true c9; by_cases c10 : (wrap64 ((ji7) + 1)) ≤ 10
    ·
     rw [if_pos c10] at H; have c10b0 := eq_true c10; have c10b1 : decide ((wrap64 ((ji7) + 1)) ≤ 10) = true := decide_eq_true c10; by_cases c11 : t358.size + ((⟨#[48, 49, 50, 51, 52, 53, 54, 55, 56, 57]⟩ : ByteArray).extract ((ji7) : Int).toNat ((wrap64 ((ji7) + 1)) : Int).toNat).size ≤ 9223372036854775807
     ·
      rw [if_pos c11] at H; have c11b0 := eq_true c11; have c11b1 : decide (t358.size + ((⟨#[48, 49, 50, 51, 52, 53, 54, 55, 56, 57]⟩ : ByteArray).extract ((ji7) : Int).toNat ((wrap64 ((ji7) + 1)) : Int).toNat).size ≤ 9223372036854775807) = true := decide_eq_true c11; try have c11b2 : (9223372036854775807 < t358.size + ((⟨#[48, 49, 50, 51, 52, 53, 54, 55, 56, 57]⟩ : ByteArray).extract ((ji7) : Int).toNat ((wrap64 ((ji7) + 1)) : Int).toNat).size) = False := eq_false (Nat.not_lt.2 c11)
      have c11b3 : (9223372036854775807 < t358.size + ((wrap64 (ji7 + 1)).toNat - ji7.toNat)) = False := eq_false (Nat.not_lt.2 (by have h_ := c11; rw [ByteArray.size_extract, show (⟨#[48, 49, 50, 51, 52, 53, 54, 55, 56, 57]⟩ : ByteArray).size = 10 from rfl] at h_; omega)); obtain rfl := Option.some.inj H; go_enter Tryd.func59, Tryd.ntmps59
      try go_wp2
      have n0_ := zA.mk (kC HB.out); clear HB; have HB := n0_; clear n0_; refine zJS (n := 11) (S := fun w' => True) (ds := []) #[false, false, false, false, false, false, false, false, false, false, false] (by kernel_rfl) rfl rfl trivial (fun hHeld => ?_); refine zCD wW.tab3 wW.bits3 (fun HT_ HW_ => ?_)
      generalize w.drew = w12 at HB hHeld ⊢; refine qG (i := 0) (N := some 9) (v := ?_) (a' := ?_) #[true, false, false, false, false, false, false, false, false, false, false] rfl rfl (vG HT_.out (by kernel_rfl)) (fun _ _ _ h => h) (Or.inl ⟨by rfl, ?_⟩) ?_ ?_; rotate_left
      · intro w'; go_simp; with_reducible rfl
      rotate_left
      · simp only [Act.put, sIA, sC0, sCS, wX, vB]; rfl
      refine qG (i := 1) (N := some 10) (v := ?_) (a' := ?_) #[true, true, false, false, false, false, false, false, false, false, false] rfl rfl (vG HT_.out (by kernel_rfl)) (fun _ _ _ h => h) (Or.inl ⟨by rfl, ?_⟩) ?_ ?_; rotate_left
      · intro w'; go_simp; with_reducible rfl
      rotate_left
      · simp only [Act.put, sIA, sC0, sCS, wX, vB]; rfl
      refine qG (i := 3) (N := some 12) (v := ?_) (a' := ?_) #[true, true, false, true, false, false, false, false, false, false, false] rfl rfl (vG HT_.out (by kernel_rfl)) (fun _ _ _ h => h) (Or.inl ⟨by rfl, ?_⟩) ?_ ?_; rotate_left
      · intro w'; go_simp; with_reducible rfl
      rotate_left
      · simp only [Act.put, sIA, sC0, sCS, wX, vB]; rfl
      refine qG (i := 4) (N := some 13) (v := ?_) (a' := ?_) #[true, true, false, true, true, false, false, false, false, false, false] rfl rfl (vG HT_.out (by kernel_rfl)) (fun _ _ _ h => h) (Or.inl ⟨by rfl, ?_⟩) ?_ ?_; rotate_left
      · intro w'; go_simp; with_reducible rfl
      rotate_left
      · simp only [Act.put, sIA, sC0, sCS, wX, vB]; rfl
      refine qG (i := 5) (N := some 14) (v := ?_) (a' := ?_) #[true, true, false, true, true, true, false, false, false, false, false] rfl rfl (vG HT_.out (by kernel_rfl)) (fun _ _ _ h => h) (Or.inl ⟨by rfl, ?_⟩) ?_ ?_; rotate_left
      · intro w'; go_simp; with_reducible rfl
      rotate_left
      · simp only [Act.put, sIA, sC0, sCS, wX, vB]; rfl
      refine qG (i := 6) (N := some 15) (v := ?_) (a' := ?_) #[true, true, false, true, true, true, true, false, false, false, false] rfl rfl (vG HT_.out (by kernel_rfl)) (fun _ _ _ h => h) (Or.inl ⟨by rfl, ?_⟩) ?_ ?_; rotate_left
      · intro w'; go_simp; with_reducible rfl
      rotate_left
      · simp only [Act.put, sIA, sC0, sCS, wX, vB]; rfl
      refine qG (i := 7) (N := some 16) (v := ?_) (a' := ?_) #[true, true, false, true, true, true, true, true, false, false, false] rfl rfl (vG HT_.out (by kernel_rfl)) (fun _ _ _ h => h) (Or.inl ⟨by rfl, ?_⟩) ?_ ?_; rotate_left
      · intro w'; go_simp; with_reducible rfl
      rotate_left
      · simp only [Act.put, sIA, sC0, sCS, wX, vB]; rfl
      refine qG (i := 8) (N := some 17) (v := ?_) (a' := ?_) #[true, true, false, true, true, true, true, true, true, false, false] rfl rfl (vG HT_.out (by kernel_rfl)) (fun _ _ _ h => h) (Or.inl ⟨by rfl, ?_⟩) ?_ ?_; rotate_left
      · intro w'; go_simp; with_reducible rfl
      rotate_left
      · simp only [Act.put, sIA, sC0, sCS, wX, vB]; rfl
      refine one_ (i := 2) (N := some 11) #[true, true, true, true, true, true, true, true, true, false, false] rfl rfl (zDL HT_.out (by kernel_rfl)) (by decide) (fun K hK => ?_); refine goes_ Tryd.func59 (by kernel_rfl) rfl #[.int .i64 (wrap64 (Int.tdiv a0 10))] (by rfl) rfl rfl (by (try simp only [List.map_toArray, List.map_cons, List.map_nil]); first | done | rfl | (simp only [List.length_drop, List.length_take]; rfl)) ?_; with_reducible refine (ih k (by omega) (wrap64 (Int.tdiv a0 10)) t358 _ A6.out).mono ?_
      rintro e w13 ⟨rfl, hb⟩; refine ⟨_, rfl, ?_⟩; have n0_ := zA.mk (zG (eG HB.out) hb); clear HB; have HB := n0_; clear n0_; (try clear hb)
      (try clear hb2)
      (try clear hk)
      (try clear hi)
      refine hK.out _ _ trivial (fun hHeld => ?_); clear hK K; refine zEW (a' := ?_) ?_ ?_; rotate_left
      ·
       show Act.put _ (some 11) _ = _
       simp only [Act.put, sIA, sC0, sCS, wX, vB]; rfl
      refine qG (i := 9) (N := some 18) (v := ?_) (a' := ?_) #[true, true, true, true, true, true, true, true, true, true, false] rfl rfl (vG HT_.out (by kernel_rfl)) (fun _ _ _ h => h) (Or.inl ⟨by rfl, ?_⟩) ?_ ?_; rotate_left
      · intro w'; go_simp; with_reducible rfl
      rotate_left
      · simp only [Act.put, sIA, sC0, sCS, wX, vB]; rfl
      refine qG (i := 10) (N := some 2) (v := ?_) (a' := ?_) #[true, true, true, true, true, true, true, true, true, true, true] rfl rfl (vG HT_.out (by kernel_rfl)) (fun _ _ _ h => h) (Or.inl ⟨by rfl, ?_⟩) ?_ ?_; rotate_left
      · intro w'; go_simp; with_reducible rfl
      rotate_left
      · simp only [Act.put, sIA, sC0, sCS, wX, vB]; rfl
      refine zQU (zFW HT_.out (by kernel_rfl)) ?_; try go_wp2
      go_ret
      exact ⟨by first | rfl | (simp [zI, zH] <;> rfl) | (simp only [← hji7]; first | rfl | (simp [zI, zH] <;> rfl)) | (simp [*, zI, zH] <;> rfl), eG HB.out⟩
     · rw [if_neg c11] at H; exact absurd H (by simp)
    · rw [if_neg c10] at H; exact absurd H (by simp)
   · rw [if_neg c9] at H; exact absurd H (by simp)
  · rw [if_neg c8] at H; exact absurd H (by simp)
def yX.f (k : Nat) (a0 : Int) : Option (ByteArray) := if a0 < 0 then ((wW.f k (wrap64 (-a0))).bind fun t359 => (if 1 + t359.size ≤ 9223372036854775807 then (some ((⟨#[45]⟩ : ByteArray) ++ t359)) else (none))) else ((wW.f k a0).bind fun t360 => (some t360))
set_option maxHeartbeats 8000000 in
set_option maxRecDepth 100000 in
theorem yX.calls (k : Nat) (a0 : Int) (r : ByteArray) (w : World) (h : yX.f k a0 = some r) :
  Calls Tryd.prog 45 #[.int .i64 a0] w fun e w' => e = .returned (.string r) ∧ Below w.heap.size w w' := by
 have HB := zA.mk (Below.refl w.heap.size w); have H : (if a0 < 0 then ((wW.f k (wrap64 (-a0))).bind fun t359 => (if 1 + t359.size ≤ 9223372036854775807 then (some ((⟨#[45]⟩ : ByteArray) ++ t359)) else (none))) else ((wW.f k a0).bind fun t360 => (some t360))) = some r := h; clear h; by_cases c2 : a0 < 0
 ·
  rw [if_pos c2] at H; have c2b0 : decide (a0 < 0) = true := decide_eq_true c2; clear c2; replace H := Option.bind_eq_some_iff.mp H; obtain ⟨t359, A30, H⟩ := H; replace H : (if 1 + t359.size ≤ 9223372036854775807 then (some ((⟨#[45]⟩ : ByteArray) ++ t359)) else (none)) = some r := H; have A3 := zA.mk A30; clear A30; by_cases c4 : 1 + t359.size ≤ 9223372036854775807
  ·
   rw [if_pos c4] at H; have c4b0 := eq_true c4; have c4b1 : decide (1 + t359.size ≤ 9223372036854775807) = true := decide_eq_true c4; try have c4b2 : (9223372036854775807 < 1 + t359.size) = False := eq_false (Nat.not_lt.2 c4)
   obtain rfl := Option.some.inj H; go_enter Tryd.func45, Tryd.ntmps45
   go_wp2_with (first | ((with_reducible refine zQ (f := 59) rfl ?_); refine vN (some 7) rfl rfl Tryd.func59 (by kernel_rfl) rfl #[.int .i64 (wrap64 (-a0))] rfl (by (try simp only [List.map_toArray, List.map_cons, List.map_nil]); first | done | rfl | (simp only [List.length_drop, List.length_take]; rfl)) ?_; (with_reducible refine (wW.calls k (wrap64 (-a0)) t359 _ A3.out).mono ?_); rintro e w5 ⟨rfl, hb⟩; refine ⟨_, rfl, ?_⟩; have n0_ := zA.mk (zG (eG HB.out) hb); clear HB; have HB := n0_; clear n0_; (try clear hb); (try clear hb2); (try clear hk); (try clear hi)))
   go_ret
   exact ⟨by first | rfl | (simp [zI, zH] <;> rfl) | (simp [*, zI, zH] <;> rfl), eG HB.out⟩
  · rw [if_neg c4] at H; exact absurd H (by simp)
 ·
  rw [if_neg c2] at H; have c2b0 : decide (a0 < 0) = false := decide_eq_false c2; clear c2; replace H := Option.bind_eq_some_iff.mp H; obtain ⟨t360, A60, H⟩ := H; replace H : (some t360) = some r := H; have A6 := zA.mk A60; clear A60; obtain rfl := Option.some.inj H; go_enter Tryd.func45, Tryd.ntmps45
  go_wp2_with (first | ((with_reducible refine zQ (f := 59) rfl ?_); refine vN (some 10) rfl rfl Tryd.func59 (by kernel_rfl) rfl #[.int .i64 a0] rfl (by (try simp only [List.map_toArray, List.map_cons, List.map_nil]); first | done | rfl | (simp only [List.length_drop, List.length_take]; rfl)) ?_; (with_reducible refine (wW.calls k a0 t360 _ A6.out).mono ?_); rintro e w7 ⟨rfl, hb⟩; refine ⟨_, rfl, ?_⟩; have n0_ := zA.mk (zG (eG HB.out) hb); clear HB; have HB := n0_; clear n0_; (try clear hb); (try clear hb2); (try clear hk); (try clear hi)))
  go_ret
  exact ⟨by first | rfl | (simp [zI, zH] <;> rfl) | (simp [*, zI, zH] <;> rfl), eG HB.out⟩
def vW.l0 : Nat → List Int → ByteArray → Int → Option (ByteArray)
 | 0, _, _, _ => none
 | k + 1, x0, x3, x4 => if x4 < (x0.length : Int) then (if x3.size + 1 ≤ 9223372036854775807 then (if 0 ≤ x4 then ((yX.f k (rd x0 x4)).bind fun t362 => (if (x3 ++ (⟨#[32]⟩ : ByteArray)).size + t362.size ≤ 9223372036854775807 then (vW.l0 k x0 ((x3 ++ (⟨#[32]⟩ : ByteArray)) ++ t362) (wrap64 (x4 + 1))) else (none))) else (none)) else (none)) else (some x3)
def vW.f (k : Nat) (l0 : List Int) : Option (ByteArray) := vW.l0 k l0 (⟨#[]⟩ : ByteArray) 0
set_option maxHeartbeats 8000000 in
set_option maxRecDepth 100000 in
theorem vW.calls (k : Nat) (A0 : Option Addr) (c0 : Nat) (l0 : List Int) (r : ByteArray) (w : World) (hr0 : Kd.C (Kd.int .i64) w A0 l0.length l0) (hc0 : l0.length ≤ c0) (h : vW.f k l0 = some r) :
  Calls Tryd.prog 44 #[.slice A0 l0.length c0] w fun e w' => e = .returned (.string r) ∧ Below w.heap.size w w' := by
 have HR0 := zA.mk hr0; have HC0 := zA.mk hc0; clear hr0 hc0; have HB := zA.mk (Below.refl w.heap.size w); have H : (vW.l0 k l0 (⟨#[]⟩ : ByteArray) 0) = some r := h; clear h; have H' := zA.mk H; clear H; go_enter Tryd.func44, Tryd.ntmps44
 go_wp2; go_loopg [3, 4] k (fun kq v3 v4 w' => ∃ (x3_1 : ByteArray) (x4_1 : Int), v3 = .string x3_1 ∧ v4 = .int .i64 x4_1 ∧ zA (vW.l0 kq l0 x3_1 x4_1 = some r) ∧ zA (kq ≤ k) ∧ zA (Below w.heap.size w w'))
 case atStart => exact ⟨((⟨#[]⟩ : ByteArray)), (0), (by first | rfl | (simp; done) | (simp [*]; done)), (by first | rfl | (simp; done) | (simp [*]; done)), H', ⟨Nat.le_refl _⟩, ⟨eG HB.out⟩⟩
 case round =>
  clear H'; obtain ⟨x3_1, x4_1, rfl, rfl, HA, HK1, HB⟩ := hrel
  cases gk with
  | zero => exact absurd HA.out (by simp [vW.l0])
  | succ k1 =>
   have H := HA.out; clear HA; simp only [vW.l0] at H; by_cases c2 : x4_1 < (l0.length : Int)
   ·
    rw [if_pos c2] at H; have c2b0 : decide (x4_1 < (l0.length : Int)) = true := decide_eq_true c2; clear c2; by_cases c3 : x3_1.size + 1 ≤ 9223372036854775807
    ·
     rw [if_pos c3] at H; have c3b0 := eq_true c3; have c3b1 : decide (x3_1.size + 1 ≤ 9223372036854775807) = true := decide_eq_true c3; try have c3b2 : (9223372036854775807 < x3_1.size + 1) = False := eq_false (Nat.not_lt.2 c3)
     by_cases c4 : 0 ≤ x4_1
     ·
      rw [if_pos c4] at H; have c4b0 : decide (0 ≤ x4_1) = true := decide_eq_true c4; clear c4; replace H := Option.bind_eq_some_iff.mp H; obtain ⟨t362, A50, H⟩ := H; replace H : (if (x3_1 ++ (⟨#[32]⟩ : ByteArray)).size + t362.size ≤ 9223372036854775807 then (vW.l0 k1 l0 ((x3_1 ++ (⟨#[32]⟩ : ByteArray)) ++ t362) (wrap64 (x4_1 + 1))) else (none)) = some r := H; have A5 := zA.mk A50; clear A50; by_cases c6 : (x3_1 ++ (⟨#[32]⟩ : ByteArray)).size + t362.size ≤ 9223372036854775807
      ·
       rw [if_pos c6] at H; have c6b0 := eq_true c6; have c6b1 : decide ((x3_1 ++ (⟨#[32]⟩ : ByteArray)).size + t362.size ≤ 9223372036854775807) = true := decide_eq_true c6; try have c6b2 : (9223372036854775807 < (x3_1 ++ (⟨#[32]⟩ : ByteArray)).size + t362.size) = False := eq_false (Nat.not_lt.2 c6)
       try have c6b3 : (9223372036854775807 < x3_1.size + 1 + t362.size) = False := eq_false (Nat.not_lt.2 (by have h_ := c6; simp only [ByteArray.size_append] at h_; exact h_))
       have H' := zA.mk H; clear H; have p361 : 0 ≤ (x4_1 : Int) := of_decide_eq_true (by first | (with_reducible assumption) | assumption); have q361 : x4_1 < (l0.length : Int) := of_decide_eq_true (by first | (with_reducible assumption) | assumption); obtain ⟨ad361, e361, zSC⟩ := Kd.qC HR0.out x4_1 p361 q361; cases e361; replace zSC := (HB.out.cell (World.block_lt_of_cell? w _ zSC)).trans zSC; replace p361 := eq_true p361; replace q361 := eq_true q361; go_wp2_with (first | ((with_reducible refine zQ (f := 45) rfl ?_); refine vN (some 17) rfl rfl Tryd.func45 (by kernel_rfl) rfl #[.int .i64 (rd l0 x4_1)] rfl (by (try simp only [List.map_toArray, List.map_cons, List.map_nil]); first | done | rfl | (simp only [List.length_drop, List.length_take]; rfl)) ?_; (with_reducible refine (yX.calls k1 (rd l0 x4_1) t362 _ A5.out).mono ?_); rintro e w7 ⟨rfl, hb⟩; refine ⟨_, rfl, ?_⟩; have n0_ := zA.mk (zG (eG HB.out) hb); clear HB; have HB := n0_; clear n0_; (try clear hb); (try clear hb2); (try clear hk); (try clear hi)))
       go_roundg k1
       case measure => have := HK1.out; omega
       case rel => exact ⟨((x3_1 ++ (⟨#[32]⟩ : ByteArray)) ++ t362), (wrap64 (x4_1 + 1)), (by first | rfl | (simp; done) | (simp [*]; done)), (by first | rfl | (simp; done) | (simp [*]; done)), H', ⟨by have := HK1.out; omega⟩, ⟨eG HB.out⟩⟩
      · rw [if_neg c6] at H; exact absurd H (by simp)
     · rw [if_neg c4] at H; exact absurd H (by simp)
    · rw [if_neg c3] at H; exact absurd H (by simp)
   ·
    rw [if_neg c2] at H; have c2b0 : decide (x4_1 < (l0.length : Int)) = false := decide_eq_false c2; clear c2; obtain rfl := Option.some.inj H; go_wp2; go_ret
    exact ⟨by first | rfl | (simp [zI, zH] <;> rfl) | (simp [*, zI, zH] <;> rfl), eG HB.out⟩
end Go.Proofs.YtmdfnambaedllaaDoor.Pr
namespace Go.Proofs.YtmdfnambaedllaaDoor.TX
open Go Go.Lib
/-- What lies between the bytes c. -/
def parts (c : UInt8) : List UInt8 → List (List UInt8)
  | [] => [[]]
  | b :: r => if b = c then [] :: parts c r else match parts c r with
    | [] => [[b]]
    | p :: q => (b :: p) :: q
/-- The first piece, the rest behind its byte c, and whether there is one. -/
def cut1 (c : UInt8) : List UInt8 → List UInt8 × List UInt8 × Bool
  | [] => ([], [], false)
  | b :: r => if b = c then ([], r, true) else (b :: (cut1 c r).1, (cut1 c r).2.1, (cut1 c r).2.2)
theorem zEC (c b : UInt8) (r : List UInt8) : parts c (b :: r) = if b = c then [] :: parts c r else match parts c r with
    | [] => [[b]]
    | p :: q => (b :: p) :: q := rfl
theorem zEJ (c b : UInt8) (r : List UInt8) : cut1 c (b :: r) = if b = c then ([], r, true) else (b :: (cut1 c r).1, (cut1 c r).2.1, (cut1 c r).2.2) := rfl
theorem zGK (c : UInt8) (s : List UInt8) : parts c s ≠ [] := by
  cases s with
  | nil => simp [parts]
  | cons b r =>
    rw [zEC]
    by_cases h : b = c
    · simp [h]
    · rw [if_neg h]; cases parts c r <;> simp
theorem zVX (c : UInt8) : index [] [c] = -1 := rfl
theorem zUI (c b : UInt8) (r : List UInt8) : index (b :: r) [c] = if b = c then 0 else if index r [c] = -1 then -1 else index r [c] + 1 := by
  have e0 : index (b :: r) [c] = if [c].isPrefixOf (b :: r) then 0 else if index r [c] == -1 then -1 else index r [c] + 1 := rfl
  rw [e0]
  by_cases h : b = c
  · subst h; simp [List.isPrefixOf]
  · have h2 : (c == b) = false := by simpa using fun e => h e.symm
    rw [if_neg h]
    simp only [List.isPrefixOf, h2, Bool.false_and, Bool.false_eq_true, if_false]
    by_cases h3 : index r [c] = -1
    · simp [h3]
    · rw [if_neg (by simpa using h3), if_neg h3]
theorem zXO (c : UInt8) : ∀ s : List UInt8, cut s [c] = cut1 c s
  | [] => by unfold cut; rw [zVX]; rfl
  | b :: r => by
    have ih := zXO c r
    have hg := index_ge r [c]
    unfold cut at ih ⊢
    rw [zEJ, zUI]
    by_cases h : b = c
    · rw [if_pos h, if_pos h]; simp
    · rw [if_neg h, if_neg h, ← ih]
      by_cases h3 : index r [c] = -1
      · rw [if_pos h3]; simp [h3]
      · rw [if_neg h3, if_pos (by omega), if_pos (by omega)]
        have e : (index r [c] + 1).toNat = (index r [c]).toNat + 1 := by omega
        rw [e, show (index r [c]).toNat + 1 + [c].length = ((index r [c]).toNat + [c].length) + 1 from by omega]
        rfl
theorem zPK (c : UInt8) : ∀ s : List UInt8, (cut1 c s).2.2 = true → (cut1 c s).2.1.length < s.length
  | [], h => by simp [cut1] at h
  | b :: r, h => by
    rw [zEJ] at h ⊢
    by_cases e : b = c
    · rw [if_pos e]; simp
    · rw [if_neg e] at h ⊢
      have := zPK c r h
      simp only [List.length_cons]; omega
theorem zPJ (c : UInt8) : ∀ s : List UInt8, (cut1 c s).2.2 = true → s = (cut1 c s).1 ++ c :: (cut1 c s).2.1
  | [], h => by simp [cut1] at h
  | b :: r, h => by
    rw [zEJ] at h ⊢
    by_cases e : b = c
    · rw [if_pos e]; simp [e]
    · rw [if_neg e] at h ⊢
      have := zPJ c r h
      simp only [List.cons_append]
      rw [← this]
theorem zTC (c : UInt8) : ∀ s : List UInt8, (cut1 c s).2.2 = false → (cut1 c s).1 = s ∧ (cut1 c s).2.1 = []
  | [], _ => ⟨rfl, rfl⟩
  | b :: r, h => by
    rw [zEJ] at h ⊢
    by_cases e : b = c
    · rw [if_pos e] at h; simp at h
    · rw [if_neg e] at h ⊢
      have := zTC c r h
      exact ⟨by simp [this.1], this.2⟩
theorem zQK (c : UInt8) : ∀ s : List UInt8, parts c s = (cut1 c s).1 :: if (cut1 c s).2.2 = true then parts c (cut1 c s).2.1 else []
  | [] => rfl
  | b :: r => by
    have ih := zQK c r
    rw [zEC, zEJ]
    by_cases e : b = c
    · rw [if_pos e, if_pos e]; simp
    · rw [if_neg e, if_neg e, ih]
theorem zEA (c : UInt8) (n : Nat) (s : List UInt8) (h : index s [c] = -1) : countFrom [c] n s = 0 := by
  cases n with
  | zero => rfl
  | succ n => unfold countFrom; simp [h]
theorem zHT (c : UInt8) : ∀ (n : Nat) (s : List UInt8), s.length < n → splitK [c] 0 (countFrom [c] n s) s = parts c s
  | 0, s, h => by omega
  | n + 1, s, h => by
    have hc := zXO c s
    rw [zQK, ← hc]
    unfold cut
    have hg := index_ge s [c]
    by_cases e : index s [c] = -1
    · rw [zEA c _ s e]
      simp [splitK, e]
    · have e0 : 0 ≤ index s [c] := by omega
      have hr := index_room s [c] e0
      have l1 : ([c] : List UInt8).length = 1 := rfl
      rw [l1] at hr
      have ih := zHT c n (s.drop ((index s [c]).toNat + [c].length)) (by rw [List.length_drop, l1]; omega)
      have e1 : (index s [c] == -1) = false := by simpa using e
      have ec : countFrom [c] (n + 1) s = countFrom [c] n (s.drop ((index s [c]).toNat + [c].length)) + 1 := by
        rw [countFrom, if_neg (by simp [e1])]; omega
      rw [ec]
      unfold splitK
      rw [if_neg (by simp [e1]), if_pos e0, ih]
      simp
theorem count_le (c : UInt8) : ∀ (n : Nat) (s : List UInt8), countFrom [c] n s ≤ s.length
  | 0, s => Nat.zero_le _
  | n + 1, s => by
    by_cases e : index s [c] = -1
    · rw [zEA c _ s e]; omega
    · have e0 : 0 ≤ index s [c] := by have := index_ge s [c]; omega
      have hr := index_room s [c] e0
      have l1 : ([c] : List UInt8).length = 1 := rfl
      have ih := count_le c n (s.drop ((index s [c]).toNat + [c].length))
      rw [List.length_drop] at ih
      have e1 : (index s [c] == -1) = false := by simpa using e
      rw [countFrom, if_neg (by simp [e1])]
      rw [l1] at hr ih ⊢
      omega
theorem zMN (c : UInt8) : ∀ (n : Nat) (s : List UInt8), s.length < n → (splitK [c] 0 (countFrom [c] n s) s).length = countFrom [c] n s + 1
  | 0, s, h => by omega
  | n + 1, s, h => by
    by_cases e : index s [c] = -1
    · rw [zEA c _ s e]; rfl
    · have e0 : 0 ≤ index s [c] := by have := index_ge s [c]; omega
      have hr := index_room s [c] e0
      have l1 : ([c] : List UInt8).length = 1 := rfl
      rw [l1] at hr
      have ih := zMN c n (s.drop ((index s [c]).toNat + [c].length)) (by rw [List.length_drop, l1]; omega)
      have e1 : (index s [c] == -1) = false := by simpa using e
      have ec : countFrom [c] (n + 1) s = countFrom [c] n (s.drop ((index s [c]).toNat + [c].length)) + 1 := by
        rw [countFrom, if_neg (by simp [e1])]; omega
      rw [ec]
      unfold splitK
      rw [if_neg (by simp [e1]), List.length_cons, ih]
/-- strings.Split at one byte. -/
theorem split_eq (c : UInt8) (s : List UInt8) : splitK [c] 0 (count s [c]) s = parts c s := zHT c _ s (by omega)
def zHP (b : UInt8) : Bool := decide (48 ≤ b.toNat) && decide (b.toNat ≤ 57)
def uR : Nat → List UInt8 → Nat
  | a, [] => a
  | a, b :: r => uR (10 * a + (b.toNat - 48)) r
/-- Digits, without a needless 0 ahead. -/
def Canon (s : List UInt8) : Prop := 1 ≤ s.length ∧ ¬ (1 < s.length ∧ s.head? = some 48) ∧ s.all zHP = true
instance (s : List UInt8) : Decidable (Canon s) := by unfold Canon; infer_instance
theorem kX (b : UInt8) : zHP b = true ↔ 48 ≤ b.toNat ∧ b.toNat ≤ 57 := by simp [zHP]
theorem zFD : ∀ (s : List UInt8) (a : Nat) (b : UInt8), uR a (s ++ [b]) = 10 * uR a s + (b.toNat - 48)
  | [], a, b => rfl
  | c :: r, a, b => zFD r _ b
theorem zGJ : ∀ (s : List UInt8) (a : Nat), s.all zHP = true → uR a s + 1 ≤ (a + 1) * 10 ^ s.length
  | [], a, _ => Nat.le_of_eq (by rw [List.length_nil, Nat.pow_zero, Nat.mul_one]; rfl)
  | b :: r, a, h => by
    simp only [List.all_cons, Bool.and_eq_true] at h
    have hb := (kX b).1 h.1
    have ih := zGJ r (10 * a + (b.toNat - 48)) h.2
    refine Nat.le_trans ih ?_
    rw [List.length_cons, Nat.pow_succ]
    generalize 10 ^ r.length = p
    have e : 10 * a + (b.toNat - 48) + 1 ≤ (a + 1) * 10 := by omega
    have := Nat.mul_le_mul_right p e
    rw [Nat.mul_assoc, Nat.mul_comm 10 p] at this
    exact this
theorem zID : ∀ (s : List UInt8) (a : Nat), a * 10 ^ s.length ≤ uR a s
  | [], a => Nat.le_of_eq (by rw [List.length_nil, Nat.pow_zero, Nat.mul_one]; rfl)
  | b :: r, a => by
    refine Nat.le_trans ?_ (zID r (10 * a + (b.toNat - 48)))
    rw [List.length_cons, Nat.pow_succ]
    generalize 10 ^ r.length = p
    have e : a * 10 ≤ 10 * a + (b.toNat - 48) := by omega
    have := Nat.mul_le_mul_right p e
    rw [Nat.mul_assoc, Nat.mul_comm 10 p] at this
    exact this
theorem zNR : ∀ (s : List UInt8) (a : Nat), s.all zHP = true → (a + 1) * 10 ^ s.length ≤ 18446744073709551616 → parseUint10 a s = .ok (uR a s)
  | [], a, _, _ => rfl
  | b :: r, a, h, hl => by
    simp only [List.all_cons, Bool.and_eq_true] at h
    have hb := (kX b).1 h.1
    have e : (10 * a + 10) * 10 ^ r.length ≤ 18446744073709551616 := by
      rw [List.length_cons, Nat.pow_succ, Nat.mul_comm (10 ^ r.length) 10, ← Nat.mul_assoc] at hl
      have : (a + 1) * 10 = 10 * a + 10 := by omega
      rw [this] at hl; exact hl
    have hp : 1 ≤ 10 ^ r.length := Nat.one_le_pow _ _ (by decide)
    have e2 : 10 * a + 10 ≤ 18446744073709551616 := Nat.le_trans (Nat.le_mul_of_pos_right _ hp) e
    unfold parseUint10
    rw [if_pos hb, if_neg (by omega), if_neg (by omega)]
    have ec : a * 10 + (b.toNat - 48) = 10 * a + (b.toNat - 48) := by omega
    rw [ec, zNR r _ h.2 (Nat.le_trans (Nat.mul_le_mul_right _ (by omega)) e)]
    rfl
theorem uV {u : Nat} (h : u < 10) : decDigits u = [UInt8.ofNat (48 + u)] := by rw [decDigits, dif_pos h]
theorem zCQ {u : Nat} (h : ¬ u < 10) : decDigits u = decDigits (u / 10) ++ [UInt8.ofNat (48 + u % 10)] := by rw [decDigits, dif_neg h]
theorem zJK {d : Nat} (h : d < 10) : (UInt8.ofNat (48 + d)).toNat = 48 + d := by
  rw [UInt8.toNat_ofNat']; omega
theorem zUL (u : Nat) : 1 ≤ (decDigits u).length := by
  by_cases h : u < 10
  · rw [uV h]; simp
  · rw [zCQ h]; simp
theorem zUM (u : Nat) : (decDigits u).all zHP = true := by
  induction u using Nat.strongRecOn with
  | _ u ih =>
    by_cases h : u < 10
    · rw [uV h]
      simp only [List.all_cons, List.all_nil, Bool.and_true]
      rw [kX, zJK h]; omega
    · rw [zCQ h, List.all_append, ih (u / 10) (by omega)]
      simp only [List.all_cons, List.all_nil, Bool.and_true, Bool.true_and]
      rw [kX, zJK (by omega)]; omega
theorem zNH (u : Nat) : uR 0 (decDigits u) = u := by
  induction u using Nat.strongRecOn with
  | _ u ih =>
    by_cases h : u < 10
    · rw [uV h]
      show 10 * 0 + ((UInt8.ofNat (48 + u)).toNat - 48) = u
      rw [zJK h]; omega
    · rw [zCQ h, zFD, ih (u / 10) (by omega), zJK (by omega)]; omega
theorem zTB (u : Nat) (h1 : 1 ≤ u) : ∃ b r, decDigits u = b :: r ∧ b ≠ 48 := by
  induction u using Nat.strongRecOn with
  | _ u ih =>
    by_cases h : u < 10
    · refine ⟨_, _, uV h, fun e => ?_⟩
      have := congrArg UInt8.toNat e
      rw [zJK h] at this
      have h48 : (48 : UInt8).toNat = 48 := rfl
      omega
    · obtain ⟨b, r, e, hb⟩ := ih (u / 10) (by omega) (by omega)
      exact ⟨b, _, by rw [zCQ h, e]; rfl, hb⟩
theorem zJY (u : Nat) : Canon (decDigits u) := by
  refine ⟨zUL u, fun h => ?_, zUM u⟩
  by_cases h0 : u < 10
  · rw [uV h0] at h; simp at h
  · obtain ⟨b, r, e, hb⟩ := zTB u (by omega)
    rw [e] at h
    exact hb (by simpa using h.2)
theorem zXU (s : List UInt8) (h : Canon s) (h1 : 1 < s.length) : 10 ^ (s.length - 1) ≤ uR 0 s := by
  cases s with
  | nil => simp at h1
  | cons b r =>
    obtain ⟨_, h2, h3⟩ := h
    simp only [List.all_cons, Bool.and_eq_true] at h3
    have hb := (kX b).1 h3.1
    have hb2 : b ≠ 48 := fun e => h2 ⟨h1, by simp [e]⟩
    have hb3 : b.toNat ≠ 48 := fun e => hb2 (UInt8.toNat_inj.1 (by rw [e]; rfl))
    have := zID r (10 * 0 + (b.toNat - 48))
    refine Nat.le_trans ?_ this
    simp only [List.length_cons, Nat.add_sub_cancel]
    exact Nat.le_mul_of_pos_left _ (by omega)
/-- A numeral is that of its value. -/
theorem zJZ : ∀ (n : Nat) (s : List UInt8), s.length = n → Canon s → decDigits (uR 0 s) = s
  | 0, s, hn, h => by have := h.1; omega
  | n + 1, s, hn, h => by
    have hne : s ≠ [] := fun e => by rw [e] at hn; simp at hn
    obtain ⟨t, b, rfl⟩ : ∃ t b, s = t ++ [b] := ⟨s.dropLast, s.getLast hne, (List.dropLast_concat_getLast hne).symm⟩
    obtain ⟨h1, h2, h3⟩ := h
    rw [List.all_append] at h3
    simp only [List.all_cons, List.all_nil, Bool.and_true, Bool.and_eq_true] at h3
    have hb := (kX b).1 h3.2
    rw [zFD]
    have eb : UInt8.ofNat (48 + (b.toNat - 48)) = b := UInt8.toNat_inj.1 (by rw [zJK (by omega)]; omega)
    cases t with
    | nil =>
      show decDigits (10 * 0 + (b.toNat - 48)) = [b]
      rw [uV (by omega), show 48 + (10 * 0 + (b.toNat - 48)) = 48 + (b.toNat - 48) from by omega, eb]
    | cons c t =>
      have hc : Canon (c :: t) := ⟨by simp, fun e => h2 ⟨by simp, by simpa using e.2⟩, h3.1⟩
      have ih := zJZ n (c :: t) (by rw [List.length_append] at hn; simpa using hn) hc
      have hv : 1 ≤ uR 0 (c :: t) := by
        have h3' := h3.1
        simp only [List.all_cons, Bool.and_eq_true] at h3'
        have hc1 := (kX c).1 h3'.1
        have hc2 : c ≠ 48 := fun e => h2 ⟨by simp, by simp [e]⟩
        have hc3 : c.toNat ≠ 48 := fun e => hc2 (UInt8.toNat_inj.1 (by rw [e]; rfl))
        have := zID t (10 * 0 + (c.toNat - 48))
        have hp : 1 ≤ 10 ^ t.length := Nat.one_le_pow _ _ (by decide)
        refine Nat.le_trans ?_ this
        exact Nat.le_trans hp (Nat.le_mul_of_pos_left _ (by omega))
      rw [zCQ (by omega), show (10 * uR 0 (c :: t) + (b.toNat - 48)) / 10 = uR 0 (c :: t) from by omega, ih,
        show (10 * uR 0 (c :: t) + (b.toNat - 48)) % 10 = b.toNat - 48 from by omega, eb]
theorem zPN {s : List UInt8} (h : Canon s) (hl : s.length ≤ 18) : atoiAll s = .ok ((uR 0 s : Nat) : Int) := by
  obtain ⟨h1, h2, h3⟩ := h
  have hv := zGJ s 0 h3
  have hp : (0 + 1) * 10 ^ s.length ≤ 10 ^ 18 := by
    rw [Nat.zero_add, Nat.one_mul]; exact Nat.pow_le_pow_right (by decide) hl
  have hq := zNR s 0 h3 (by omega)
  cases s with
  | nil => simp at h1
  | cons c r =>
    have h3' := h3
    simp only [List.all_cons, Bool.and_eq_true] at h3'
    have hc := (kX c).1 h3'.1
    unfold atoiAll
    simp only []
    rw [if_neg (by omega : ¬ (c.toNat = 43 ∨ c.toNat = 45))]
    have e : parseMag (c :: r) = .ok (uR 0 (c :: r)) := by unfold parseMag; rw [if_neg (by simp)]; exact hq
    rw [e]
    simp only []
    rw [if_neg (by omega), if_neg (by omega), if_neg (by omega)]
/-- A number of at most so many digits, as a word has it. -/
def numP (most : Nat) (s : List UInt8) : Option Nat := if Canon s ∧ s.length ≤ most then some (uR 0 s) else none
theorem zRU {most : Nat} {s : List UInt8} {v : Nat} (h : numP most s = some v) : v < 10 ^ most := by
  unfold numP at h
  by_cases c : Canon s ∧ s.length ≤ most
  · rw [if_pos c] at h
    have := zGJ s 0 c.1.2.2
    have hp : (0 + 1) * 10 ^ s.length ≤ 10 ^ most := by
      rw [Nat.zero_add, Nat.one_mul]; exact Nat.pow_le_pow_right (by decide) c.2
    rw [← Option.some.inj h]; omega
  · rw [if_neg c] at h; cases h
theorem zKZ {most : Nat} {u : Nat} (h : (decDigits u).length ≤ most) : numP most (decDigits u) = some u := by
  unfold numP
  rw [if_pos ⟨zJY u, h⟩, zNH]
theorem zAZ {u : Nat} : ∀ {n : Nat}, u < 10 ^ n → 1 ≤ n → (decDigits u).length ≤ n := by
  intro n h hn
  have hc := zJY u
  rcases Nat.lt_or_ge n (decDigits u).length with hlt | hge
  · have := zXU _ hc (by omega)
    rw [zNH] at this
    have h2 : 10 ^ n ≤ 10 ^ ((decDigits u).length - 1) := Nat.pow_le_pow_right (by decide) (by omega)
    omega
  · exact hge
theorem zFG {most : Nat} {s : List UInt8} {v : Nat} (h : numP most s = some v) : decDigits v = s ∧ Canon s ∧ s.length ≤ most := by
  unfold numP at h
  by_cases c : Canon s ∧ s.length ≤ most
  · rw [if_pos c] at h
    rw [← Option.some.inj h]
    exact ⟨zJZ _ s rfl c.1, c.1, c.2⟩
  · rw [if_neg c] at h; cases h
end Go.Proofs.YtmdfnambaedllaaDoor.TX
namespace Go.Proofs.YtmdfnambaedllaaDoor.X
open Go Go.RowKit Go.Proofs.YtmdfnambaedllaaDoor.TX Go.Proofs.YtmdfnambaedllaaDoorW.PrintWords Go.Proofs.YtmdfnambaedllaaDoorW.PrintLast Go.Proofs.YtmdfnambaedllaaDoorW.PrintMore
theorem zTF (w : World) (n : Nat) : Below w.heap.size w (w.drewN n) := ⟨rfl, rfl, rfl, Nat.le_refl _, fun _ _ => rfl⟩
/-- The first piece, the rest, and whether the byte stands in it. -/
def strings_Cut.f (a0 a1 : ByteArray) : Option (ByteArray × ByteArray × Bool) := if a0.size < 4294967281 then some (⟨(Lib.cut a0.data.toList a1.data.toList).1.toArray⟩, ⟨(Lib.cut a0.data.toList a1.data.toList).2.1.toArray⟩, (Lib.cut a0.data.toList a1.data.toList).2.2) else none
theorem strings_Cut.calls (a0 a1 r1 r2 : ByteArray) (r3 : Bool) (w : World) (hG : GI w) (h : strings_Cut.f a0 a1 = some (r1, r2, r3)) :
    Calls Tryd.prog 46 #[.string a0, .string a1] w fun e w' => e = .returned (.tuple #[.string r1, .string r2, .bool r3]) ∧ Below w.heap.size w w' := by
  unfold strings_Cut.f at h
  by_cases hs : a0.size < 4294967281
  · rw [if_pos hs] at h
    obtain ⟨m, hm⟩ := hG.max
    simp only [Option.some.injEq, Prod.mk.injEq] at h
    obtain ⟨rfl, rfl, rfl⟩ := h
    refine (Tryd.strings_Cut a0 a1 m w hs hm).mono ?_
    rintro e w' ⟨rfl, n, rfl⟩
    exact ⟨rfl, zTF w n⟩
  · rw [if_neg hs] at h; cases h
/-- All pieces. -/
def strings_Split.f (a0 a1 : ByteArray) : Option (List ByteArray) := if a0.size < 4294967281 ∧ a1.size = 1 then some (Lib.splitB a1 0 (Lib.countB a0 a1) a0) else none
theorem one_byte {b : ByteArray} (h : b.size = 1) : ∃ c, b = ⟨#[c]⟩ := by
  obtain ⟨⟨l⟩⟩ := b
  match l with
  | [] => cases h
  | [c] => exact ⟨c, rfl⟩
  | _ :: _ :: _ => simp [ByteArray.size] at h
theorem zVF (s : ByteArray) (c : UInt8) : (Lib.splitB ⟨#[c]⟩ 0 (Lib.countB s ⟨#[c]⟩) s).length = Lib.countB s ⟨#[c]⟩ + 1 := by
  have e := congrArg List.length (Lib.splitB_data ⟨#[c]⟩ 0 (Lib.countB s ⟨#[c]⟩) s)
  rw [List.length_map] at e
  rw [e]
  exact zMN c _ s.data.toList (by omega)
theorem strings_Split.calls (a0 a1 : ByteArray) (r : List ByteArray) (w : World) (hG : GI w) (h : strings_Split.f a0 a1 = some r) :
    Calls Tryd.prog 48 #[.string a0, .string a1] w fun e w' => ∃ v0_ : Value, e = .returned (v0_) ∧ Kd.R Kd.string 9 w' w.heap.size (fun _ => True) v0_ r ∧ Below w.heap.size w w' := by
  unfold strings_Split.f at h
  by_cases hs : a0.size < 4294967281 ∧ a1.size = 1
  · rw [if_pos hs] at h
    obtain ⟨m, hm⟩ := hG.max
    obtain rfl := Option.some.inj h
    obtain ⟨hs, h1⟩ := hs
    obtain ⟨c, rfl⟩ := one_byte h1
    have hl := zVF a0 c
    have hb : Lib.countB a0 ⟨#[c]⟩ ≤ a0.size := by
      have := count_le c (a0.data.toList.length + 1) a0.data.toList
      have e : a0.data.toList.length = a0.size := Array.length_toList
      have e2 : Lib.countB a0 ⟨#[c]⟩ = Lib.countFrom [c] (a0.data.toList.length + 1) a0.data.toList := rfl
      omega
    refine (Tryd.strings_Split a0 ⟨#[c]⟩ m w hs hm (by omega)).mono ?_
    rintro e w' ⟨rfl, rfl⟩
    refine ⟨_, rfl, ?_, jR (Below.refl _ _) _⟩
    rw [← hl]
    have hm2 : (Lib.splitB ⟨#[c]⟩ 0 (Lib.countB a0 ⟨#[c]⟩) a0).length ≤ maxLen := by rw [hl]; simp only [maxLen]; omega
    clear hl
    generalize Lib.splitB ⟨#[c]⟩ 0 (Lib.countB a0 ⟨#[c]⟩) a0 = ps at hm2 ⊢
    refine Kd.R_of_own ⟨by simp [encs], .inr ⟨w.heap.size, _, (ps.map Value.string).toArray, rfl, Nat.le_refl _, ?_, Nat.le_refl _, hm2, by simp, by rw [Nat.mul_one]; exact List.take_of_length_le (by simp)⟩⟩ (fun _ _ => trivial)
    exact Array.getElem?_push_size
  · rw [if_neg hs] at h; cases h
/-- The number of a numeral, and whether there is an error. -/
def strconv_Atoi.f (a0 : ByteArray) : Option (Int × Option Int) := if a0.size ≤ 281474976710656 then (match Lib.atoiAll a0.data.toList with
  | .ok v => some (v, none)
  | .range => some (Lib.atoiSat a0.data.toList, some 0)
  | _ => some (0, some 0)) else none
theorem strconv_Atoi.oks (a0 : ByteArray) (r1 : Int) (w : World) (hG : GI w) (h : strconv_Atoi.f a0 = some (r1, none)) :
    Calls Tryd.prog 75 #[.string a0] w fun e w' => e = .returned (.tuple #[.int .i64 r1, .nilIface]) ∧ Below w.heap.size w w' := by
  unfold strconv_Atoi.f at h
  by_cases hs : a0.size ≤ 281474976710656
  · rw [if_pos hs] at h
    cases ha : Lib.atoiAll a0.data.toList with
    | ok v =>
      rw [ha] at h
      simp only [Option.some.injEq, Prod.mk.injEq, and_true] at h
      subst h
      refine (Tryd.strconv_Atoi_ok a0 (by omega) v ha w).mono ?_
      rintro e w' ⟨rfl, hw⟩
      refine ⟨rfl, ?_⟩
      rcases hw with rfl | ⟨t, rfl⟩
      · exact Below.refl _ _
      · exact Joins.below_bytesWorld _ w _ t (Nat.le_refl _)
    | range => rw [ha] at h; simp at h
    | _ => rw [ha] at h; simp at h
  · rw [if_neg hs] at h; cases h
theorem strconv_Atoi.fails (a0 : ByteArray) (r1 : Int) (q : Int) (w : World) (hG : GI w) (h : strconv_Atoi.f a0 = some (r1, some q)) :
    Calls Tryd.prog 75 #[.string a0] w fun e w' => ∃ b : Nat, e = .returned (.tuple #[.int .i64 r1, .iface 114 (.pointer (some ⟨b, 0, none⟩))]) ∧ Below w.heap.size w w' := by
  unfold strconv_Atoi.f at h
  by_cases hs : a0.size ≤ 281474976710656
  · rw [if_pos hs] at h
    obtain ⟨_, ⟨tp, p, h1⟩, ⟨tp2, p2, h2⟩, _⟩ := hG
    cases ha : Lib.atoiAll a0.data.toList with
    | ok v => rw [ha] at h; simp at h
    | range =>
      rw [ha] at h
      simp only [Option.some.injEq, Prod.mk.injEq] at h
      obtain ⟨rfl, _⟩ := h
      refine (Tryd.strconv_Atoi_range_var a0 hs ha tp2 p2 w h2).mono ?_
      rintro e w' ⟨N, rfl, _, _, hb⟩
      exact ⟨N, rfl, hb⟩
    | _ =>
      rw [ha] at h
      simp only [Option.some.injEq, Prod.mk.injEq] at h
      obtain ⟨rfl, _⟩ := h
      refine (Tryd.strconv_Atoi_syntax_var a0 hs ha tp p w h1).mono ?_
      rintro e w' ⟨N, rfl, _, _, hb⟩
      exact ⟨N, rfl, hb⟩
  · rw [if_neg hs] at h; cases h
end Go.Proofs.YtmdfnambaedllaaDoor.X
namespace Go.Proofs.YtmdfnambaedllaaDoor.Pr
open Go.RowKit Go.Proofs.YtmdfnambaedllaaDoorW.PrintWords Go.Proofs.YtmdfnambaedllaaDoorW.PrintLast Go.Proofs.YtmdfnambaedllaaDoorW.PrintMore Go.Proofs.YtmdfnambaedllaaDoor.X
attribute [local go_sem] kJ kH zAS zAR uF uE kI kG   -- for this text's walks alone
set_option linter.unusedVariables false
set_option linter.unusedSimpArgs false
def wP.l0 : Nat → ByteArray → Int → List Int → List Int → List (List Int) → Option (ByteArray × Int)
 | 0, _, _, _, _, _ => none
 | k + 1, x4, x5, zRG, x364001, zRF => if x5 < (zRG.length : Int) then (if x4.size + 5 ≤ 9223372036854775807 then (if 0 ≤ x5 then ((yX.f k (rd zRG x5)).bind fun t367 => (if (x4 ++ (⟨#[104, 101, 97, 116, 32]⟩ : ByteArray)).size + t367.size ≤ 9223372036854775807 then (if x5 < (zRF.length : Int) then ((vW.f k (zW zRF x5)).bind fun t369 => (if ((x4 ++ (⟨#[104, 101, 97, 116, 32]⟩ : ByteArray)) ++ t367).size + t369.size ≤ 9223372036854775807 then (if (((x4 ++ (⟨#[104, 101, 97, 116, 32]⟩ : ByteArray)) ++ t367) ++ t369).size + 1 ≤ 9223372036854775807 then (wP.l0 k ((((x4 ++ (⟨#[104, 101, 97, 116, 32]⟩ : ByteArray)) ++ t367) ++ t369) ++ (⟨#[10]⟩ : ByteArray)) (wrap64 (x5 + 1)) zRG x364001 zRF) else (none)) else (none))) else (none)) else (none))) else (none)) else (none)) else (some (x4, 0))
def wP.f (k : Nat) (l0_0 : List Int) (l0_1 : List Int) (l0_2 : List (List Int)) : Option (ByteArray × Int) := (zF.f k l0_0 l0_1 l0_2).bind fun t364 => (if t364 = 0 then ((vW.f k l0_1).bind fun t365 => (if 8 + t365.size ≤ 9223372036854775807 then (if ((⟨#[97, 112, 112, 97, 114, 101, 110, 116]⟩ : ByteArray) ++ t365).size + 1 ≤ 9223372036854775807 then (wP.l0 k (((⟨#[97, 112, 112, 97, 114, 101, 110, 116]⟩ : ByteArray) ++ t365) ++ (⟨#[10]⟩ : ByteArray)) 0 l0_0 l0_1 l0_2) else (none)) else (none))) else (some ((⟨#[]⟩ : ByteArray), 1)))
def wP.T7 : Bool × List (List Nat × List Nat) := (true, [([], []), ([0], [0]), ([], []), ([2], [2]), ([], []), ([3, 4], [3, 4]), ([5], [5]), ([6], [6]), ([1, 7], [1, 7]), ([], []), ([9], [9]), ([], []), ([10, 11], [10, 11]), ([12], [12]), ([13, 7], [13]), ([8, 14], [8, 14]), ([15], [15]), ([16, 14, 0, 1, 2, 3, 4, 5, 6, 7, 8, 9, 10, 11, 12, 13, 14, 15, 16], [0, 16])])
def wP.B7 : List Nat := [0, 1, 0, 4, 0, 28, 60, 124, 255, 0, 512, 0, 3584, 7680, 16124, 32767, 65535, 131071]
theorem wP.tab7 : rtab .any (opsOf Tryd.f21 7) = wP.T7 := by kernel_rfl
theorem wP.bits7 : zCI wP.T7.2 wP.B7 = true := by kernel_rfl
set_option maxHeartbeats 8000000 in
set_option maxRecDepth 100000 in
theorem wP.calls (k : Nat) (A0_0 : Option Addr) (c0_0 : Nat) (l0_0 : List Int) (A0_1 : Option Addr) (c0_1 : Nat) (l0_1 : List Int) (A0_2 : Option Addr) (c0_2 : Nat) (l0_2 : List (List Int)) (r1 : ByteArray) (r2 : Int) (w : World) (hr0_0 : Kd.C (Kd.int .i64) w A0_0 l0_0.length l0_0) (zAW : l0_0.length ≤ c0_0) (hr0_1 : Kd.C (Kd.int .i64) w A0_1 l0_1.length l0_1) (zAV : l0_1.length ≤ c0_1) (hr0_2 : Kd.C (Kd.slice 3 (Kd.int .i64)) w A0_2 l0_2.length l0_2) (zAU : l0_2.length ≤ c0_2) (h : wP.f k l0_0 l0_1 l0_2 = some (r1, r2)) :
  Calls Tryd.prog 21 #[.agg #[.slice A0_0 l0_0.length c0_0, .slice A0_1 l0_1.length c0_1, .slice A0_2 l0_2.length c0_2]] w fun e w' => e = .returned (.tuple #[.string r1, .int .i64 r2]) ∧ Below w.heap.size w w' := by
 have hu25 := Tryd.underlying25; have HR0_0 := zA.mk hr0_0; have HC0_0 := zA.mk zAW; clear hr0_0 zAW; have HR0_1 := zA.mk hr0_1; have HC0_1 := zA.mk zAV; clear hr0_1 zAV; have HR0_2 := zA.mk hr0_2; have HC0_2 := zA.mk zAU; clear hr0_2 zAU; have HB := zA.mk (Below.refl w.heap.size w); have H : ((zF.f k l0_0 l0_1 l0_2).bind fun t364 => (if t364 = 0 then ((vW.f k l0_1).bind fun t365 => (if 8 + t365.size ≤ 9223372036854775807 then (if ((⟨#[97, 112, 112, 97, 114, 101, 110, 116]⟩ : ByteArray) ++ t365).size + 1 ≤ 9223372036854775807 then (wP.l0 k (((⟨#[97, 112, 112, 97, 114, 101, 110, 116]⟩ : ByteArray) ++ t365) ++ (⟨#[10]⟩ : ByteArray)) 0 l0_0 l0_1 l0_2) else (none)) else (none))) else (some ((⟨#[]⟩ : ByteArray), 1)))) = some (r1, r2) := h; clear h; replace H := Option.bind_eq_some_iff.mp H; obtain ⟨t364, A20, H⟩ := H; replace H : (if t364 = 0 then ((vW.f k l0_1).bind fun t365 => (if 8 + t365.size ≤ 9223372036854775807 then (if ((⟨#[97, 112, 112, 97, 114, 101, 110, 116]⟩ : ByteArray) ++ t365).size + 1 ≤ 9223372036854775807 then (wP.l0 k (((⟨#[97, 112, 112, 97, 114, 101, 110, 116]⟩ : ByteArray) ++ t365) ++ (⟨#[10]⟩ : ByteArray)) 0 l0_0 l0_1 l0_2) else (none)) else (none))) else (some ((⟨#[]⟩ : ByteArray), 1))) = some (r1, r2) := H; have A2 := zA.mk A20; clear A20; by_cases c3 : t364 = 0
 ·
  rw [if_pos c3] at H; have c3b0 : (t364 == 0) = true := beq_iff_eq.mpr c3; have c3b1 : (t364 != 0) = false := bne_eq_false_iff_eq.mpr c3; clear c3; replace H := Option.bind_eq_some_iff.mp H; obtain ⟨t365, A40, H⟩ := H; replace H : (if 8 + t365.size ≤ 9223372036854775807 then (if ((⟨#[97, 112, 112, 97, 114, 101, 110, 116]⟩ : ByteArray) ++ t365).size + 1 ≤ 9223372036854775807 then (wP.l0 k (((⟨#[97, 112, 112, 97, 114, 101, 110, 116]⟩ : ByteArray) ++ t365) ++ (⟨#[10]⟩ : ByteArray)) 0 l0_0 l0_1 l0_2) else (none)) else (none)) = some (r1, r2) := H; have A4 := zA.mk A40; clear A40; by_cases c5 : 8 + t365.size ≤ 9223372036854775807
  ·
   rw [if_pos c5] at H; have c5b0 := eq_true c5; have c5b1 : decide (8 + t365.size ≤ 9223372036854775807) = true := decide_eq_true c5; try have c5b2 : (9223372036854775807 < 8 + t365.size) = False := eq_false (Nat.not_lt.2 c5)
   by_cases c6 : ((⟨#[97, 112, 112, 97, 114, 101, 110, 116]⟩ : ByteArray) ++ t365).size + 1 ≤ 9223372036854775807
   ·
    rw [if_pos c6] at H; have c6b0 := eq_true c6; have c6b1 : decide (((⟨#[97, 112, 112, 97, 114, 101, 110, 116]⟩ : ByteArray) ++ t365).size + 1 ≤ 9223372036854775807) = true := decide_eq_true c6; try have c6b2 : (9223372036854775807 < ((⟨#[97, 112, 112, 97, 114, 101, 110, 116]⟩ : ByteArray) ++ t365).size + 1) = False := eq_false (Nat.not_lt.2 c6)
    try have c6b3 : (9223372036854775807 < 8 + t365.size + 1) = False := eq_false (Nat.not_lt.2 (by have h_ := c6; simp only [ByteArray.size_append] at h_; exact h_))
    have H' := zA.mk H; clear H; go_enter Tryd.func21, Tryd.ntmps21
    go_wp2_with (first | ((with_reducible refine vH (N := 1) rfl ?_); refine vD ?hg (N := 1) ?hd (cs := #[.slice A0_0 l0_0.length c0_0, .slice A0_1 l0_1.length c0_1, .slice A0_2 l0_2.length c0_2]) (t := 25) ?hr ?_; (case hd => rfl); (case hg => rfl); (case hr => first | (go_simp; done) | (go_simp; rfl)); intro zCP hg w7 hbox hb; have n0_ := zA.mk (zG (eG HB.out) hb); have n1_ := zA.mk (hbox); have n2_ := zA.mk ((by rw [hg]; exact (zD (eG HB.out)) : w.heap.size ≤ zCP)); have n3_ := zA.mk ((by rw [hg]; exact (zD (eG HB.out)) : w.heap.size ≤ zCP)); clear HB; have HB := n0_; have jA := n1_; have GW363 := n2_; have GE363 := n3_; have ig363_ := geI GE363; clear n0_ n1_ n2_ n3_; clear hb hbox hg; have zHS : w7.cell? ⟨zCP, 0, none⟩ = some (.slice A0_0 l0_0.length c0_0) := (zC jA.out 0).trans rfl; have zNB : w7.cell? ⟨zCP, 1, none⟩ = some (.slice A0_1 l0_1.length c0_1) := (zC jA.out 1).trans rfl; have zNA : w7.cell? ⟨zCP, 2, none⟩ = some (.slice A0_2 l0_2.length c0_2) := (zC jA.out 2).trans rfl; have zHR := zB jA.out 0; have zMV := zB jA.out 1; have zMU := zB jA.out 2) | ((with_reducible refine zQ (f := 19) rfl ?_); refine vN (some 7) rfl rfl Tryd.func19 (by kernel_rfl) rfl #[.agg #[.slice A0_0 l0_0.length c0_0, .slice A0_1 l0_1.length c0_1, .slice A0_2 l0_2.length c0_2]] rfl (by (try simp only [List.map_toArray, List.map_cons, List.map_nil]); first | done | rfl | (simp only [List.length_drop, List.length_take]; rfl)) ?_; (with_reducible refine (zF.calls k _ _ l0_0 _ _ l0_1 _ _ l0_2 t364 _ ?side1 ?side2 ?side3 ?side4 ?side5 ?side6 A2.out).mono ?_); (case side1 => repeat (first | exact (Kd.zX HR0_0.out HB.out) | (with_reducible refine Kd.zP ?_ _) | (with_reducible refine Kd.zO ?_ _) | (with_reducible refine Kd.zY ?_))); (case side2 => exact HC0_0.out); (case side3 => repeat (first | exact (Kd.zX HR0_1.out HB.out) | (with_reducible refine Kd.zP ?_ _) | (with_reducible refine Kd.zO ?_ _) | (with_reducible refine Kd.zY ?_))); (case side4 => exact HC0_1.out); (case side5 => repeat (first | exact (Kd.zX HR0_2.out HB.out) | (with_reducible refine Kd.zP ?_ _) | (with_reducible refine Kd.zO ?_ _) | (with_reducible refine Kd.zY ?_))); (case side6 => exact HC0_2.out); rintro e w9 ⟨rfl, hb⟩; refine ⟨_, rfl, ?_⟩; have n0_ := zA.mk (zM (bG jA.out) hb); have n1_ := zA.mk (zG (eG HB.out) hb); clear jA; clear HB; have jA := n0_; have HB := n1_; clear n0_ n1_; (try clear hb); (try clear hb2); (try clear hk); (try clear hi); have zBO : w9.cell? ⟨zCP, 0, none⟩ = some (.slice A0_0 l0_0.length c0_0) := (zC jA.out 0).trans rfl; have zBN : w9.cell? ⟨zCP, 1, none⟩ = some (.slice A0_1 l0_1.length c0_1) := (zC jA.out 1).trans rfl; have zBM : w9.cell? ⟨zCP, 2, none⟩ = some (.slice A0_2 l0_2.length c0_2) := (zC jA.out 2).trans rfl; have zBI := zB jA.out 0; have zBH := zB jA.out 1; have zBG := zB jA.out 2) | ((with_reducible refine zQ (f := 44) rfl ?_); refine vN (some 11) rfl rfl Tryd.func44 (by kernel_rfl) rfl #[.slice A0_1 l0_1.length c0_1] rfl (by (try simp only [List.map_toArray, List.map_cons, List.map_nil]); first | done | rfl | (simp only [List.length_drop, List.length_take]; rfl)) ?_; (with_reducible refine (vW.calls k _ _ l0_1 t365 _ ?side1 ?side2 A4.out).mono ?_); (case side1 => repeat (first | exact (Kd.zX HR0_1.out HB.out) | (with_reducible refine Kd.zP ?_ _) | (with_reducible refine Kd.zO ?_ _) | (with_reducible refine Kd.zY ?_))); (case side2 => exact HC0_1.out); rintro e w11 ⟨rfl, hb⟩; refine ⟨_, rfl, ?_⟩; have n0_ := zA.mk (zM (bG jA.out) hb); have n1_ := zA.mk (zG (eG HB.out) hb); clear jA; clear HB; have jA := n0_; have HB := n1_; clear n0_ n1_; (try clear hb); (try clear hb2); (try clear hk); (try clear hi)))
    go_loopg [4, 5] k (fun kq v4 v5 w' => ∃ (x4_1 : ByteArray) (x5_1 : Int), v4 = .string x4_1 ∧ v5 = .int .i64 x5_1 ∧ zA (wP.l0 kq x4_1 x5_1 l0_0 l0_1 l0_2 = some (r1, r2)) ∧ zA (kq ≤ k) ∧ zA (w'.heap[zCP]? = some (.cells #[(.slice A0_0 l0_0.length c0_0), (.slice A0_1 l0_1.length c0_1), (.slice A0_2 l0_2.length c0_2)] 25 (0, 0))) ∧ zA (Below w.heap.size w w'))
    case atStart => exact ⟨(((⟨#[97, 112, 112, 97, 114, 101, 110, 116]⟩ : ByteArray) ++ t365) ++ (⟨#[10]⟩ : ByteArray)), (0), (by first | rfl | (simp; done) | (simp [*]; done)), (by first | rfl | (simp; done) | (simp [*]; done)), H', ⟨Nat.le_refl _⟩, ⟨by (with_reducible repeat first | apply bN | apply bD | apply bA); exact jA.out⟩, ⟨eG HB.out⟩⟩
    case round =>
     clear H'; repeat first | clear c1 | clear c2 | clear p2 | clear c3 | clear c3b0 | clear c3b1 | clear c4 | clear c5 | clear c5b0 | clear c5b1 | clear c5b2 | clear c6 | clear c6b0 | clear c6b1 | clear c6b2 | clear zBO | clear zBN | clear zBM | clear zHS | clear zNB | clear zNA | clear zBI | clear zBH | clear zBG | clear zHR | clear zMV | clear zMU
     obtain ⟨x4_1, x5_1, rfl, rfl, HA, HK1, jA, HB⟩ := hrel
     cases gk with
     | zero => exact absurd HA.out (by simp [wP.l0])
     | succ k1 =>
      have H := HA.out; clear HA; simp only [wP.l0] at H; by_cases c12 : x5_1 < (l0_0.length : Int)
      ·
       rw [if_pos c12] at H; have c12b0 : decide (x5_1 < (l0_0.length : Int)) = true := decide_eq_true c12; clear c12; by_cases c13 : x4_1.size + 5 ≤ 9223372036854775807
       ·
        rw [if_pos c13] at H; have c13b0 := eq_true c13; have c13b1 : decide (x4_1.size + 5 ≤ 9223372036854775807) = true := decide_eq_true c13; try have c13b2 : (9223372036854775807 < x4_1.size + 5) = False := eq_false (Nat.not_lt.2 c13)
        by_cases c14 : 0 ≤ x5_1
        ·
         rw [if_pos c14] at H; have c14b0 : decide (0 ≤ x5_1) = true := decide_eq_true c14; clear c14; replace H := Option.bind_eq_some_iff.mp H; obtain ⟨t367, A150, H⟩ := H; replace H : (if (x4_1 ++ (⟨#[104, 101, 97, 116, 32]⟩ : ByteArray)).size + t367.size ≤ 9223372036854775807 then (if x5_1 < (l0_2.length : Int) then ((vW.f k1 (zW l0_2 x5_1)).bind fun t369 => (if ((x4_1 ++ (⟨#[104, 101, 97, 116, 32]⟩ : ByteArray)) ++ t367).size + t369.size ≤ 9223372036854775807 then (if (((x4_1 ++ (⟨#[104, 101, 97, 116, 32]⟩ : ByteArray)) ++ t367) ++ t369).size + 1 ≤ 9223372036854775807 then (wP.l0 k1 ((((x4_1 ++ (⟨#[104, 101, 97, 116, 32]⟩ : ByteArray)) ++ t367) ++ t369) ++ (⟨#[10]⟩ : ByteArray)) (wrap64 (x5_1 + 1)) l0_0 l0_1 l0_2) else (none)) else (none))) else (none)) else (none)) = some (r1, r2) := H; have A15 := zA.mk A150; clear A150; by_cases c16 : (x4_1 ++ (⟨#[104, 101, 97, 116, 32]⟩ : ByteArray)).size + t367.size ≤ 9223372036854775807
         ·
          rw [if_pos c16] at H; have c16b0 := eq_true c16; have c16b1 : decide ((x4_1 ++ (⟨#[104, 101, 97, 116, 32]⟩ : ByteArray)).size + t367.size ≤ 9223372036854775807) = true := decide_eq_true c16; try have c16b2 : (9223372036854775807 < (x4_1 ++ (⟨#[104, 101, 97, 116, 32]⟩ : ByteArray)).size + t367.size) = False := eq_false (Nat.not_lt.2 c16)
          try have c16b3 : (9223372036854775807 < x4_1.size + 5 + t367.size) = False := eq_false (Nat.not_lt.2 (by have h_ := c16; simp only [ByteArray.size_append] at h_; exact h_))
          by_cases c17 : x5_1 < (l0_2.length : Int)
          ·
           rw [if_pos c17] at H; have c17b0 : decide (x5_1 < (l0_2.length : Int)) = true := decide_eq_true c17; clear c17; replace H := Option.bind_eq_some_iff.mp H; obtain ⟨t369, A180, H⟩ := H; replace H : (if ((x4_1 ++ (⟨#[104, 101, 97, 116, 32]⟩ : ByteArray)) ++ t367).size + t369.size ≤ 9223372036854775807 then (if (((x4_1 ++ (⟨#[104, 101, 97, 116, 32]⟩ : ByteArray)) ++ t367) ++ t369).size + 1 ≤ 9223372036854775807 then (wP.l0 k1 ((((x4_1 ++ (⟨#[104, 101, 97, 116, 32]⟩ : ByteArray)) ++ t367) ++ t369) ++ (⟨#[10]⟩ : ByteArray)) (wrap64 (x5_1 + 1)) l0_0 l0_1 l0_2) else (none)) else (none)) = some (r1, r2) := H; have A18 := zA.mk A180; clear A180; by_cases c19 : ((x4_1 ++ (⟨#[104, 101, 97, 116, 32]⟩ : ByteArray)) ++ t367).size + t369.size ≤ 9223372036854775807
           ·
            rw [if_pos c19] at H; have c19b0 := eq_true c19; have c19b1 : decide (((x4_1 ++ (⟨#[104, 101, 97, 116, 32]⟩ : ByteArray)) ++ t367).size + t369.size ≤ 9223372036854775807) = true := decide_eq_true c19; try have c19b2 : (9223372036854775807 < ((x4_1 ++ (⟨#[104, 101, 97, 116, 32]⟩ : ByteArray)) ++ t367).size + t369.size) = False := eq_false (Nat.not_lt.2 c19)
            try have c19b3 : (9223372036854775807 < x4_1.size + 5 + t367.size + t369.size) = False := eq_false (Nat.not_lt.2 (by have h_ := c19; simp only [ByteArray.size_append] at h_; exact h_))
            by_cases c20 : (((x4_1 ++ (⟨#[104, 101, 97, 116, 32]⟩ : ByteArray)) ++ t367) ++ t369).size + 1 ≤ 9223372036854775807
            ·
             rw [if_pos c20] at H; have c20b0 := eq_true c20; have c20b1 : decide ((((x4_1 ++ (⟨#[104, 101, 97, 116, 32]⟩ : ByteArray)) ++ t367) ++ t369).size + 1 ≤ 9223372036854775807) = true := decide_eq_true c20; try have c20b2 : (9223372036854775807 < (((x4_1 ++ (⟨#[104, 101, 97, 116, 32]⟩ : ByteArray)) ++ t367) ++ t369).size + 1) = False := eq_false (Nat.not_lt.2 c20)
             try have c20b3 : (9223372036854775807 < x4_1.size + 5 + t367.size + t369.size + 1) = False := eq_false (Nat.not_lt.2 (by have h_ := c20; simp only [ByteArray.size_append] at h_; exact h_))
             have H' := zA.mk H; clear H; have zJC : wr.cell? ⟨zCP, 0, none⟩ = some (.slice A0_0 l0_0.length c0_0) := (zC jA.out 0).trans rfl; have zJB : wr.cell? ⟨zCP, 1, none⟩ = some (.slice A0_1 l0_1.length c0_1) := (zC jA.out 1).trans rfl; have zJA : wr.cell? ⟨zCP, 2, none⟩ = some (.slice A0_2 l0_2.length c0_2) := (zC jA.out 2).trans rfl; have zIP := zB jA.out 0; have zIO := zB jA.out 1; have zIN := zB jA.out 2; try go_wp2
             have n0_ := zA.mk (zBW jA.out); have n1_ := zA.mk (kC HB.out); clear jA; clear HB; have jA := n0_; have HB := n1_; clear n0_ n1_; have p366 : 0 ≤ (x5_1 : Int) := of_decide_eq_true (by first | (with_reducible assumption) | assumption); have q366 : x5_1 < (l0_0.length : Int) := of_decide_eq_true (by first | (with_reducible assumption) | assumption); obtain ⟨ad366, e366, zLC⟩ := Kd.qC HR0_0.out x5_1 p366 q366; have hw366_0 := zLC; cases e366; replace zLC := (HB.out.cell (World.block_lt_of_cell? w _ zLC)).trans zLC; replace p366 := eq_true p366; replace q366 := eq_true q366; have p368 : 0 ≤ (x5_1 : Int) := of_decide_eq_true (by first | (with_reducible assumption) | assumption); have q368 : x5_1 < (l0_2.length : Int) := of_decide_eq_true (by first | (with_reducible assumption) | assumption); obtain ⟨ad368, A368_0, c368_0, e368, zLB, hl368_0, hi368_0⟩ := kQ HR0_2.out x5_1 p368 q368; have hw368_0 := zLB; cases e368; replace zLB := (HB.out.cell (World.block_lt_of_cell? w _ zLB)).trans zLB; have HR368_0 := zA.mk hi368_0; have HC368_0 := zA.mk hl368_0; clear hi368_0 hl368_0; replace p368 := eq_true p368; replace q368 := eq_true q368; refine zJS (n := 18) (S := fun w' => w'.cell? ⟨zCP, 0, none⟩ = some (.slice (some ad366) l0_0.length c0_0) ∧ w'.cell? ⟨zCP, 1, none⟩ = some (.slice A0_1 l0_1.length c0_1) ∧ w'.cell? ⟨zCP, 2, none⟩ = some (.slice (some ad368) l0_2.length c0_2) ∧ w'.cell? (ad366.add (x5_1).toNat) = some (.int .i64 (rd l0_0 x5_1)) ∧ w'.cell? (ad368.add (x5_1).toNat) = some (.slice A368_0 (zW l0_2 x5_1).length c368_0)) (ds := []) #[false, false, false, false, false, false, false, false, false, false, false, false, false, false, false, false, false, false] (by kernel_rfl) rfl rfl ⟨(zC jA.out 0).trans rfl, (zC jA.out 1).trans rfl, (zC jA.out 2).trans rfl, ((HB.out.cell (World.block_lt_of_cell? w _ hw366_0)).trans hw366_0), ((HB.out.cell (World.block_lt_of_cell? w _ hw368_0)).trans hw368_0)⟩ (fun hHeld => ?_); refine zCD wP.tab7 wP.bits7 (fun HT_ HW_ => ?_)
             generalize wr.drew = w22 at jA HB HR368_0 zLC zLB hHeld ⊢; refine qG (i := 0) (N := some 21) (v := ?_) (a' := ?_) #[true, false, false, false, false, false, false, false, false, false, false, false, false, false, false, false, false, false] rfl rfl (vG HT_.out (by kernel_rfl)) (fun _ _ _ h => h) (Or.inl ⟨by rfl, ?_⟩) ?_ ?_; rotate_left
             · intro w'; go_simp; with_reducible rfl
             rotate_left
             · simp only [Act.put, sIA, sC0, sCS, wX, vB]; rfl
             refine qG (i := 1) (N := some 22) (v := ?_) (a' := ?_) #[true, true, false, false, false, false, false, false, false, false, false, false, false, false, false, false, false, false] rfl rfl (vG HT_.out (by kernel_rfl)) (fun _ _ _ h => h) (Or.inl ⟨by rfl, ?_⟩) ?_ ?_; rotate_left
             · intro w'; go_simp; with_reducible rfl
             rotate_left
             · simp only [Act.put, sIA, sC0, sCS, wX, vB]; rfl
             refine qG (i := 2) (N := some 23) (v := ?_) (a' := ?_) #[true, true, true, false, false, false, false, false, false, false, false, false, false, false, false, false, false, false] rfl rfl (vG HT_.out (by kernel_rfl)) (fun _ _ _ h => h) (Or.inl ⟨by rfl, ?_⟩) ?_ ?_; rotate_left
             · intro w'; go_simp; with_reducible rfl
             rotate_left
             · simp only [Act.put, sIA, sC0, sCS, wX, vB]; rfl
             refine qG (i := 4) (N := some 25) (v := ?_) (a' := ?_) #[true, true, true, false, true, false, false, false, false, false, false, false, false, false, false, false, false, false] rfl rfl (vG HT_.out (by kernel_rfl)) (fun _ _ _ h => h) (Or.inl ⟨by rfl, ?_⟩) ?_ ?_; rotate_left
             · intro w'; go_simp; with_reducible rfl
             rotate_left
             · simp only [Act.put, sIA, sC0, sCS, wX, vB]; rfl
             refine qG (i := 9) (N := some 30) (v := ?_) (a' := ?_) #[true, true, true, false, true, false, false, false, false, true, false, false, false, false, false, false, false, false] rfl rfl (vG HT_.out (by kernel_rfl)) (fun _ _ _ h => h) (Or.inl ⟨by rfl, ?_⟩) ?_ ?_; rotate_left
             · intro w'; go_simp; with_reducible rfl
             rotate_left
             · simp only [Act.put, sIA, sC0, sCS, wX, vB]; rfl
             refine qG (i := 11) (N := some 32) (v := ?_) (a' := ?_) #[true, true, true, false, true, false, false, false, false, true, false, true, false, false, false, false, false, false] rfl rfl (vG HT_.out (by kernel_rfl)) (fun _ _ _ h => h) (Or.inl ⟨by rfl, ?_⟩) ?_ ?_; rotate_left
             · intro w'; go_simp; with_reducible rfl
             rotate_left
             · simp only [Act.put, sIA, sC0, sCS, wX, vB]; rfl
             refine kS (i := 3) (N := some 24) (v := ?_) (a' := ?_) #[true, true, true, true, true, false, false, false, false, true, false, true, false, false, false, false, false, false] rfl rfl (qZ HT_.out HW_.out (by kernel_rfl)) (fun _ _ _ h => h) (Or.inl ⟨by rfl, ?_⟩) hHeld ?_ ?_; rotate_left
             · rintro w' ⟨s0, s1, s2, s3, s4⟩; go_simp; with_reducible rfl
             rotate_left
             · simp only [Act.put, sIA, sC0, sCS, wX, vB]; rfl
             refine qG (i := 5) (N := some 26) (v := ?_) (a' := ?_) #[true, true, true, true, true, true, false, false, false, true, false, true, false, false, false, false, false, false] rfl rfl (vG HT_.out (by kernel_rfl)) (fun _ _ _ h => h) (Or.inl ⟨by rfl, ?_⟩) ?_ ?_; rotate_left
             · intro w'; go_simp; with_reducible rfl
             rotate_left
             · simp only [Act.put, sIA, sC0, sCS, wX, vB]; rfl
             refine kS (i := 6) (N := some 27) (v := ?_) (a' := ?_) #[true, true, true, true, true, true, true, false, false, true, false, true, false, false, false, false, false, false] rfl rfl (qZ HT_.out HW_.out (by kernel_rfl)) (fun _ _ _ h => h) (Or.inl ⟨by rfl, ?_⟩) hHeld ?_ ?_; rotate_left
             · rintro w' ⟨s0, s1, s2, s3, s4⟩; go_simp; with_reducible rfl
             rotate_left
             · simp only [Act.put, sIA, sC0, sCS, wX, vB]; rfl
             refine kS (i := 10) (N := some 31) (v := ?_) (a' := ?_) #[true, true, true, true, true, true, true, false, false, true, true, true, false, false, false, false, false, false] rfl rfl (qZ HT_.out HW_.out (by kernel_rfl)) (fun _ _ _ h => h) (Or.inl ⟨by rfl, ?_⟩) hHeld ?_ ?_; rotate_left
             · rintro w' ⟨s0, s1, s2, s3, s4⟩; go_simp; with_reducible rfl
             rotate_left
             · simp only [Act.put, sIA, sC0, sCS, wX, vB]; rfl
             refine qG (i := 12) (N := some 33) (v := ?_) (a' := ?_) #[true, true, true, true, true, true, true, false, false, true, true, true, true, false, false, false, false, false] rfl rfl (vG HT_.out (by kernel_rfl)) (fun _ _ _ h => h) (Or.inl ⟨by rfl, ?_⟩) ?_ ?_; rotate_left
             · intro w'; go_simp; with_reducible rfl
             rotate_left
             · simp only [Act.put, sIA, sC0, sCS, wX, vB]; rfl
             refine kS (i := 13) (N := some 34) (v := ?_) (a' := ?_) #[true, true, true, true, true, true, true, false, false, true, true, true, true, true, false, false, false, false] rfl rfl (qZ HT_.out HW_.out (by kernel_rfl)) (fun _ _ _ h => h) (Or.inl ⟨by rfl, ?_⟩) hHeld ?_ ?_; rotate_left
             · rintro w' ⟨s0, s1, s2, s3, s4⟩; go_simp; with_reducible rfl
             rotate_left
             · simp only [Act.put, sIA, sC0, sCS, wX, vB]; rfl
             refine one_ (i := 7) (N := some 28) #[true, true, true, true, true, true, true, true, false, true, true, true, true, true, false, false, false, false] rfl rfl (zDL HT_.out (by kernel_rfl)) (by decide) (fun K hK => ?_); refine goes_ Tryd.func45 (by kernel_rfl) rfl #[.int .i64 (rd l0_0 x5_1)] (by rfl) rfl rfl (by (try simp only [List.map_toArray, List.map_cons, List.map_nil]); first | done | rfl | (simp only [List.length_drop, List.length_take]; rfl)) ?_; with_reducible refine (yX.calls k1 (rd l0_0 x5_1) t367 _ A15.out).mono ?_
             rintro e w23 ⟨rfl, hb⟩; refine ⟨_, rfl, ?_⟩; have n0_ := zA.mk (zM (bG jA.out) hb); have n1_ := zA.mk (zG (eG HB.out) hb); clear jA; clear HB; have jA := n0_; have HB := n1_; clear n0_ n1_; (try clear hb)
             (try clear hb2)
             (try clear hk)
             (try clear hi)
             refine hK.out _ _ ⟨(zC jA.out 0).trans rfl, (zC jA.out 1).trans rfl, (zC jA.out 2).trans rfl, ((HB.out.cell (World.block_lt_of_cell? w _ hw366_0)).trans hw366_0), ((HB.out.cell (World.block_lt_of_cell? w _ hw368_0)).trans hw368_0)⟩ (fun hHeld => ?_); clear hK K; refine zEW (a' := ?_) ?_ ?_; rotate_left
             ·
              show Act.put _ (some 28) _ = _
              simp only [Act.put, sIA, sC0, sCS, wX, vB]; rfl
             refine qG (i := 8) (N := some 29) (v := ?_) (a' := ?_) #[true, true, true, true, true, true, true, true, true, true, true, true, true, true, false, false, false, false] rfl rfl (vG HT_.out (by kernel_rfl)) (fun _ _ _ h => h) (Or.inl ⟨by rfl, ?_⟩) ?_ ?_; rotate_left
             · intro w'; go_simp; with_reducible rfl
             rotate_left
             · simp only [Act.put, sIA, sC0, sCS, wX, vB]; rfl
             refine one_ (i := 14) (N := some 35) #[true, true, true, true, true, true, true, true, true, true, true, true, true, true, true, false, false, false] rfl rfl (zDL HT_.out (by kernel_rfl)) (by decide) (fun K hK => ?_); refine goes_ Tryd.func44 (by kernel_rfl) rfl #[.slice A368_0 (zW l0_2 x5_1).length c368_0] (by rfl) rfl rfl (by (try simp only [List.map_toArray, List.map_cons, List.map_nil]); first | done | rfl | (simp only [List.length_drop, List.length_take]; rfl)) ?_; with_reducible refine (vW.calls k1 _ _ (zW l0_2 x5_1) t369 _ ?side1 ?side2 A18.out).mono ?_
             (case side1 => repeat (first | exact (Kd.zX HR368_0.out HB.out) | (with_reducible refine Kd.zP ?_ _) | (with_reducible refine Kd.zO ?_ _) | (with_reducible refine Kd.zY ?_)))
             (case side2 => exact HC368_0.out)
             rintro e w24 ⟨rfl, hb⟩; refine ⟨_, rfl, ?_⟩; have n0_ := zA.mk (zM (bG jA.out) hb); have n1_ := zA.mk (zG (eG HB.out) hb); clear jA; clear HB; have jA := n0_; have HB := n1_; clear n0_ n1_; (try clear hb)
             (try clear hb2)
             (try clear hk)
             (try clear hi)
             refine hK.out _ _ ⟨(zC jA.out 0).trans rfl, (zC jA.out 1).trans rfl, (zC jA.out 2).trans rfl, ((HB.out.cell (World.block_lt_of_cell? w _ hw366_0)).trans hw366_0), ((HB.out.cell (World.block_lt_of_cell? w _ hw368_0)).trans hw368_0)⟩ (fun hHeld => ?_); clear hK K; refine zEW (a' := ?_) ?_ ?_; rotate_left
             ·
              show Act.put _ (some 35) _ = _
              simp only [Act.put, sIA, sC0, sCS, wX, vB]; rfl
             refine qG (i := 15) (N := some 36) (v := ?_) (a' := ?_) #[true, true, true, true, true, true, true, true, true, true, true, true, true, true, true, true, false, false] rfl rfl (vG HT_.out (by kernel_rfl)) (fun _ _ _ h => h) (Or.inl ⟨by rfl, ?_⟩) ?_ ?_; rotate_left
             · intro w'; go_simp; with_reducible rfl
             rotate_left
             · simp only [Act.put, sIA, sC0, sCS, wX, vB]; rfl
             refine qG (i := 16) (N := some 37) (v := ?_) (a' := ?_) #[true, true, true, true, true, true, true, true, true, true, true, true, true, true, true, true, true, false] rfl rfl (vG HT_.out (by kernel_rfl)) (fun _ _ _ h => h) (Or.inl ⟨by rfl, ?_⟩) ?_ ?_; rotate_left
             · intro w'; go_simp; with_reducible rfl
             rotate_left
             · simp only [Act.put, sIA, sC0, sCS, wX, vB]; rfl
             refine qG (i := 17) (N := some 4) (v := ?_) (a' := ?_) #[true, true, true, true, true, true, true, true, true, true, true, true, true, true, true, true, true, true] rfl rfl (vG HT_.out (by kernel_rfl)) (fun _ _ _ h => h) (Or.inl ⟨by rfl, ?_⟩) ?_ ?_; rotate_left
             · intro w'; go_simp; with_reducible rfl
             rotate_left
             · simp only [Act.put, sIA, sC0, sCS, wX, vB]; rfl
             refine zQU (zFW HT_.out (by kernel_rfl)) ?_; try go_wp2
             go_roundg k1
             case measure => have := HK1.out; omega
             case rel => exact ⟨((((x4_1 ++ (⟨#[104, 101, 97, 116, 32]⟩ : ByteArray)) ++ t367) ++ t369) ++ (⟨#[10]⟩ : ByteArray)), (wrap64 (x5_1 + 1)), (by first | rfl | (simp; done) | (simp [*]; done)), (by first | rfl | (simp; done) | (simp [*]; done)), H', ⟨by have := HK1.out; omega⟩, ⟨by (with_reducible repeat first | apply bN | apply bD | apply bA); exact jA.out⟩, ⟨eG HB.out⟩⟩
            · rw [if_neg c20] at H; exact absurd H (by simp)
           · rw [if_neg c19] at H; exact absurd H (by simp)
          · rw [if_neg c17] at H; exact absurd H (by simp)
         · rw [if_neg c16] at H; exact absurd H (by simp)
        · rw [if_neg c14] at H; exact absurd H (by simp)
       · rw [if_neg c13] at H; exact absurd H (by simp)
      ·
       rw [if_neg c12] at H; have c12b0 : decide (x5_1 < (l0_0.length : Int)) = false := decide_eq_false c12; clear c12; simp only [Option.some.injEq, Prod.mk.injEq] at H; obtain ⟨rfl, rfl⟩ := H; have zCZ : wr.cell? ⟨zCP, 0, none⟩ = some (.slice A0_0 l0_0.length c0_0) := (zC jA.out 0).trans rfl; have zFR : wr.cell? ⟨zCP, 1, none⟩ = some (.slice A0_1 l0_1.length c0_1) := (zC jA.out 1).trans rfl; have zFQ : wr.cell? ⟨zCP, 2, none⟩ = some (.slice A0_2 l0_2.length c0_2) := (zC jA.out 2).trans rfl; have zCW := zB jA.out 0; have zFN := zB jA.out 1; have zFM := zB jA.out 2; go_wp2; go_ret2
       exact ⟨by first | rfl | (simp [zI, zH] <;> rfl) | (simp [*, zI, zH] <;> rfl), eG HB.out⟩
   · rw [if_neg c6] at H; exact absurd H (by simp)
  · rw [if_neg c5] at H; exact absurd H (by simp)
 ·
  rw [if_neg c3] at H; have c3b0 : (t364 == 0) = false := beq_eq_false_iff_ne.mpr c3; have c3b1 : (t364 != 0) = true := bne_iff_ne.mpr c3; simp only [Option.some.injEq, Prod.mk.injEq] at H; obtain ⟨rfl, rfl⟩ := H; go_enter Tryd.func21, Tryd.ntmps21
  go_wp2_with (first | ((with_reducible refine vH (N := 1) rfl ?_); refine vD ?hg (N := 1) ?hd (cs := #[.slice A0_0 l0_0.length c0_0, .slice A0_1 l0_1.length c0_1, .slice A0_2 l0_2.length c0_2]) (t := 25) ?hr ?_; (case hd => rfl); (case hg => rfl); (case hr => first | (go_simp; done) | (go_simp; rfl)); intro zCP hg w26 hbox hb; have n0_ := zA.mk (zG (eG HB.out) hb); have n1_ := zA.mk (hbox); have n2_ := zA.mk ((by rw [hg]; exact (zD (eG HB.out)) : w.heap.size ≤ zCP)); have n3_ := zA.mk ((by rw [hg]; exact (zD (eG HB.out)) : w.heap.size ≤ zCP)); clear HB; have HB := n0_; have jA := n1_; have GW363 := n2_; have GE363 := n3_; have ig363_ := geI GE363; clear n0_ n1_ n2_ n3_; clear hb hbox hg; have hcz27_0 : w26.cell? ⟨zCP, 0, none⟩ = some (.slice A0_0 l0_0.length c0_0) := (zC jA.out 0).trans rfl; have hcz27_1 : w26.cell? ⟨zCP, 1, none⟩ = some (.slice A0_1 l0_1.length c0_1) := (zC jA.out 1).trans rfl; have hcz27_2 : w26.cell? ⟨zCP, 2, none⟩ = some (.slice A0_2 l0_2.length c0_2) := (zC jA.out 2).trans rfl; have hfz27_0 := zB jA.out 0; have hfz27_1 := zB jA.out 1; have hfz27_2 := zB jA.out 2) | ((with_reducible refine zQ (f := 19) rfl ?_); refine vN (some 7) rfl rfl Tryd.func19 (by kernel_rfl) rfl #[.agg #[.slice A0_0 l0_0.length c0_0, .slice A0_1 l0_1.length c0_1, .slice A0_2 l0_2.length c0_2]] rfl (by (try simp only [List.map_toArray, List.map_cons, List.map_nil]); first | done | rfl | (simp only [List.length_drop, List.length_take]; rfl)) ?_; (with_reducible refine (zF.calls k _ _ l0_0 _ _ l0_1 _ _ l0_2 t364 _ ?side1 ?side2 ?side3 ?side4 ?side5 ?side6 A2.out).mono ?_); (case side1 => repeat (first | exact (Kd.zX HR0_0.out HB.out) | (with_reducible refine Kd.zP ?_ _) | (with_reducible refine Kd.zO ?_ _) | (with_reducible refine Kd.zY ?_))); (case side2 => exact HC0_0.out); (case side3 => repeat (first | exact (Kd.zX HR0_1.out HB.out) | (with_reducible refine Kd.zP ?_ _) | (with_reducible refine Kd.zO ?_ _) | (with_reducible refine Kd.zY ?_))); (case side4 => exact HC0_1.out); (case side5 => repeat (first | exact (Kd.zX HR0_2.out HB.out) | (with_reducible refine Kd.zP ?_ _) | (with_reducible refine Kd.zO ?_ _) | (with_reducible refine Kd.zY ?_))); (case side6 => exact HC0_2.out); rintro e w28 ⟨rfl, hb⟩; refine ⟨_, rfl, ?_⟩; have n0_ := zA.mk (zM (bG jA.out) hb); have n1_ := zA.mk (zG (eG HB.out) hb); clear jA; clear HB; have jA := n0_; have HB := n1_; clear n0_ n1_; (try clear hb); (try clear hb2); (try clear hk); (try clear hi)))
  go_ret2
  exact ⟨by first | rfl | (simp [zI, zH] <;> rfl) | (simp [*, zI, zH] <;> rfl), eG HB.out⟩
def kB.f (a0 : ByteArray) (a1 : Bool) : Option (Int × Bool) := (strconv_Atoi.f a0).bind fun bt370 => (if bt370.2.isNone = true then ((strconv_Itoa.f bt370.1).bind fun t373 => (if t373.toList = a0.toList then (if bt370.1 ≤ 99999 then (if bt370.1 ≥ (-99999) then (if bt370.1 ≥ 0 then (some (bt370.1, true)) else (some (bt370.1, a1))) else (some (bt370.1, false))) else (some (bt370.1, false))) else (some (bt370.1, false)))) else (some (bt370.1, false)))
set_option maxHeartbeats 8000000 in
set_option maxRecDepth 100000 in
theorem kB.calls (a0 : ByteArray) (a1 : Bool) (r1 : Int) (r2 : Bool) (w : World) (hG : GI w) (h : kB.f a0 a1 = some (r1, r2)) :
  Calls Tryd.prog 66 #[.string a0, .bool a1] w fun e w' => e = .returned (.tuple #[.int .i64 r1, .bool r2]) ∧ Below w.heap.size w w' := by
 have hu90 := Tryd.underlying90; have HG := zA.mk hG; clear hG; have HB := zA.mk (Below.refl w.heap.size w); have H : ((strconv_Atoi.f a0).bind fun bt370 => (if bt370.2.isNone = true then ((strconv_Itoa.f bt370.1).bind fun t373 => (if t373.toList = a0.toList then (if bt370.1 ≤ 99999 then (if bt370.1 ≥ (-99999) then (if bt370.1 ≥ 0 then (some (bt370.1, true)) else (some (bt370.1, a1))) else (some (bt370.1, false))) else (some (bt370.1, false))) else (some (bt370.1, false)))) else (some (bt370.1, false)))) = some (r1, r2) := h; clear h; replace H := Option.bind_eq_some_iff.mp H; obtain ⟨⟨t370, t371⟩, A30, H⟩ := H; replace H : (if t371.isNone = true then ((strconv_Itoa.f t370).bind fun t373 => (if t373.toList = a0.toList then (if t370 ≤ 99999 then (if t370 ≥ (-99999) then (if t370 ≥ 0 then (some (t370, true)) else (some (t370, a1))) else (some (t370, false))) else (some (t370, false))) else (some (t370, false)))) else (some (t370, false))) = some (r1, r2) := H; have A3 := zA.mk A30; clear A30; rcases t371 with _ | q372
 ·
  have H1 : ((strconv_Itoa.f t370).bind fun t373 => (if t373.toList = a0.toList then (if t370 ≤ 99999 then (if t370 ≥ (-99999) then (if t370 ≥ 0 then (some (t370, true)) else (some (t370, a1))) else (some (t370, false))) else (some (t370, false))) else (some (t370, false)))) = some (r1, r2) := by rw [if_pos (show (none : Option Int).isNone = true by rfl)] at H; exact H
  clear H; have H := H1; clear H1; try simp only [zI, zH]
  replace H := Option.bind_eq_some_iff.mp H; obtain ⟨t373, A40, H⟩ := H; replace H : (if t373.toList = a0.toList then (if t370 ≤ 99999 then (if t370 ≥ (-99999) then (if t370 ≥ 0 then (some (t370, true)) else (some (t370, a1))) else (some (t370, false))) else (some (t370, false))) else (some (t370, false))) = some (r1, r2) := H; have A4 := zA.mk A40; clear A40; by_cases c5 : t373.toList = a0.toList
  ·
   rw [if_pos c5] at H; have c5b0 : (t373.toList == a0.toList) = true := beq_iff_eq.mpr c5; have c5b1 : (t373.toList != a0.toList) = false := bne_eq_false_iff_eq.mpr c5; clear c5; by_cases c6 : t370 ≤ 99999
   ·
    rw [if_pos c6] at H; have c6b0 : decide (t370 ≤ 99999) = true := decide_eq_true c6; clear c6; by_cases c7 : t370 ≥ (-99999)
    ·
     rw [if_pos c7] at H; have c7b0 : decide ((-99999) ≤ t370) = true := decide_eq_true c7; clear c7; by_cases c8 : t370 ≥ 0
     ·
      rw [if_pos c8] at H; have c8b0 : decide (0 ≤ t370) = true := decide_eq_true c8; clear c8; simp only [Option.some.injEq, Prod.mk.injEq] at H; obtain ⟨rfl, rfl⟩ := H; go_enter Tryd.func66, Tryd.ntmps66
      go_wp2_with (first | ((with_reducible refine zQ (f := 75) rfl ?_); refine vN (some 10) rfl rfl Tryd.func75 (by kernel_rfl) rfl #[.string a0] rfl (by (try simp only [List.map_toArray, List.map_cons, List.map_nil]); first | done | rfl | (simp only [List.length_drop, List.length_take]; rfl)) ?_; (with_reducible refine (strconv_Atoi.oks a0 t370 _ ?side1 A3.out).mono ?_); (case side1 => exact GI.below HG.out (eG HB.out)); rintro e w9 ⟨rfl, hb⟩; refine ⟨_, rfl, ?_⟩; have n0_ := zA.mk (zG (eG HB.out) hb); clear HB; have HB := n0_; clear n0_; (try clear hb); (try clear hb2); (try clear hk); (try clear hi); (try simp only [zI, zH])) | (go_at_call 58; (with_reducible refine (strconv_Itoa.calls t370 t373 _ ?side1 A4.out).mono ?_); (case side1 => exact GI.below HG.out (eG HB.out)); rintro e w10 ⟨rfl, hb⟩; have n0_ := zA.mk (zG (eG HB.out) hb); clear HB; have HB := n0_; clear n0_; (try clear hb); (try clear hb2); (try clear hk); (try clear hi)))
      go_ret2
      exact ⟨by first | rfl | (simp [zI, zH] <;> rfl) | (simp [*, zI, zH] <;> rfl), eG HB.out⟩
     ·
      rw [if_neg c8] at H; have c8b0 : decide (0 ≤ t370) = false := decide_eq_false c8; clear c8; simp only [Option.some.injEq, Prod.mk.injEq] at H; obtain ⟨rfl, rfl⟩ := H; go_enter Tryd.func66, Tryd.ntmps66
      go_wp2_with (first | ((with_reducible refine zQ (f := 75) rfl ?_); refine vN (some 10) rfl rfl Tryd.func75 (by kernel_rfl) rfl #[.string a0] rfl (by (try simp only [List.map_toArray, List.map_cons, List.map_nil]); first | done | rfl | (simp only [List.length_drop, List.length_take]; rfl)) ?_; (with_reducible refine (strconv_Atoi.oks a0 t370 _ ?side1 A3.out).mono ?_); (case side1 => exact GI.below HG.out (eG HB.out)); rintro e w11 ⟨rfl, hb⟩; refine ⟨_, rfl, ?_⟩; have n0_ := zA.mk (zG (eG HB.out) hb); clear HB; have HB := n0_; clear n0_; (try clear hb); (try clear hb2); (try clear hk); (try clear hi); (try simp only [zI, zH])) | (go_at_call 58; (with_reducible refine (strconv_Itoa.calls t370 t373 _ ?side1 A4.out).mono ?_); (case side1 => exact GI.below HG.out (eG HB.out)); rintro e w12 ⟨rfl, hb⟩; have n0_ := zA.mk (zG (eG HB.out) hb); clear HB; have HB := n0_; clear n0_; (try clear hb); (try clear hb2); (try clear hk); (try clear hi)))
      go_ret2
      exact ⟨by first | rfl | (simp [zI, zH] <;> rfl) | (simp [*, zI, zH] <;> rfl), eG HB.out⟩
    ·
     rw [if_neg c7] at H; have c7b0 : decide ((-99999) ≤ t370) = false := decide_eq_false c7; clear c7; simp only [Option.some.injEq, Prod.mk.injEq] at H; obtain ⟨rfl, rfl⟩ := H; go_enter Tryd.func66, Tryd.ntmps66
     go_wp2_with (first | ((with_reducible refine zQ (f := 75) rfl ?_); refine vN (some 10) rfl rfl Tryd.func75 (by kernel_rfl) rfl #[.string a0] rfl (by (try simp only [List.map_toArray, List.map_cons, List.map_nil]); first | done | rfl | (simp only [List.length_drop, List.length_take]; rfl)) ?_; (with_reducible refine (strconv_Atoi.oks a0 t370 _ ?side1 A3.out).mono ?_); (case side1 => exact GI.below HG.out (eG HB.out)); rintro e w13 ⟨rfl, hb⟩; refine ⟨_, rfl, ?_⟩; have n0_ := zA.mk (zG (eG HB.out) hb); clear HB; have HB := n0_; clear n0_; (try clear hb); (try clear hb2); (try clear hk); (try clear hi); (try simp only [zI, zH])) | (go_at_call 58; (with_reducible refine (strconv_Itoa.calls t370 t373 _ ?side1 A4.out).mono ?_); (case side1 => exact GI.below HG.out (eG HB.out)); rintro e w14 ⟨rfl, hb⟩; have n0_ := zA.mk (zG (eG HB.out) hb); clear HB; have HB := n0_; clear n0_; (try clear hb); (try clear hb2); (try clear hk); (try clear hi)))
     go_ret2
     exact ⟨by first | rfl | (simp [zI, zH] <;> rfl) | (simp [*, zI, zH] <;> rfl), eG HB.out⟩
   ·
    rw [if_neg c6] at H; have c6b0 : decide (t370 ≤ 99999) = false := decide_eq_false c6; clear c6; simp only [Option.some.injEq, Prod.mk.injEq] at H; obtain ⟨rfl, rfl⟩ := H; go_enter Tryd.func66, Tryd.ntmps66
    go_wp2_with (first | ((with_reducible refine zQ (f := 75) rfl ?_); refine vN (some 10) rfl rfl Tryd.func75 (by kernel_rfl) rfl #[.string a0] rfl (by (try simp only [List.map_toArray, List.map_cons, List.map_nil]); first | done | rfl | (simp only [List.length_drop, List.length_take]; rfl)) ?_; (with_reducible refine (strconv_Atoi.oks a0 t370 _ ?side1 A3.out).mono ?_); (case side1 => exact GI.below HG.out (eG HB.out)); rintro e w15 ⟨rfl, hb⟩; refine ⟨_, rfl, ?_⟩; have n0_ := zA.mk (zG (eG HB.out) hb); clear HB; have HB := n0_; clear n0_; (try clear hb); (try clear hb2); (try clear hk); (try clear hi); (try simp only [zI, zH])) | (go_at_call 58; (with_reducible refine (strconv_Itoa.calls t370 t373 _ ?side1 A4.out).mono ?_); (case side1 => exact GI.below HG.out (eG HB.out)); rintro e w16 ⟨rfl, hb⟩; have n0_ := zA.mk (zG (eG HB.out) hb); clear HB; have HB := n0_; clear n0_; (try clear hb); (try clear hb2); (try clear hk); (try clear hi)))
    go_ret2
    exact ⟨by first | rfl | (simp [zI, zH] <;> rfl) | (simp [*, zI, zH] <;> rfl), eG HB.out⟩
  ·
   rw [if_neg c5] at H; have c5b0 : (t373.toList == a0.toList) = false := beq_eq_false_iff_ne.mpr c5; have c5b1 : (t373.toList != a0.toList) = true := bne_iff_ne.mpr c5; simp only [Option.some.injEq, Prod.mk.injEq] at H; obtain ⟨rfl, rfl⟩ := H; go_enter Tryd.func66, Tryd.ntmps66
   go_wp2_with (first | ((with_reducible refine zQ (f := 75) rfl ?_); refine vN (some 10) rfl rfl Tryd.func75 (by kernel_rfl) rfl #[.string a0] rfl (by (try simp only [List.map_toArray, List.map_cons, List.map_nil]); first | done | rfl | (simp only [List.length_drop, List.length_take]; rfl)) ?_; (with_reducible refine (strconv_Atoi.oks a0 t370 _ ?side1 A3.out).mono ?_); (case side1 => exact GI.below HG.out (eG HB.out)); rintro e w17 ⟨rfl, hb⟩; refine ⟨_, rfl, ?_⟩; have n0_ := zA.mk (zG (eG HB.out) hb); clear HB; have HB := n0_; clear n0_; (try clear hb); (try clear hb2); (try clear hk); (try clear hi); (try simp only [zI, zH])) | (go_at_call 58; (with_reducible refine (strconv_Itoa.calls t370 t373 _ ?side1 A4.out).mono ?_); (case side1 => exact GI.below HG.out (eG HB.out)); rintro e w18 ⟨rfl, hb⟩; have n0_ := zA.mk (zG (eG HB.out) hb); clear HB; have HB := n0_; clear n0_; (try clear hb); (try clear hb2); (try clear hk); (try clear hi)))
   go_ret2
   exact ⟨by first | rfl | (simp [zI, zH] <;> rfl) | (simp [*, zI, zH] <;> rfl), eG HB.out⟩
 ·
  have H1 : (some (t370, false)) = some (r1, r2) := by rw [if_neg (show ¬ (some q372).isNone = true by simp)] at H; exact H
  clear H; have H := H1; clear H1; try simp only [zI, zH]
  simp only [Option.some.injEq, Prod.mk.injEq] at H; obtain ⟨rfl, rfl⟩ := H; go_enter Tryd.func66, Tryd.ntmps66
  go_wp2_with (first | ((with_reducible refine zQ (f := 75) rfl ?_); refine vN (some 10) rfl rfl Tryd.func75 (by kernel_rfl) rfl #[.string a0] rfl (by (try simp only [List.map_toArray, List.map_cons, List.map_nil]); first | done | rfl | (simp only [List.length_drop, List.length_take]; rfl)) ?_; (with_reducible refine (strconv_Atoi.fails a0 t370 q372 _ ?side1 A3.out).mono ?_); (case side1 => exact GI.below HG.out (eG HB.out)); rintro e w19 ⟨bE, rfl, hb⟩; refine ⟨_, rfl, ?_⟩; have n0_ := zA.mk (zG (eG HB.out) hb); clear HB; have HB := n0_; clear n0_; (try clear hb); (try clear hb2); (try clear hk); (try clear hi); (try simp only [zI, zH])))
  go_ret2
  exact ⟨by first | rfl | (simp [zI, zH] <;> rfl) | (simp [*, zI, zH] <;> rfl), eG HB.out⟩
def wG.l0 : Nat → Int → List Int → List ByteArray → Int → Int → Option (List Int × Bool)
 | 0, _, _, _, _, _ => none
 | k + 1, x1, x6, x11, x12, x13 => if x13 < x12 then (if 0 ≤ x13 then (if x13 < (x11.length : Int) then ((kB.f (rdOf ByteArray.empty x11 x13) (decide (x13 < x1))).bind fun bt375 => (if bt375.2 = true then (if x6.length < 17592186044416 then (wG.l0 k x1 (x6 ++ [bt375.1]) x11 x12 (wrap64 (x13 + 1))) else (none)) else (some (([] : List Int), false)))) else (none)) else (none)) else (some (x6, true))
def wG.f (k : Nat) (l0 : List ByteArray) (a1 : Int) : Option (List Int × Bool) := wG.l0 k a1 ([] : List Int) l0 (l0.length : Int) 0
set_option maxHeartbeats 8000000 in
set_option maxRecDepth 100000 in
theorem wG.calls (k : Nat) (A0 : Option Addr) (c0 : Nat) (l0 : List ByteArray) (a1 : Int) (r1 : List Int) (r2 : Bool) (w : World) (hr0 : Kd.C Kd.string w A0 l0.length l0) (hc0 : l0.length ≤ c0) (hG : GI w) (h : wG.f k l0 a1 = some (r1, r2)) :
  Calls Tryd.prog 61 #[.slice A0 l0.length c0, .int .i64 a1] w fun e w' => ∃ v0_ : Value, e = .returned (.tuple #[v0_, .bool r2]) ∧ Kd.R (Kd.int .i64) 3 w' w.heap.size (fun _ => True) v0_ r1 ∧ Below w.heap.size w w' := by
 have HR0 := zA.mk hr0; have HC0 := zA.mk hc0; clear hr0 hc0; have HG := zA.mk hG; clear hG; have HB := zA.mk (Below.refl w.heap.size w); have H : (wG.l0 k a1 ([] : List Int) l0 (l0.length : Int) 0) = some (r1, r2) := h; clear h; have H' := zA.mk H; clear H; go_enter Tryd.func61, Tryd.ntmps61
 go_wp2; go_loopg [6, 13] k (fun kq v6 v13 w' => ∃ (x6_1 : List Int) (x13_1 : Int), v13 = .int .i64 x13_1 ∧ zA (wG.l0 kq a1 x6_1 l0 (l0.length : Int) x13_1 = some (r1, r2)) ∧ zA (kq ≤ k) ∧ zA (Kd.R (Kd.int .i64) 3 w' w.heap.size (fun _ => True) v6 x6_1) ∧ zA (Below w.heap.size w w'))
 case atStart => exact ⟨(([] : List Int)), (0), (by first | rfl | (simp; done) | (simp [*]; done)), H', ⟨Nat.le_refl _⟩, ⟨by first | exact Kd.yV _ _ _ _ _ | exact Kd.jF _ _ _ _ _ | exact Kd.jC _ _ _ _ _ | exact Kd.jE _ _ _ _ _ | exact Kd.jD _ _ _ _ _⟩, ⟨eG HB.out⟩⟩
 case round =>
  clear H'; try clear p2
  obtain ⟨x6_1, x13_1, rfl, HA, HK1, HO_6, HB⟩ := hrel
  cases gk with
  | zero => exact absurd HA.out (by simp [wG.l0])
  | succ k1 =>
   have H := HA.out; clear HA; simp only [wG.l0] at H; by_cases c3 : x13_1 < (l0.length : Int)
   ·
    rw [if_pos c3] at H; have c3b0 : decide (x13_1 < (l0.length : Int)) = true := decide_eq_true c3; clear c3; by_cases c4 : 0 ≤ x13_1
    ·
     rw [if_pos c4] at H; have c4b0 : decide (0 ≤ x13_1) = true := decide_eq_true c4; clear c4; by_cases c5 : x13_1 < (l0.length : Int)
     ·
      rw [if_pos c5] at H; have c5b0 : decide (x13_1 < (l0.length : Int)) = true := decide_eq_true c5; clear c5; replace H := Option.bind_eq_some_iff.mp H; obtain ⟨⟨t375, t376⟩, A60, H⟩ := H; replace H : (if t376 = true then (if x6_1.length < 17592186044416 then (wG.l0 k1 a1 (x6_1 ++ [t375]) l0 (l0.length : Int) (wrap64 (x13_1 + 1))) else (none)) else (some (([] : List Int), false))) = some (r1, r2) := H; have A6 := zA.mk A60; clear A60; by_cases c7 : t376 = true
      ·
       subst c7; have H1 : (if x6_1.length < 17592186044416 then (wG.l0 k1 a1 (x6_1 ++ [t375]) l0 (l0.length : Int) (wrap64 (x13_1 + 1))) else (none)) = some (r1, r2) := by rw [if_pos rfl] at H; exact H
       clear H; have H := H1; clear H1; by_cases c8 : x6_1.length < 17592186044416
       ·
        rw [if_pos c8] at H; have LMc8 := zA.mk c8; clear c8; obtain ⟨y377, hy377⟩ : ∃ y_ : List Int, y_ = (x6_1 ++ [t375]) := ⟨_, rfl⟩; replace H : (wG.l0 k1 a1 y377 l0 (l0.length : Int) (wrap64 (x13_1 + 1))) = some (r1, r2) := by first | (rw [hy377]; with_reducible exact H) | (have H2_ := (Option.bind_some _ _).symm.trans H; rw [hy377]; with_reducible exact H2_) | (have H2_ := (Option.bind_some _ _).symm.trans H; with_reducible exact H2_) | with_reducible exact H | (rw [hy377]; exact H) | exact H
        have Ny377 := zA.mk hy377; clear hy377; have H' := zA.mk H; clear H; have p374 : 0 ≤ (x13_1 : Int) := of_decide_eq_true (by first | (with_reducible assumption) | assumption); have q374 : x13_1 < (l0.length : Int) := of_decide_eq_true (by first | (with_reducible assumption) | assumption); obtain ⟨ad374, e374, zGU⟩ := Kd.jU HR0.out x13_1 p374 q374; cases e374; replace zGU := (HB.out.cell (World.block_lt_of_cell? w _ zGU)).trans zGU; replace p374 := eq_true p374; replace q374 := eq_true q374; go_wp2_with (first | ((with_reducible refine zQ (f := 66) rfl ?_); refine vN (some 23) rfl rfl Tryd.func66 (by kernel_rfl) rfl #[.string (rdOf ByteArray.empty l0 x13_1), .bool (decide (x13_1 < a1))] rfl (by (try simp only [List.map_toArray, List.map_cons, List.map_nil]); first | done | rfl | (simp only [List.length_drop, List.length_take]; rfl)) ?_; (with_reducible refine (kB.calls (rdOf ByteArray.empty l0 x13_1) (decide (x13_1 < a1)) t375 true _ ?side1 A6.out).mono ?_); (case side1 => exact GI.below HG.out (eG HB.out)); rintro e w9 ⟨rfl, hb⟩; refine ⟨_, rfl, ?_⟩; have n0_ := zA.mk (Kd.wO (by (with_reducible repeat (first | apply Kd.zK | apply Kd.zJ | apply Kd.zT)); exact HO_6.out) hb); have n1_ := zA.mk (zG (eG HB.out) hb); clear HO_6; clear HB; have HO_6 := n0_; have HB := n1_; clear n0_ n1_; (try clear hb); (try clear hb2); (try clear hk); (try clear hi)) | ((with_reducible refine uU (b := .append) (xs := #[.tmp 28, .tmp 30]) rfl ?_); at_builtin; refine Kd.zDR (Kd.int .i64) (w0 := w) w.heap.size rfl (.tmp 28) (.tmp 30) 22 3 (.int .i64 0) 8 rfl Tryd.underlying22 zQR rfl (by decide) (by omega) u6 x6_1 t375 [.int .i64 t375] (fun _ => True) (fun _ => False) rfl rfl ?aP (fun _ hk => hk.elim) ?aF ?aO ?aB ?aS ?aL ?_; (case aP => exact rfl); (case aB => exact (eG HB.out)); (case aF => exact (fun _ _ => trivial)); (case aO => exact (by (with_reducible repeat (first | apply Kd.zK | apply Kd.zJ | apply Kd.zT)); exact HO_6.out)); (case aS => exact (zD (eG HB.out))); (case aL => have := LMc8.out; omega); intro v378 w10 ho hb hg hat; rw [← Ny377.out] at ho; have n0_ := zA.mk (hb); have n1_ := zA.mk (ho); clear HB; clear HO_6; have HB := n0_; have HO379 := n1_; clear n0_ n1_; clear ho hb hg hat))
        go_roundg k1
        case measure => have := HK1.out; omega
        case rel => exact ⟨(y377), (wrap64 (x13_1 + 1)), (by first | rfl | (simp; done) | (simp [*]; done)), H', ⟨by have := HK1.out; omega⟩, ⟨by (with_reducible repeat (first | apply Kd.zK | apply Kd.zJ | apply Kd.zT)); exact HO379.out⟩, ⟨eG HB.out⟩⟩
       · rw [if_neg c8] at H; exact absurd H (by simp)
      ·
       replace c7 := Bool.eq_false_iff.mpr c7; subst c7; have H1 : (some (([] : List Int), false)) = some (r1, r2) := by rw [if_neg (show ¬ (false = true) by decide)] at H; exact H
       clear H; have H := H1; clear H1; simp only [Option.some.injEq, Prod.mk.injEq] at H; obtain ⟨rfl, rfl⟩ := H; have p374 : 0 ≤ (x13_1 : Int) := of_decide_eq_true (by first | (with_reducible assumption) | assumption); have q374 : x13_1 < (l0.length : Int) := of_decide_eq_true (by first | (with_reducible assumption) | assumption); obtain ⟨ad374, e374, zGU⟩ := Kd.jU HR0.out x13_1 p374 q374; cases e374; replace zGU := (HB.out.cell (World.block_lt_of_cell? w _ zGU)).trans zGU; replace p374 := eq_true p374; replace q374 := eq_true q374; go_wp2_with (first | ((with_reducible refine zQ (f := 66) rfl ?_); refine vN (some 23) rfl rfl Tryd.func66 (by kernel_rfl) rfl #[.string (rdOf ByteArray.empty l0 x13_1), .bool (decide (x13_1 < a1))] rfl (by (try simp only [List.map_toArray, List.map_cons, List.map_nil]); first | done | rfl | (simp only [List.length_drop, List.length_take]; rfl)) ?_; (with_reducible refine (kB.calls (rdOf ByteArray.empty l0 x13_1) (decide (x13_1 < a1)) t375 false _ ?side1 A6.out).mono ?_); (case side1 => exact GI.below HG.out (eG HB.out)); rintro e w11 ⟨rfl, hb⟩; refine ⟨_, rfl, ?_⟩; have n0_ := zA.mk (Kd.wO (by (with_reducible repeat (first | apply Kd.zK | apply Kd.zJ | apply Kd.zT)); exact HO_6.out) hb); have n1_ := zA.mk (zG (eG HB.out) hb); clear HO_6; clear HB; have HO_6 := n0_; have HB := n1_; clear n0_ n1_; (try clear hb); (try clear hb2); (try clear hk); (try clear hi)))
       go_ret2
       exact ⟨_, by first | rfl | (simp [zI, zH] <;> rfl) | (simp [*, zI, zH] <;> rfl), by first | exact Kd.yV _ _ _ _ _ | exact Kd.jF _ _ _ _ _ | exact Kd.jC _ _ _ _ _ | exact Kd.jE _ _ _ _ _ | exact Kd.jD _ _ _ _ _, eG HB.out⟩
     · rw [if_neg c5] at H; exact absurd H (by simp)
    · rw [if_neg c4] at H; exact absurd H (by simp)
   ·
    rw [if_neg c3] at H; have c3b0 : decide (x13_1 < (l0.length : Int)) = false := decide_eq_false c3; clear c3; simp only [Option.some.injEq, Prod.mk.injEq] at H; obtain ⟨rfl, rfl⟩ := H; go_wp2; go_ret2
    exact ⟨_, by first | rfl | (simp [zI, zH] <;> rfl) | (simp [*, zI, zH] <;> rfl), by (with_reducible repeat (first | apply Kd.zK | apply Kd.zJ | apply Kd.zT)); exact HO_6.out, eG HB.out⟩
end Go.Proofs.YtmdfnambaedllaaDoor.Pr
