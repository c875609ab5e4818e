/-
A part of what these laws rest on: contracts of the functions that they reach, and plain lemmas.
-/
import Derived.Test.YtmdfnambaedllaaDoorCorrectTextsE
set_option linter.unusedVariables false
set_option linter.unusedSimpArgs false
namespace Go.Proofs.YtmdfnambaedllaaDoor.Pr
open Go.RowKit Go.Proofs.YtmdfnambaedllaaDoorW.PrintWords Go.Proofs.YtmdfnambaedllaaDoorW.PrintLast Go.Proofs.YtmdfnambaedllaaDoorW.PrintMore Go.Proofs.YtmdfnambaedllaaDoor.X
attribute [local go_sem] kJ kH zAS zAR uF uE kI kG   -- for this text's walks alone
set_option linter.unusedVariables false
set_option linter.unusedSimpArgs false
mutual
def zL.l0 : Nat → List ByteArray → Bool → Int → List Int → List Int → List (List Int) → Option (List Int × List Int × (List (List Int)) × Int × Int)
 | 0, _, _, _, _, _, _ => none
 | k + 1, x5, x6, x8, zCT, zEM, zCS => if x8 < (x5.length : Int) then (if 0 ≤ x8 then ((vX.f k (rdOf ByteArray.empty x5 x8)).bind fun t471 => (if x8 = (wrap64 ((x5.length : Int) - 1)) then (zL.j1 k x5 x6 x8 t471 (!x6) zCT zEM zCS) else (zL.j1 k x5 x6 x8 t471 false zCT zEM zCS))) else (none)) else ((zF.f k zCT zEM zCS).bind fun t469 => (if t469 = 0 then (some (zCT, zEM, zCS, (-1), 0)) else (some (([] : List Int), ([] : List Int), ([] : List (List Int)), (-1), t469))))
def zL.j1 : Nat → List ByteArray → Bool → Int → List ByteArray → Bool → List Int → List Int → List (List Int) → Option (List Int × List Int × (List (List Int)) × Int × Int)
 | 0, _, _, _, _, _, _, _, _ => none
 | k + 1, x5, x6, x8, x9, x50, zCT, zEM, zCS => if x50 = true then (some (([] : List Int), ([] : List Int), ([] : List (List Int)), x8, 3)) else (if x8 = 0 then (if 1 ≤ (x9.length : Int) then ((wM.f k (x9.drop 1)).bind fun bt478 => (if 0 < (x9.length : Int) then (if (rdOf ByteArray.empty x9 0).toList = ([97, 112, 112, 97, 114, 101, 110, 116] : List UInt8) then (if bt478.2 = true then (zL.l0 k x5 x6 (wrap64 (x8 + 1)) zCT bt478.1 zCS) else (some (([] : List Int), ([] : List Int), ([] : List (List Int)), 0, 3))) else (some (([] : List Int), ([] : List Int), ([] : List (List Int)), 0, 3))) else (none))) else (none)) else (if (x9.length : Int) < 2 then (zL.j2 k x5 x6 x8 x9 true zCT zEM zCS) else (if 0 < (x9.length : Int) then (zL.j2 k x5 x6 x8 x9 ((rdOf ByteArray.empty x9 0).toList != ([104, 101, 97, 116] : List UInt8)) zCT zEM zCS) else (none))))
def zL.j2 : Nat → List ByteArray → Bool → Int → List ByteArray → Bool → List Int → List Int → List (List Int) → Option (List Int × List Int × (List (List Int)) × Int × Int)
 | 0, _, _, _, _, _, _, _, _ => none
 | k + 1, x5, x6, x8, x9, x80, zCT, zEM, zCS => if x80 = true then (some (([] : List Int), ([] : List Int), ([] : List (List Int)), x8, 3)) else (if 1 < (x9.length : Int) then ((vQ.f k (rdOf ByteArray.empty x9 1)).bind fun bt485 => (if 2 ≤ (x9.length : Int) then ((wM.f k (x9.drop 2)).bind fun bt491 => (if bt485.2 = true then (if bt491.2 = true then (if zCT.length < 17592186044416 then (if zCS.length < 5864062014805 then (zL.l0 k x5 x6 (wrap64 (x8 + 1)) (zCT ++ [bt485.1]) zEM (zCS ++ [bt491.1])) else (none)) else (none)) else (some (([] : List Int), ([] : List Int), ([] : List (List Int)), x8, 3))) else (some (([] : List Int), ([] : List Int), ([] : List (List Int)), x8, 3)))) else (none))) else (none))
end
def zL.f (k : Nat) (a0 : ByteArray) : Option (List Int × List Int × (List (List Int)) × Int × Int) := if (a0.size : Int) > 65536 then (some (([] : List Int), ([] : List Int), ([] : List (List Int)), (-1), 8)) else ((vR.f k a0).bind fun bt464 => (if (bt464.1.length : Int) = 0 then (some (([] : List Int), ([] : List Int), ([] : List (List Int)), 0, 3)) else (zL.l0 k bt464.1 bt464.2 0 ([] : List Int) ([] : List Int) ([] : List (List Int)))))
set_option maxHeartbeats 8000000 in
set_option maxRecDepth 100000 in
theorem zL.calls (k : Nat) (a0 : ByteArray) (r1 : List Int) (r2 : List Int) (r3 : List (List Int)) (r4 : Int) (r5 : Int) (w : World) (h : zL.f k a0 = some (r1, r2, r3, r4, r5)) :
  Calls Tryd.prog 23 #[.string a0] w fun e w' => ∃ v0_ v1_ v2_ : Value, e = .returned (.tuple #[.agg #[v0_, v1_, v2_], .int .i64 r4, .int .i64 r5]) ∧ Kd.R (Kd.int .i64) 3 w' w.heap.size (fun k_ => some k_ ≠ (v1_ : Value).ownBlock) v0_ r1 ∧ Kd.R (Kd.int .i64) 3 w' w.heap.size (fun k_ => some k_ ≠ (v0_ : Value).ownBlock) v1_ r2 ∧ Kd.S (Kd.slice 3 (Kd.int .i64)) 22 w' w.heap.size (fun k_ => some k_ ≠ (v0_ : Value).ownBlock ∧ some k_ ≠ (v1_ : Value).ownBlock) v2_ r3 ∧ Below w.heap.size w w' := by
 have hu25 := Tryd.underlying25; have HB := zA.mk (Below.refl w.heap.size w); have H : (if (a0.size : Int) > 65536 then (some (([] : List Int), ([] : List Int), ([] : List (List Int)), (-1), 8)) else ((vR.f k a0).bind fun bt464 => (if (bt464.1.length : Int) = 0 then (some (([] : List Int), ([] : List Int), ([] : List (List Int)), 0, 3)) else (zL.l0 k bt464.1 bt464.2 0 ([] : List Int) ([] : List Int) ([] : List (List Int)))))) = some (r1, r2, r3, r4, r5) := h; clear h; by_cases c2 : (a0.size : Int) > 65536
 ·
  rw [if_pos c2] at H; have c2b0 : decide (65536 < (a0.size : Int)) = true := decide_eq_true c2; have c2b1 : decide (65536 < a0.size) = true := decide_eq_true (by omega); clear c2; simp only [Option.some.injEq, Prod.mk.injEq] at H; obtain ⟨rfl, rfl, rfl, rfl, rfl⟩ := H; go_enter Tryd.func23, Tryd.ntmps23
  go_wp2_with (first | ((with_reducible refine vH (N := 2) rfl ?_); refine vD ?hg (N := 2) ?hd (cs := #[.slice none 0 0, .slice none 0 0, .slice none 0 0]) (t := 25) ?hr ?_; (case hd => rfl); (case hg => rfl); (case hr => first | (go_simp; done) | (go_simp; rfl)); intro yN hg w3 hbox hb; have n0_ := zA.mk (zG (eG HB.out) hb); have n1_ := zA.mk (hbox); have n2_ := zA.mk ((by rw [hg]; exact (zD (eG HB.out)) : w.heap.size ≤ yN)); have n3_ := zA.mk ((by rw [hg]; exact (zD (eG HB.out)) : w.heap.size ≤ yN)); clear HB; have HB := n0_; have vV := n1_; have GW463 := n2_; have zYM := n3_; have ig463_ := geI zYM; clear n0_ n1_ n2_ n3_; clear hb hbox hg; have zNE : w3.cell? ⟨yN, 0, none⟩ = some (.slice none 0 0) := (zC vV.out 0).trans rfl; have zND : w3.cell? ⟨yN, 1, none⟩ = some (.slice none 0 0) := (zC vV.out 1).trans rfl; have zNC : w3.cell? ⟨yN, 2, none⟩ = some (.slice none 0 0) := (zC vV.out 2).trans rfl; have zMY := zB vV.out 0; have zMX := zB vV.out 1; have zMW := zB vV.out 2))
  refine bodyPost_ret (yB rfl _ _ yN 25 #[.slice none 0 0, .slice none 0 0, .slice none 0 0] (0, 0) _ rfl (by (with_reducible repeat first | apply bN | apply bD | apply bA); refine vA (cs := #[.slice none 0 0, .slice none 0 0, .slice none 0 0]) ?_ 2 _ rfl; (with_reducible repeat first | apply bN | apply bD | apply bA); refine vA (cs := #[.slice none 0 0, .slice none 0 0, .slice none 0 0]) ?_ 1 _ rfl; (with_reducible repeat first | apply bN | apply bD | apply bA); refine vA (cs := #[.slice none 0 0, .slice none 0 0, .slice none 0 0]) ?_ 0 _ rfl; (with_reducible repeat first | apply bN | apply bD | apply bA); exact vV.out) Tryd.underlying25 rfl (by kernel_rfl)) rfl ?_; exact ⟨_, _, _, by first | rfl | (simp [zI, zH] <;> rfl) | (simp [*, zI, zH] <;> rfl), by first | exact Kd.yV _ _ _ _ _ | exact Kd.jF _ _ _ _ _ | exact Kd.jC _ _ _ _ _ | exact Kd.jE _ _ _ _ _ | exact Kd.jD _ _ _ _ _, by first | exact Kd.yV _ _ _ _ _ | exact Kd.jF _ _ _ _ _ | exact Kd.jC _ _ _ _ _ | exact Kd.jE _ _ _ _ _ | exact Kd.jD _ _ _ _ _, by first | exact Kd.jD _ _ _ _ _ | exact Kd.jF _ _ _ _ _ | exact Kd.jC _ _ _ _ _ | exact Kd.jE _ _ _ _ _ | exact Kd.yV _ _ _ _ _, eG HB.out⟩
 ·
  rw [if_neg c2] at H; have c2b0 : decide (65536 < (a0.size : Int)) = false := decide_eq_false c2; have c2b1 : decide (65536 < a0.size) = false := decide_eq_false (by omega); clear c2; replace H := Option.bind_eq_some_iff.mp H; obtain ⟨⟨t464, t465⟩, A50, H⟩ := H; replace H : (if (t464.length : Int) = 0 then (some (([] : List Int), ([] : List Int), ([] : List (List Int)), 0, 3)) else (zL.l0 k t464 t465 0 ([] : List Int) ([] : List Int) ([] : List (List Int)))) = some (r1, r2, r3, r4, r5) := H; have A5 := zA.mk A50; clear A50; by_cases c6 : (t464.length : Int) = 0
  ·
   rw [if_pos c6] at H; have c6b0 : ((t464.length : Int) == 0) = true := beq_iff_eq.mpr c6; have c6b1 : ((t464.length : Int) != 0) = false := bne_eq_false_iff_eq.mpr c6; clear c6; simp only [Option.some.injEq, Prod.mk.injEq] at H; obtain ⟨rfl, rfl, rfl, rfl, rfl⟩ := H; go_enter Tryd.func23, Tryd.ntmps23
   go_wp2_with (first | ((with_reducible refine vH (N := 2) rfl ?_); refine vD ?hg (N := 2) ?hd (cs := #[.slice none 0 0, .slice none 0 0, .slice none 0 0]) (t := 25) ?hr ?_; (case hd => rfl); (case hg => rfl); (case hr => first | (go_simp; done) | (go_simp; rfl)); intro yN hg w7 hbox hb; have n0_ := zA.mk (zG (eG HB.out) hb); have n1_ := zA.mk (hbox); have n2_ := zA.mk ((by rw [hg]; exact (zD (eG HB.out)) : w.heap.size ≤ yN)); have n3_ := zA.mk ((by rw [hg]; exact (zD (eG HB.out)) : w.heap.size ≤ yN)); clear HB; have HB := n0_; have vV := n1_; have GW463 := n2_; have zYM := n3_; have ig463_ := geI zYM; clear n0_ n1_ n2_ n3_; clear hb hbox hg) | ((with_reducible refine zQ (f := 49) rfl ?_); refine vN (some 23) rfl rfl Tryd.func49 (by kernel_rfl) rfl #[.string a0] rfl (by (try simp only [List.map_toArray, List.map_cons, List.map_nil]); first | done | rfl | (simp only [List.length_drop, List.length_take]; rfl)) ?_; (with_reducible refine (vR.calls k a0 t464 t465 _ A5.out).mono ?_); rintro e w8 ⟨v466, rfl, ho0, hb⟩; refine ⟨_, rfl, ?_⟩; have n0_ := zA.mk (Kd.yD ho0 (zD (eG HB.out))); have n1_ := zA.mk (zM (bG vV.out) hb); have n2_ := zA.mk (zG (eG HB.out) hb); clear vV; clear HB; have zTJ := n0_; have vV := n1_; have HB := n2_; clear n0_ n1_ n2_; (try clear hb); (try clear hb2); (try clear hk); (try clear hi); (try clear ho0); obtain ⟨Ao9, co9, eo9⟩ := Kd.qQ zTJ.out; subst eo9; have zBO : w8.cell? ⟨yN, 0, none⟩ = some (.slice none 0 0) := (zC vV.out 0).trans rfl; have zBN : w8.cell? ⟨yN, 1, none⟩ = some (.slice none 0 0) := (zC vV.out 1).trans rfl; have zBM : w8.cell? ⟨yN, 2, none⟩ = some (.slice none 0 0) := (zC vV.out 2).trans rfl; have zBI := zB vV.out 0; have zBH := zB vV.out 1; have zBG := zB vV.out 2))
   refine bodyPost_ret (yB rfl _ _ yN 25 #[.slice none 0 0, .slice none 0 0, .slice none 0 0] (0, 0) _ rfl (by (with_reducible repeat first | apply bN | apply bD | apply bA); refine vA (cs := #[.slice none 0 0, .slice none 0 0, .slice none 0 0]) ?_ 2 _ rfl; (with_reducible repeat first | apply bN | apply bD | apply bA); refine vA (cs := #[.slice none 0 0, .slice none 0 0, .slice none 0 0]) ?_ 1 _ rfl; (with_reducible repeat first | apply bN | apply bD | apply bA); refine vA (cs := #[.slice none 0 0, .slice none 0 0, .slice none 0 0]) ?_ 0 _ rfl; (with_reducible repeat first | apply bN | apply bD | apply bA); exact vV.out) Tryd.underlying25 rfl (by kernel_rfl)) rfl ?_; exact ⟨_, _, _, by first | rfl | (simp [zI, zH] <;> rfl) | (simp [*, zI, zH] <;> rfl), by first | exact Kd.yV _ _ _ _ _ | exact Kd.jF _ _ _ _ _ | exact Kd.jC _ _ _ _ _ | exact Kd.jE _ _ _ _ _ | exact Kd.jD _ _ _ _ _, by first | exact Kd.yV _ _ _ _ _ | exact Kd.jF _ _ _ _ _ | exact Kd.jC _ _ _ _ _ | exact Kd.jE _ _ _ _ _ | exact Kd.jD _ _ _ _ _, by first | exact Kd.jD _ _ _ _ _ | exact Kd.jF _ _ _ _ _ | exact Kd.jC _ _ _ _ _ | exact Kd.jE _ _ _ _ _ | exact Kd.yV _ _ _ _ _, eG HB.out⟩
  ·
   rw [if_neg c6] at H; have c6b0 : ((t464.length : Int) == 0) = false := beq_eq_false_iff_ne.mpr c6; have c6b1 : ((t464.length : Int) != 0) = true := bne_iff_ne.mpr c6; have c6b2 : ¬ (t464 = []) := fun h_ => c6 (by rw [h_]; rfl)
   have H' := zA.mk H; clear H; go_enter Tryd.func23, Tryd.ntmps23
   go_wp2_with (first | ((with_reducible refine vH (N := 2) rfl ?_); refine vD ?hg (N := 2) ?hd (cs := #[.slice none 0 0, .slice none 0 0, .slice none 0 0]) (t := 25) ?hr ?_; (case hd => rfl); (case hg => rfl); (case hr => first | (go_simp; done) | (go_simp; rfl)); intro yN hg w11 hbox hb; have n0_ := zA.mk (zG (eG HB.out) hb); have n1_ := zA.mk (hbox); have n2_ := zA.mk ((by rw [hg]; exact (zD (eG HB.out)) : w.heap.size ≤ yN)); have n3_ := zA.mk ((by rw [hg]; exact (zD (eG HB.out)) : w.heap.size ≤ yN)); clear HB; have HB := n0_; have vV := n1_; have GW463 := n2_; have zYM := n3_; have ig463_ := geI zYM; clear n0_ n1_ n2_ n3_; clear hb hbox hg) | ((with_reducible refine zQ (f := 49) rfl ?_); refine vN (some 23) rfl rfl Tryd.func49 (by kernel_rfl) rfl #[.string a0] rfl (by (try simp only [List.map_toArray, List.map_cons, List.map_nil]); first | done | rfl | (simp only [List.length_drop, List.length_take]; rfl)) ?_; (with_reducible refine (vR.calls k a0 t464 t465 _ A5.out).mono ?_); rintro e w12 ⟨v466, rfl, ho0, hb⟩; refine ⟨_, rfl, ?_⟩; have n0_ := zA.mk (Kd.yD ho0 (zD (eG HB.out))); have n1_ := zA.mk (zM (bG vV.out) hb); have n2_ := zA.mk (zG (eG HB.out) hb); clear vV; clear HB; have zTJ := n0_; have vV := n1_; have HB := n2_; clear n0_ n1_ n2_; (try clear hb); (try clear hb2); (try clear hk); (try clear hi); (try clear ho0); obtain ⟨Ao13, co13, eo13⟩ := Kd.qQ zTJ.out; subst eo13) | ((with_reducible refine vH (N := 7) rfl ?_); refine vD ?hg (N := 7) ?hd (cs := #[.slice none 0 0, .slice none 0 0, .slice none 0 0]) (t := 25) ?hr ?_; (case hd => rfl); (case hg => rfl); (case hr => first | (go_simp; done) | (go_simp; rfl)); intro jN hg w14 hbox hb; have n0_ := zA.mk (Kd.wO (rG zTJ.out) hb); have n1_ := zA.mk (zM (bG vV.out) hb); have n2_ := zA.mk (zG (eG HB.out) hb); have n3_ := zA.mk (hbox); have n4_ := zA.mk ((by rw [hg]; exact (zD (eG HB.out)) : w.heap.size ≤ jN)); have n5_ := zA.mk ((by rw [hg]; exact (zD (eG HB.out)) : w.heap.size ≤ jN)); have n6_ := zA.mk ((by rw [hg]; exact Nat.ne_of_lt (yG (bG vV.out)) : yN ≠ jN)); have n7_ := zA.mk ((by rw [hg]; exact Nat.ne_of_gt (yG (bG vV.out)) : jN ≠ yN)); clear zTJ; clear vV; clear HB; have zTJ := n0_; have vV := n1_; have HB := n2_; have qD := n3_; have GW468 := n4_; have GE468 := n5_; have ig468_ := geI GE468; have jW := n6_; have zAG := n7_; clear n0_ n1_ n2_ n3_ n4_ n5_ n6_ n7_; clear hb hbox hg; have hnb15 := zAG.out; have hnc15 := jW.out; have zPE : w14.cell? ⟨jN, 0, none⟩ = some (.slice none 0 0) := (zC qD.out 0).trans rfl; have zPD : w14.cell? ⟨jN, 1, none⟩ = some (.slice none 0 0) := (zC qD.out 1).trans rfl; have zPC : w14.cell? ⟨jN, 2, none⟩ = some (.slice none 0 0) := (zC qD.out 2).trans rfl; have zON := zB qD.out 0; have zOM := zB qD.out 1; have zOL := zB qD.out 2))
   go_loopg [8] k (fun kq v8 w' => ∃ (x8_1 : Int) (vY : List Int) (qL : List Int) (vU : List (List Int)) (yK : Value) (qW : Value) (jJ : Value), v8 = .int .i64 x8_1 ∧ zA (zL.l0 kq t464 t465 x8_1 vY qL vU = some (r1, r2, r3, r4, r5)) ∧ zA (kq ≤ k) ∧ zA (Kd.R Kd.string 9 w' w.heap.size (fun _ => True) (.slice Ao13 t464.length co13) t464) ∧ zA (Kd.R (Kd.int .i64) 3 w' w.heap.size (fun k_ => some k_ ≠ (qW : Value).ownBlock) yK vY) ∧ zA (Kd.R (Kd.int .i64) 3 w' w.heap.size (fun k_ => some k_ ≠ (yK : Value).ownBlock) qW qL) ∧ zA (Kd.S (Kd.slice 3 (Kd.int .i64)) 22 w' w.heap.size (fun k_ => some k_ ≠ (yK : Value).ownBlock ∧ some k_ ≠ (qW : Value).ownBlock) jJ vU) ∧ zA (w'.heap[yN]? = some (.cells #[(.slice none 0 0), (.slice none 0 0), (.slice none 0 0)] 25 (0, 0))) ∧ zA (w'.heap[jN]? = some (.cells #[yK, qW, jJ] 25 (0, 0))) ∧ zA (Below w.heap.size w w'))
   case atStart => exact ⟨(0), (([] : List Int)), (([] : List Int)), (([] : List (List Int))), (.slice none 0 0), (.slice none 0 0), (.slice none 0 0), (by first | rfl | (simp; done) | (simp [*]; done)), H', ⟨Nat.le_refl _⟩, ⟨by (with_reducible repeat (first | apply Kd.zK | apply Kd.zJ | apply Kd.zT)); exact Kd.vP (Kd.qR (p := ⟨jN, 2, none⟩) (Kd.qR (p := ⟨jN, 1, none⟩) (Kd.qR (p := ⟨jN, 0, none⟩) (Kd.qE zTJ.out qD.out (by decide)) (fun _ hk => hk.2) (.slice none 0 0)) (fun _ hk => hk.2) (.slice none 0 0)) (fun _ hk => hk.2) (.slice none 0 0)) (fun _ hk => trivial)⟩, ⟨by first | exact Kd.yV _ _ _ _ _ | exact Kd.jF _ _ _ _ _ | exact Kd.jC _ _ _ _ _ | exact Kd.jE _ _ _ _ _ | exact Kd.jD _ _ _ _ _⟩, ⟨by first | exact Kd.yV _ _ _ _ _ | exact Kd.jF _ _ _ _ _ | exact Kd.jC _ _ _ _ _ | exact Kd.jE _ _ _ _ _ | exact Kd.jD _ _ _ _ _⟩, ⟨by first | exact Kd.jD _ _ _ _ _ | exact Kd.jF _ _ _ _ _ | exact Kd.jC _ _ _ _ _ | exact Kd.jE _ _ _ _ _ | exact Kd.yV _ _ _ _ _⟩, ⟨by (with_reducible repeat first | apply bN | apply bD | apply bA); refine yL ?_ jW.out _; (with_reducible repeat first | apply bN | apply bD | apply bA); refine yL ?_ jW.out _; (with_reducible repeat first | apply bN | apply bD | apply bA); refine yL ?_ jW.out _; (with_reducible repeat first | apply bN | apply bD | apply bA); exact vV.out⟩, ⟨by (with_reducible repeat first | apply bN | apply bD | apply bA); refine vA (cs := #[.slice none 0 0, .slice none 0 0, .slice none 0 0]) ?_ 2 _ rfl; (with_reducible repeat first | apply bN | apply bD | apply bA); refine vA (cs := #[.slice none 0 0, .slice none 0 0, .slice none 0 0]) ?_ 1 _ rfl; (with_reducible repeat first | apply bN | apply bD | apply bA); refine vA (cs := #[.slice none 0 0, .slice none 0 0, .slice none 0 0]) ?_ 0 _ rfl; (with_reducible repeat first | apply bN | apply bD | apply bA); exact qD.out⟩, ⟨eG HB.out⟩⟩
   case round =>
    clear H'; repeat first | clear c1 | clear c2 | clear c2b0 | clear c2b1 | clear p2 | clear c4 | clear c6 | clear c6b0 | clear c6b1 | clear c6b2 | clear c15 | clear zBO | clear zBN | clear zBM | clear zPE | clear zPD | clear zPC | clear zNE | clear zND | clear zNC | clear zBI | clear zBH | clear zBG | clear zON | clear zOM | clear zOL | clear zMY | clear zMX | clear zMW
    obtain ⟨x8_1, vY, qL, vU, yK, qW, jJ, rfl, HA, HK1, zCB, wZ, wU, wS, vV, qD, HB⟩ := hrel
    cases gk with
    | zero => exact absurd HA.out (by simp [zL.l0])
    | succ k1 =>
     have H := HA.out; clear HA; simp only [zL.l0] at H; by_cases c17 : x8_1 < (t464.length : Int)
     ·
      rw [if_pos c17] at H; have c17b0 : decide (x8_1 < (t464.length : Int)) = true := decide_eq_true c17; clear c17; by_cases c18 : 0 ≤ x8_1
      ·
       rw [if_pos c18] at H; have c18b0 : decide (0 ≤ x8_1) = true := decide_eq_true c18; clear c18; replace H := Option.bind_eq_some_iff.mp H; obtain ⟨t471, A190, H⟩ := H; replace H : (if x8_1 = (wrap64 ((t464.length : Int) - 1)) then (zL.j1 k1 t464 t465 x8_1 t471 (!t465) vY qL vU) else (zL.j1 k1 t464 t465 x8_1 t471 false vY qL vU)) = some (r1, r2, r3, r4, r5) := H; have A19 := zA.mk A190; clear A190; have HC20 := zA.mk H; clear H; have p470 : 0 ≤ (x8_1 : Int) := of_decide_eq_true (by first | (with_reducible assumption) | assumption); have q470 : x8_1 < (t464.length : Int) := of_decide_eq_true (by first | (with_reducible assumption) | assumption); obtain ⟨ad470, e470, zVY⟩ := Kd.jU (Kd.wN zCB.out).2.2 x8_1 p470 q470; cases e470; replace p470 := eq_true p470; replace q470 := eq_true q470; go_upto_region 11 with (first | ((with_reducible refine zQ (f := 50) rfl ?_); refine vN (some 41) rfl rfl Tryd.func50 (by kernel_rfl) rfl #[.string (rdOf ByteArray.empty t464 x8_1)] rfl (by (try simp only [List.map_toArray, List.map_cons, List.map_nil]); first | done | rfl | (simp only [List.length_drop, List.length_take]; rfl)) ?_; (with_reducible refine (vX.calls k1 (rdOf ByteArray.empty t464 x8_1) t471 _ A19.out).mono ?_); rintro e w21 ⟨v472, rfl, ho0, hb⟩; refine ⟨_, rfl, ?_⟩; have n0_ := zA.mk (Kd.qO (by (with_reducible repeat (first | apply Kd.zK | apply Kd.zJ | apply Kd.zT)); exact zCB.out) (Kd.qF ho0) hb); have n1_ := zA.mk (Kd.wO (by (with_reducible repeat (first | apply Kd.zK | apply Kd.zJ | apply Kd.zT)); exact wZ.out) hb); have n2_ := zA.mk (Kd.wO (by (with_reducible repeat (first | apply Kd.zK | apply Kd.zJ | apply Kd.zT)); exact wU.out) hb); have n3_ := zA.mk (Kd.zJN (by (with_reducible repeat (first | apply Kd.jM | apply Kd.jL | apply Kd.kF)); exact wS.out) hb); have n4_ := zA.mk (Kd.yD (Kd.yO ho0 (Kd.R_lt (by (with_reducible repeat (first | apply Kd.zK | apply Kd.zJ | apply Kd.zT)); exact zCB.out))) (zD (eG HB.out))); have n5_ := zA.mk (zM (bG vV.out) hb); have n6_ := zA.mk (zM (bG qD.out) hb); have n7_ := zA.mk (zG (eG HB.out) hb); clear zCB; clear wZ; clear wU; clear wS; clear vV; clear qD; clear HB; have zCB := n0_; have wZ := n1_; have wU := n2_; have wS := n3_; have HO473 := n4_; have vV := n5_; have qD := n6_; have HB := n7_; clear n0_ n1_ n2_ n3_ n4_ n5_ n6_ n7_; (try clear hb); (try clear hb2); (try clear hk); (try clear hi); (try clear ho0)))
       (try simp only [Act.put, sIA, sC0, sCS])
       go_cut [50] (fun v50 wc => ∃ (kq : Nat) (x50_19 : Bool), v50 = .bool x50_19 ∧ zA (zL.j1 kq t464 t465 x8_1 t471 x50_19 vY qL vU = some (r1, r2, r3, r4, r5)) ∧ zA (kq ≤ k1) ∧ zA (Kd.R Kd.string 9 wc w.heap.size (fun k_ => some k_ ≠ (v472 : Value).ownBlock) (.slice (some ad470) t464.length co13) t464) ∧ zA (Kd.R Kd.string 9 wc w.heap.size (fun k_ => some k_ ≠ ((.slice (some ad470) t464.length co13) : Value).ownBlock) v472 t471) ∧ zA (Kd.R (Kd.int .i64) 3 wc w.heap.size (fun k_ => some k_ ≠ (qW : Value).ownBlock) yK vY) ∧ zA (Kd.R (Kd.int .i64) 3 wc w.heap.size (fun k_ => some k_ ≠ (yK : Value).ownBlock) qW qL) ∧ zA (Kd.S (Kd.slice 3 (Kd.int .i64)) 22 wc w.heap.size (fun k_ => some k_ ≠ (yK : Value).ownBlock ∧ some k_ ≠ (qW : Value).ownBlock) jJ vU) ∧ zA (wc.heap[yN]? = some (.cells #[(.slice none 0 0), (.slice none 0 0), (.slice none 0 0)] 25 (0, 0))) ∧ zA (wc.heap[jN]? = some (.cells #[yK, qW, jJ] 25 (0, 0))) ∧ zA (Below w.heap.size w wc))
       case first =>
        have H := HC20.out; clear HC20; by_cases c22 : x8_1 = (wrap64 ((t464.length : Int) - 1))
        ·
         rw [if_pos c22] at H; have c22b0 : (x8_1 == (wrap64 ((t464.length : Int) - 1))) = true := beq_iff_eq.mpr c22; have c22b1 : (x8_1 != (wrap64 ((t464.length : Int) - 1))) = false := bne_eq_false_iff_eq.mpr c22; clear c22; (first | rw [c22b0] | (simp only [wX, vB]; rw [c22b0]) | skip)
         have H' := zA.mk H; clear H; go_wp2; go_meet
         case rel => exact ⟨_, (!t465), (by first | rfl | (simp; done) | (simp [*]; done)), H', ⟨by have := HK1.out; first | omega | exact Nat.le_refl _⟩, ⟨by (with_reducible repeat (first | apply Kd.zK | apply Kd.zJ | apply Kd.zT)); exact Kd.vP zCB.out (fun _ hk => hk.2)⟩, ⟨by (with_reducible repeat (first | apply Kd.zK | apply Kd.zJ | apply Kd.zT)); exact Kd.vP HO473.out (fun _ hk => hk.2)⟩, ⟨by (with_reducible repeat (first | apply Kd.zK | apply Kd.zJ | apply Kd.zT)); exact wZ.out⟩, ⟨by (with_reducible repeat (first | apply Kd.zK | apply Kd.zJ | apply Kd.zT)); exact wU.out⟩, ⟨by (with_reducible repeat (first | apply Kd.jM | apply Kd.jL | apply Kd.kF)); exact wS.out⟩, ⟨by (with_reducible repeat first | apply bN | apply bD | apply bA); exact vV.out⟩, ⟨by (with_reducible repeat first | apply bN | apply bD | apply bA); exact qD.out⟩, ⟨eG HB.out⟩⟩
        ·
         rw [if_neg c22] at H; have c22b0 : (x8_1 == (wrap64 ((t464.length : Int) - 1))) = false := beq_eq_false_iff_ne.mpr c22; have c22b1 : (x8_1 != (wrap64 ((t464.length : Int) - 1))) = true := bne_iff_ne.mpr c22; (first | rw [c22b0] | (simp only [wX, vB]; rw [c22b0]) | skip)
         have H' := zA.mk H; clear H; go_wp2; go_meet
         case rel => exact ⟨_, (false), (by first | rfl | (simp; done) | (simp [*]; done)), H', ⟨by have := HK1.out; first | omega | exact Nat.le_refl _⟩, ⟨by (with_reducible repeat (first | apply Kd.zK | apply Kd.zJ | apply Kd.zT)); exact Kd.vP zCB.out (fun _ hk => hk.2)⟩, ⟨by (with_reducible repeat (first | apply Kd.zK | apply Kd.zJ | apply Kd.zT)); exact Kd.vP HO473.out (fun _ hk => hk.2)⟩, ⟨by (with_reducible repeat (first | apply Kd.zK | apply Kd.zJ | apply Kd.zT)); exact wZ.out⟩, ⟨by (with_reducible repeat (first | apply Kd.zK | apply Kd.zJ | apply Kd.zT)); exact wU.out⟩, ⟨by (with_reducible repeat (first | apply Kd.jM | apply Kd.jL | apply Kd.kF)); exact wS.out⟩, ⟨by (with_reducible repeat first | apply bN | apply bD | apply bA); exact vV.out⟩, ⟨by (with_reducible repeat first | apply bN | apply bD | apply bA); exact qD.out⟩, ⟨eG HB.out⟩⟩
       case rest =>
        clear HC20; repeat first | clear c1 | clear c2 | clear c2b0 | clear c2b1 | clear p2 | clear c4 | clear p4 | clear q4 | clear hx4 | clear c5 | clear c6 | clear c6b0 | clear c6b1 | clear c6b2 | clear p6 | clear c15 | clear c17 | clear c17b0 | clear c18 | clear c18b0 | clear c22 | clear c22b0 | clear c22b1 | clear zBO | clear zBN | clear zBM | clear zPE | clear zPD | clear zPC | clear zNE | clear zND | clear zNC | clear zBI | clear zBH | clear zBG | clear zON | clear zOM | clear zOL | clear zMY | clear zMX | clear zMW | clear zVY | clear p2 | clear p470 | clear q470
        obtain ⟨kq, x50_19, rfl, HA, HJ19, zCB, zAJ, wZ, wU, wS, vV, qD, HB⟩ := hcut
        cases kq with
        | zero => exact absurd HA.out (by simp [zL.j1])
        | succ kj19 =>
         have H := HA.out; clear HA; simp only [zL.j1] at H; by_cases c23 : x50_19 = true
         ·
          subst c23; replace H : (some (([] : List Int), ([] : List Int), ([] : List (List Int)), x8_1, 3)) = some (r1, r2, r3, r4, r5) := by rw [if_pos rfl] at H; exact H
          simp only [Option.some.injEq, Prod.mk.injEq] at H; obtain ⟨rfl, rfl, rfl, rfl, rfl⟩ := H; have hnb24 := jW.out; have hnc24 := zAG.out; have zCZ : wc.cell? ⟨yN, 0, none⟩ = some (.slice none 0 0) := (zC vV.out 0).trans rfl; have zFR : wc.cell? ⟨yN, 1, none⟩ = some (.slice none 0 0) := (zC vV.out 1).trans rfl; have zFQ : wc.cell? ⟨yN, 2, none⟩ = some (.slice none 0 0) := (zC vV.out 2).trans rfl; have zCW := zB vV.out 0; have zFN := zB vV.out 1; have zFM := zB vV.out 2; go_wp2; refine bodyPost_ret (yB rfl _ _ yN 25 #[.slice none 0 0, .slice none 0 0, .slice none 0 0] (0, 0) _ rfl (by (with_reducible repeat first | apply bN | apply bD | apply bA); refine vA (cs := #[.slice none 0 0, .slice none 0 0, .slice none 0 0]) ?_ 2 _ rfl; (with_reducible repeat first | apply bN | apply bD | apply bA); refine vA (cs := #[.slice none 0 0, .slice none 0 0, .slice none 0 0]) ?_ 1 _ rfl; (with_reducible repeat first | apply bN | apply bD | apply bA); refine vA (cs := #[.slice none 0 0, .slice none 0 0, .slice none 0 0]) ?_ 0 _ rfl; (with_reducible repeat first | apply bN | apply bD | apply bA); exact vV.out) Tryd.underlying25 rfl (by kernel_rfl)) rfl ?_; exact ⟨_, _, _, by first | rfl | (simp [zI, zH] <;> rfl) | (simp [*, zI, zH] <;> rfl), by first | exact Kd.yV _ _ _ _ _ | exact Kd.jF _ _ _ _ _ | exact Kd.jC _ _ _ _ _ | exact Kd.jE _ _ _ _ _ | exact Kd.jD _ _ _ _ _, by first | exact Kd.yV _ _ _ _ _ | exact Kd.jF _ _ _ _ _ | exact Kd.jC _ _ _ _ _ | exact Kd.jE _ _ _ _ _ | exact Kd.jD _ _ _ _ _, by first | exact Kd.jD _ _ _ _ _ | exact Kd.jF _ _ _ _ _ | exact Kd.jC _ _ _ _ _ | exact Kd.jE _ _ _ _ _ | exact Kd.yV _ _ _ _ _, eG HB.out⟩
         ·
          replace c23 := Bool.eq_false_iff.mpr c23; subst c23; replace H : (if x8_1 = 0 then (if 1 ≤ (t471.length : Int) then ((wM.f kj19 (t471.drop 1)).bind fun bt478 => (if 0 < (t471.length : Int) then (if (rdOf ByteArray.empty t471 0).toList = ([97, 112, 112, 97, 114, 101, 110, 116] : List UInt8) then (if bt478.2 = true then (zL.l0 kj19 t464 t465 (wrap64 (x8_1 + 1)) vY bt478.1 vU) else (some (([] : List Int), ([] : List Int), ([] : List (List Int)), 0, 3))) else (some (([] : List Int), ([] : List Int), ([] : List (List Int)), 0, 3))) else (none))) else (none)) else (if (t471.length : Int) < 2 then (zL.j2 kj19 t464 t465 x8_1 t471 true vY qL vU) else (if 0 < (t471.length : Int) then (zL.j2 kj19 t464 t465 x8_1 t471 ((rdOf ByteArray.empty t471 0).toList != ([104, 101, 97, 116] : List UInt8)) vY qL vU) else (none)))) = some (r1, r2, r3, r4, r5) := by rw [if_neg (show ¬ (false = true) by decide)] at H; exact H
          by_cases c26 : x8_1 = 0
          ·
           rw [if_pos c26] at H; have c26b0 : (x8_1 == 0) = true := beq_iff_eq.mpr c26; have c26b1 : (x8_1 != 0) = false := bne_eq_false_iff_eq.mpr c26; clear c26; by_cases c27 : 1 ≤ (t471.length : Int)
           ·
            rw [if_pos c27] at H; have c27b0 := eq_true c27; have c27b1 : decide (1 ≤ (t471.length : Int)) = true := decide_eq_true c27; clear c27; obtain ⟨y474, hy474⟩ : ∃ y_ : List ByteArray, y_ = (t471.drop 1) := ⟨_, rfl⟩; replace H : ((wM.f kj19 y474).bind fun bt478 => (if 0 < (t471.length : Int) then (if (rdOf ByteArray.empty t471 0).toList = ([97, 112, 112, 97, 114, 101, 110, 116] : List UInt8) then (if bt478.2 = true then (zL.l0 kj19 t464 t465 (wrap64 (x8_1 + 1)) vY bt478.1 vU) else (some (([] : List Int), ([] : List Int), ([] : List (List Int)), 0, 3))) else (some (([] : List Int), ([] : List Int), ([] : List (List Int)), 0, 3))) else (none))) = some (r1, r2, r3, r4, r5) := by first | (rw [hy474]; with_reducible exact H) | (have H2_ := (Option.bind_some _ _).symm.trans H; rw [hy474]; with_reducible exact H2_) | (have H2_ := (Option.bind_some _ _).symm.trans H; with_reducible exact H2_) | with_reducible exact H | (rw [hy474]; exact H) | exact H
            have Ny474 := zA.mk hy474; clear hy474; replace H := Option.bind_eq_some_iff.mp H; obtain ⟨⟨t478, t479⟩, A280, H⟩ := H; replace H : (if 0 < (t471.length : Int) then (if (rdOf ByteArray.empty t471 0).toList = ([97, 112, 112, 97, 114, 101, 110, 116] : List UInt8) then (if t479 = true then (zL.l0 kj19 t464 t465 (wrap64 (x8_1 + 1)) vY t478 vU) else (some (([] : List Int), ([] : List Int), ([] : List (List Int)), 0, 3))) else (some (([] : List Int), ([] : List Int), ([] : List (List Int)), 0, 3))) else (none)) = some (r1, r2, r3, r4, r5) := H; have A28 := zA.mk A280; clear A280; by_cases c29 : 0 < (t471.length : Int)
            ·
             rw [if_pos c29] at H; have c29b0 : decide (0 < (t471.length : Int)) = true := decide_eq_true c29; have c29b1 : decide (0 < t471.length) = true := decide_eq_true (by omega); clear c29; by_cases c30 : (rdOf ByteArray.empty t471 0).toList = ([97, 112, 112, 97, 114, 101, 110, 116] : List UInt8)
             ·
              rw [if_pos c30] at H; have c30b0 : ((rdOf ByteArray.empty t471 0).toList == ([97, 112, 112, 97, 114, 101, 110, 116] : List UInt8)) = true := beq_iff_eq.mpr c30; have c30b1 : ((rdOf ByteArray.empty t471 0).toList != ([97, 112, 112, 97, 114, 101, 110, 116] : List UInt8)) = false := bne_eq_false_iff_eq.mpr c30; clear c30; by_cases c31 : t479 = true
              ·
               subst c31; replace H : (zL.l0 kj19 t464 t465 (wrap64 (x8_1 + 1)) vY t478 vU) = some (r1, r2, r3, r4, r5) := by rw [if_pos rfl] at H; exact H
               have H' := zA.mk H; clear H; obtain ⟨Ao33, co33, eo33⟩ := Kd.qQ zAJ.out; subst eo33; have q32 : (1 : Int) ≤ ((t471.length : Int) : Int) := of_decide_eq_true (by first | (with_reducible assumption) | assumption); obtain ⟨i032, hi032, _, hsz32, _⟩ := info_parts zFJ; have hroom32 : t471.length ≤ co33 := (Kd.wN zAJ.out).2.1; have hC32 : Kd.C Kd.string _ Ao33 t471.length t471 := (Kd.wN zAJ.out).2.2; have hcut32 := zAD (P := Tryd.prog) 65 9 .i64 Tryd.underlying65 hi032 1 hsz32 Ao33 t471.length co33 1 (by omega) q32; have hr32 := Kd.zIA (m := (1 : Int).toNat) (c := co33) hC32 (by omega) hroom32; obtain ⟨A32, hA32⟩ : ∃ A1, A1 = (if co33 = (1 : Int).toNat then Ao33 else (Ao33 : Option Addr).map (·.add ((1 : Int).toNat * 1))) := ⟨_, rfl⟩; obtain ⟨c32, hc32⟩ : ∃ c1, c1 = co33 - (1 : Int).toNat := ⟨_, rfl⟩; have hy32 : y474.length = t471.length - (1 : Int).toNat := (by rw [Ny474.out, List.length_drop] <;> omega); rw [show (t471).drop (1 : Int).toNat = y474 from Ny474.out.symm] at hr32; replace hr32 : Kd.C Kd.string _ A32 y474.length y474 := (by rw [hA32]; exact hr32); rw [← hy32, ← hA32, ← hc32] at hcut32; have HR477 := zA.mk hr32; have HC477 := zA.mk (show y474.length ≤ c32 from by rw [hy32, hc32]; exact Nat.sub_le_sub_right hroom32 _); clear hr32 hC32 hroom32 hi032 hsz32 hc32; have KY32 := zA.mk hy32; have KA32 := zA.mk hA32; clear hy32 hA32; have KL32 := zA.mk (show 1 ≤ t471.length from by omega); replace q32 := eq_true q32; go_wp2_with (first | ((with_reducible refine zQ (f := 51) rfl ?_); refine vN (some 58) rfl rfl Tryd.func51 (by kernel_rfl) rfl #[.slice A32 y474.length c32] rfl (by (try simp only [List.map_toArray, List.map_cons, List.map_nil]); first | done | rfl | (simp only [List.length_drop, List.length_take]; rfl)) ?_; (with_reducible refine (wM.calls kj19 _ _ y474 t478 true _ ?side1 ?side2 A28.out).mono ?_); (case side1 => repeat (first | exact (by repeat (first | (with_reducible exact HR477.out) | (with_reducible refine Kd.zP ?_ _) | (with_reducible refine Kd.zO ?_ _) | (with_reducible refine Kd.zY ?_) | exact HR477.out)) | (with_reducible refine Kd.zP ?_ _) | (with_reducible refine Kd.zO ?_ _) | (with_reducible refine Kd.zY ?_))); (case side2 => exact HC477.out); rintro e w34 ⟨v480, rfl, ho0, hb⟩; refine ⟨_, rfl, ?_⟩; have n0_ := zA.mk (Kd.wO (by (with_reducible repeat (first | apply Kd.zK | apply Kd.zJ | apply Kd.zT)); exact zCB.out) hb); have n1_ := zA.mk (Kd.wO (by (with_reducible repeat (first | apply Kd.zK | apply Kd.zJ | apply Kd.zT)); exact zAJ.out) hb); have n2_ := zA.mk (Kd.qO (by (with_reducible repeat (first | apply Kd.zK | apply Kd.zJ | apply Kd.zT)); exact wZ.out) (Kd.qF ho0) hb); have n3_ := zA.mk (Kd.qO (by (with_reducible repeat (first | apply Kd.zK | apply Kd.zJ | apply Kd.zT)); exact wU.out) (Kd.qF ho0) hb); have n4_ := zA.mk (Kd.zGM (by (with_reducible repeat (first | apply Kd.jM | apply Kd.jL | apply Kd.kF)); exact wS.out) (Kd.qF ho0) hb); have n5_ := zA.mk (Kd.yD (Kd.yO (Kd.yO ho0 (Kd.R_lt (by (with_reducible repeat (first | apply Kd.zK | apply Kd.zJ | apply Kd.zT)); exact wZ.out))) (Kd.R_lt (by (with_reducible repeat (first | apply Kd.zK | apply Kd.zJ | apply Kd.zT)); exact wU.out))) (zD (eG HB.out))); have n6_ := zA.mk (zM (bG vV.out) hb); have n7_ := zA.mk (zM (bG qD.out) hb); have n8_ := zA.mk (Kd.zX (by repeat (first | (with_reducible exact HR477.out) | (with_reducible refine Kd.zP ?_ _) | (with_reducible refine Kd.zO ?_ _) | (with_reducible refine Kd.zY ?_) | exact HR477.out)) hb); have n9_ := zA.mk (zG (eG HB.out) hb); clear zCB; clear zAJ; clear wZ; clear wU; clear wS; clear vV; clear qD; clear HR477; clear HB; have zCB := n0_; have zAJ := n1_; have wZ := n2_; have wU := n3_; have wS := n4_; have HO481 := n5_; have vV := n6_; have qD := n7_; have HR477 := n8_; have HB := n9_; clear n0_ n1_ n2_ n3_ n4_ n5_ n6_ n7_ n8_ n9_; (try clear hb); (try clear hb2); (try clear hk); (try clear hi); (try clear ho0); have p482 : 0 ≤ (0 : Int) := (by omega); have q482 : 0 < (t471.length : Int) := of_decide_eq_true (by first | (with_reducible assumption) | assumption); obtain ⟨ad482, e482, zEQ⟩ := Kd.jU (Kd.wN zAJ.out).2.2 0 p482 q482; cases e482; have qi482 : (0 < t471.length) = True := eq_true (by omega); (try rw [show ((0 : Int)).toNat = 0 from rfl] at zEQ); (try rw [Addr.add_zero'] at zEQ); replace p482 := eq_true p482; replace q482 := eq_true q482; obtain ⟨Ao35, co35, eo35⟩ := Kd.qQ HO481.out; subst eo35; have hnb36 := zAG.out; have hnc36 := jW.out; have zSQ : w34.cell? ⟨jN, 0, none⟩ = some (yK) := (zC qD.out 0).trans rfl; have zSP : w34.cell? ⟨jN, 1, none⟩ = some (qW) := (zC qD.out 1).trans rfl; have zXF : w34.cell? ⟨jN, 2, none⟩ = some (jJ) := (zC qD.out 2).trans rfl; have zSH := zB qD.out 0; have zSG := zB qD.out 1; have zWO := zB qD.out 2))
               go_roundg kj19
               case measure => have := HK1.out; have := HJ19.out; omega
               case rel => exact ⟨(wrap64 (x8_1 + 1)), (vY), (t478), (vU), (yK), (.slice Ao35 t478.length co35), (jJ), (by first | rfl | (simp; done) | (simp [*]; done)), H', ⟨by have := HK1.out; have := HJ19.out; omega⟩, ⟨by (with_reducible repeat (first | apply Kd.zK | apply Kd.zJ | apply Kd.zT)); exact Kd.vP (Kd.qR (p := ⟨jN, 1, none⟩) (Kd.qE zCB.out qD.out (by decide)) (fun _ hk => hk.2) (.slice Ao35 t478.length co35)) (fun _ hk => trivial)⟩, ⟨by (with_reducible repeat (first | apply Kd.zK | apply Kd.zJ | apply Kd.zT)); exact Kd.vP (Kd.qR (p := ⟨jN, 1, none⟩) (Kd.qE wZ.out qD.out (by decide)) (fun _ hk => hk.2) (.slice Ao35 t478.length co35)) (fun _ hk => hk.1.2)⟩, ⟨by (with_reducible repeat (first | apply Kd.zK | apply Kd.zJ | apply Kd.zT)); exact Kd.vP (Kd.qR (p := ⟨jN, 1, none⟩) (Kd.qE HO481.out qD.out (by decide)) (fun _ hk => hk.2) (.slice Ao35 t478.length co35)) (fun _ hk => hk.1.1.2)⟩, ⟨by (with_reducible repeat (first | apply Kd.jM | apply Kd.jL | apply Kd.kF)); exact Kd.zMD (Kd.zUR (p := ⟨jN, 1, none⟩) (Kd.zPP wS.out qD.out (by decide)) (fun _ hk => hk.2) (.slice Ao35 t478.length co35)) (fun _ hk => ⟨hk.1.1.1, hk.1.2⟩)⟩, ⟨by (with_reducible repeat first | apply bN | apply bD | apply bA); refine yL ?_ jW.out _; (with_reducible repeat first | apply bN | apply bD | apply bA); exact vV.out⟩, ⟨by (with_reducible repeat first | apply bN | apply bD | apply bA); refine vA (cs := #[yK, qW, jJ]) ?_ 1 _ rfl; (with_reducible repeat first | apply bN | apply bD | apply bA); exact qD.out⟩, ⟨eG HB.out⟩⟩
              ·
               replace c31 := Bool.eq_false_iff.mpr c31; subst c31; replace H : (some (([] : List Int), ([] : List Int), ([] : List (List Int)), 0, 3)) = some (r1, r2, r3, r4, r5) := by rw [if_neg (show ¬ (false = true) by decide)] at H; exact H
               simp only [Option.some.injEq, Prod.mk.injEq] at H; obtain ⟨rfl, rfl, rfl, rfl, rfl⟩ := H; obtain ⟨Ao39, co39, eo39⟩ := Kd.qQ zAJ.out; subst eo39; have q38 : (1 : Int) ≤ ((t471.length : Int) : Int) := of_decide_eq_true (by first | (with_reducible assumption) | assumption); obtain ⟨i038, hi038, _, hsz38, _⟩ := info_parts zFJ; have hroom38 : t471.length ≤ co39 := (Kd.wN zAJ.out).2.1; have hC38 : Kd.C Kd.string _ Ao39 t471.length t471 := (Kd.wN zAJ.out).2.2; have hcut38 := zAD (P := Tryd.prog) 65 9 .i64 Tryd.underlying65 hi038 1 hsz38 Ao39 t471.length co39 1 (by omega) q38; have hr38 := Kd.zIA (m := (1 : Int).toNat) (c := co39) hC38 (by omega) hroom38; obtain ⟨A38, hA38⟩ : ∃ A1, A1 = (if co39 = (1 : Int).toNat then Ao39 else (Ao39 : Option Addr).map (·.add ((1 : Int).toNat * 1))) := ⟨_, rfl⟩; obtain ⟨c38, hc38⟩ : ∃ c1, c1 = co39 - (1 : Int).toNat := ⟨_, rfl⟩; have hy38 : y474.length = t471.length - (1 : Int).toNat := (by rw [Ny474.out, List.length_drop] <;> omega); rw [show (t471).drop (1 : Int).toNat = y474 from Ny474.out.symm] at hr38; replace hr38 : Kd.C Kd.string _ A38 y474.length y474 := (by rw [hA38]; exact hr38); rw [← hy38, ← hA38, ← hc38] at hcut38; have HR477 := zA.mk hr38; have HC477 := zA.mk (show y474.length ≤ c38 from by rw [hy38, hc38]; exact Nat.sub_le_sub_right hroom38 _); clear hr38 hC38 hroom38 hi038 hsz38 hc38; have KY38 := zA.mk hy38; have KA38 := zA.mk hA38; clear hy38 hA38; have KL38 := zA.mk (show 1 ≤ t471.length from by omega); replace q38 := eq_true q38; go_wp2_with (first | ((with_reducible refine zQ (f := 51) rfl ?_); refine vN (some 58) rfl rfl Tryd.func51 (by kernel_rfl) rfl #[.slice A38 y474.length c38] rfl (by (try simp only [List.map_toArray, List.map_cons, List.map_nil]); first | done | rfl | (simp only [List.length_drop, List.length_take]; rfl)) ?_; (with_reducible refine (wM.calls kj19 _ _ y474 t478 false _ ?side1 ?side2 A28.out).mono ?_); (case side1 => repeat (first | exact (by repeat (first | (with_reducible exact HR477.out) | (with_reducible refine Kd.zP ?_ _) | (with_reducible refine Kd.zO ?_ _) | (with_reducible refine Kd.zY ?_) | exact HR477.out)) | (with_reducible refine Kd.zP ?_ _) | (with_reducible refine Kd.zO ?_ _) | (with_reducible refine Kd.zY ?_))); (case side2 => exact HC477.out); rintro e w40 ⟨v480, rfl, ho0, hb⟩; refine ⟨_, rfl, ?_⟩; have n0_ := zA.mk (Kd.wO (by (with_reducible repeat (first | apply Kd.zK | apply Kd.zJ | apply Kd.zT)); exact zCB.out) hb); have n1_ := zA.mk (Kd.wO (by (with_reducible repeat (first | apply Kd.zK | apply Kd.zJ | apply Kd.zT)); exact zAJ.out) hb); have n2_ := zA.mk (Kd.qO (by (with_reducible repeat (first | apply Kd.zK | apply Kd.zJ | apply Kd.zT)); exact wZ.out) (Kd.qF ho0) hb); have n3_ := zA.mk (Kd.qO (by (with_reducible repeat (first | apply Kd.zK | apply Kd.zJ | apply Kd.zT)); exact wU.out) (Kd.qF ho0) hb); have n4_ := zA.mk (Kd.zGM (by (with_reducible repeat (first | apply Kd.jM | apply Kd.jL | apply Kd.kF)); exact wS.out) (Kd.qF ho0) hb); have n5_ := zA.mk (Kd.yD (Kd.yO (Kd.yO ho0 (Kd.R_lt (by (with_reducible repeat (first | apply Kd.zK | apply Kd.zJ | apply Kd.zT)); exact wZ.out))) (Kd.R_lt (by (with_reducible repeat (first | apply Kd.zK | apply Kd.zJ | apply Kd.zT)); exact wU.out))) (zD (eG HB.out))); have n6_ := zA.mk (zM (bG vV.out) hb); have n7_ := zA.mk (zM (bG qD.out) hb); have n8_ := zA.mk (Kd.zX (by repeat (first | (with_reducible exact HR477.out) | (with_reducible refine Kd.zP ?_ _) | (with_reducible refine Kd.zO ?_ _) | (with_reducible refine Kd.zY ?_) | exact HR477.out)) hb); have n9_ := zA.mk (zG (eG HB.out) hb); clear zCB; clear zAJ; clear wZ; clear wU; clear wS; clear vV; clear qD; clear HR477; clear HB; have zCB := n0_; have zAJ := n1_; have wZ := n2_; have wU := n3_; have wS := n4_; have HO481 := n5_; have vV := n6_; have qD := n7_; have HR477 := n8_; have HB := n9_; clear n0_ n1_ n2_ n3_ n4_ n5_ n6_ n7_ n8_ n9_; (try clear hb); (try clear hb2); (try clear hk); (try clear hi); (try clear ho0); have p482 : 0 ≤ (0 : Int) := (by omega); have q482 : 0 < (t471.length : Int) := of_decide_eq_true (by first | (with_reducible assumption) | assumption); obtain ⟨ad482, e482, zEQ⟩ := Kd.jU (Kd.wN zAJ.out).2.2 0 p482 q482; cases e482; have qi482 : (0 < t471.length) = True := eq_true (by omega); (try rw [show ((0 : Int)).toNat = 0 from rfl] at zEQ); (try rw [Addr.add_zero'] at zEQ); replace p482 := eq_true p482; replace q482 := eq_true q482; have hnb41 := jW.out; have hnc41 := zAG.out; have zOT : w40.cell? ⟨yN, 0, none⟩ = some (.slice none 0 0) := (zC vV.out 0).trans rfl; have zOS : w40.cell? ⟨yN, 1, none⟩ = some (.slice none 0 0) := (zC vV.out 1).trans rfl; have zOR : w40.cell? ⟨yN, 2, none⟩ = some (.slice none 0 0) := (zC vV.out 2).trans rfl; have zOC := zB vV.out 0; have zOB := zB vV.out 1; have zOA := zB vV.out 2))
               refine bodyPost_ret (yB rfl _ _ yN 25 #[.slice none 0 0, .slice none 0 0, .slice none 0 0] (0, 0) _ rfl (by (with_reducible repeat first | apply bN | apply bD | apply bA); refine vA (cs := #[.slice none 0 0, .slice none 0 0, .slice none 0 0]) ?_ 2 _ rfl; (with_reducible repeat first | apply bN | apply bD | apply bA); refine vA (cs := #[.slice none 0 0, .slice none 0 0, .slice none 0 0]) ?_ 1 _ rfl; (with_reducible repeat first | apply bN | apply bD | apply bA); refine vA (cs := #[.slice none 0 0, .slice none 0 0, .slice none 0 0]) ?_ 0 _ rfl; (with_reducible repeat first | apply bN | apply bD | apply bA); exact vV.out) Tryd.underlying25 rfl (by kernel_rfl)) rfl ?_; exact ⟨_, _, _, by first | rfl | (simp [zI, zH] <;> rfl) | (simp [*, zI, zH] <;> rfl), by first | exact Kd.yV _ _ _ _ _ | exact Kd.jF _ _ _ _ _ | exact Kd.jC _ _ _ _ _ | exact Kd.jE _ _ _ _ _ | exact Kd.jD _ _ _ _ _, by first | exact Kd.yV _ _ _ _ _ | exact Kd.jF _ _ _ _ _ | exact Kd.jC _ _ _ _ _ | exact Kd.jE _ _ _ _ _ | exact Kd.jD _ _ _ _ _, by first | exact Kd.jD _ _ _ _ _ | exact Kd.jF _ _ _ _ _ | exact Kd.jC _ _ _ _ _ | exact Kd.jE _ _ _ _ _ | exact Kd.yV _ _ _ _ _, eG HB.out⟩
             ·
              rw [if_neg c30] at H; have c30b0 : ((rdOf ByteArray.empty t471 0).toList == ([97, 112, 112, 97, 114, 101, 110, 116] : List UInt8)) = false := beq_eq_false_iff_ne.mpr c30; have c30b1 : ((rdOf ByteArray.empty t471 0).toList != ([97, 112, 112, 97, 114, 101, 110, 116] : List UInt8)) = true := bne_iff_ne.mpr c30; simp only [Option.some.injEq, Prod.mk.injEq] at H; obtain ⟨rfl, rfl, rfl, rfl, rfl⟩ := H; obtain ⟨Ao44, co44, eo44⟩ := Kd.qQ zAJ.out; subst eo44; have q43 : (1 : Int) ≤ ((t471.length : Int) : Int) := of_decide_eq_true (by first | (with_reducible assumption) | assumption); obtain ⟨i043, hi043, _, hsz43, _⟩ := info_parts zFJ; have hroom43 : t471.length ≤ co44 := (Kd.wN zAJ.out).2.1; have hC43 : Kd.C Kd.string _ Ao44 t471.length t471 := (Kd.wN zAJ.out).2.2; have hcut43 := zAD (P := Tryd.prog) 65 9 .i64 Tryd.underlying65 hi043 1 hsz43 Ao44 t471.length co44 1 (by omega) q43; have hr43 := Kd.zIA (m := (1 : Int).toNat) (c := co44) hC43 (by omega) hroom43; obtain ⟨A43, hA43⟩ : ∃ A1, A1 = (if co44 = (1 : Int).toNat then Ao44 else (Ao44 : Option Addr).map (·.add ((1 : Int).toNat * 1))) := ⟨_, rfl⟩; obtain ⟨c43, hc43⟩ : ∃ c1, c1 = co44 - (1 : Int).toNat := ⟨_, rfl⟩; have hy43 : y474.length = t471.length - (1 : Int).toNat := (by rw [Ny474.out, List.length_drop] <;> omega); rw [show (t471).drop (1 : Int).toNat = y474 from Ny474.out.symm] at hr43; replace hr43 : Kd.C Kd.string _ A43 y474.length y474 := (by rw [hA43]; exact hr43); rw [← hy43, ← hA43, ← hc43] at hcut43; have HR477 := zA.mk hr43; have HC477 := zA.mk (show y474.length ≤ c43 from by rw [hy43, hc43]; exact Nat.sub_le_sub_right hroom43 _); clear hr43 hC43 hroom43 hi043 hsz43 hc43; have KY43 := zA.mk hy43; have KA43 := zA.mk hA43; clear hy43 hA43; have KL43 := zA.mk (show 1 ≤ t471.length from by omega); replace q43 := eq_true q43; go_wp2_with (first | ((with_reducible refine zQ (f := 51) rfl ?_); refine vN (some 58) rfl rfl Tryd.func51 (by kernel_rfl) rfl #[.slice A43 y474.length c43] rfl (by (try simp only [List.map_toArray, List.map_cons, List.map_nil]); first | done | rfl | (simp only [List.length_drop, List.length_take]; rfl)) ?_; (with_reducible refine (wM.calls kj19 _ _ y474 t478 t479 _ ?side1 ?side2 A28.out).mono ?_); (case side1 => repeat (first | exact (by repeat (first | (with_reducible exact HR477.out) | (with_reducible refine Kd.zP ?_ _) | (with_reducible refine Kd.zO ?_ _) | (with_reducible refine Kd.zY ?_) | exact HR477.out)) | (with_reducible refine Kd.zP ?_ _) | (with_reducible refine Kd.zO ?_ _) | (with_reducible refine Kd.zY ?_))); (case side2 => exact HC477.out); rintro e w45 ⟨v480, rfl, ho0, hb⟩; refine ⟨_, rfl, ?_⟩; have n0_ := zA.mk (Kd.wO (by (with_reducible repeat (first | apply Kd.zK | apply Kd.zJ | apply Kd.zT)); exact zCB.out) hb); have n1_ := zA.mk (Kd.wO (by (with_reducible repeat (first | apply Kd.zK | apply Kd.zJ | apply Kd.zT)); exact zAJ.out) hb); have n2_ := zA.mk (Kd.qO (by (with_reducible repeat (first | apply Kd.zK | apply Kd.zJ | apply Kd.zT)); exact wZ.out) (Kd.qF ho0) hb); have n3_ := zA.mk (Kd.qO (by (with_reducible repeat (first | apply Kd.zK | apply Kd.zJ | apply Kd.zT)); exact wU.out) (Kd.qF ho0) hb); have n4_ := zA.mk (Kd.zGM (by (with_reducible repeat (first | apply Kd.jM | apply Kd.jL | apply Kd.kF)); exact wS.out) (Kd.qF ho0) hb); have n5_ := zA.mk (Kd.yD (Kd.yO (Kd.yO ho0 (Kd.R_lt (by (with_reducible repeat (first | apply Kd.zK | apply Kd.zJ | apply Kd.zT)); exact wZ.out))) (Kd.R_lt (by (with_reducible repeat (first | apply Kd.zK | apply Kd.zJ | apply Kd.zT)); exact wU.out))) (zD (eG HB.out))); have n6_ := zA.mk (zM (bG vV.out) hb); have n7_ := zA.mk (zM (bG qD.out) hb); have n8_ := zA.mk (Kd.zX (by repeat (first | (with_reducible exact HR477.out) | (with_reducible refine Kd.zP ?_ _) | (with_reducible refine Kd.zO ?_ _) | (with_reducible refine Kd.zY ?_) | exact HR477.out)) hb); have n9_ := zA.mk (zG (eG HB.out) hb); clear zCB; clear zAJ; clear wZ; clear wU; clear wS; clear vV; clear qD; clear HR477; clear HB; have zCB := n0_; have zAJ := n1_; have wZ := n2_; have wU := n3_; have wS := n4_; have HO481 := n5_; have vV := n6_; have qD := n7_; have HR477 := n8_; have HB := n9_; clear n0_ n1_ n2_ n3_ n4_ n5_ n6_ n7_ n8_ n9_; (try clear hb); (try clear hb2); (try clear hk); (try clear hi); (try clear ho0); have p482 : 0 ≤ (0 : Int) := (by omega); have q482 : 0 < (t471.length : Int) := of_decide_eq_true (by first | (with_reducible assumption) | assumption); obtain ⟨ad482, e482, zEQ⟩ := Kd.jU (Kd.wN zAJ.out).2.2 0 p482 q482; cases e482; have qi482 : (0 < t471.length) = True := eq_true (by omega); (try rw [show ((0 : Int)).toNat = 0 from rfl] at zEQ); (try rw [Addr.add_zero'] at zEQ); replace p482 := eq_true p482; replace q482 := eq_true q482; have hnb46 := jW.out; have hnc46 := zAG.out; have zXC : w45.cell? ⟨yN, 0, none⟩ = some (.slice none 0 0) := (zC vV.out 0).trans rfl; have zXB : w45.cell? ⟨yN, 1, none⟩ = some (.slice none 0 0) := (zC vV.out 1).trans rfl; have zXA : w45.cell? ⟨yN, 2, none⟩ = some (.slice none 0 0) := (zC vV.out 2).trans rfl; have zWL := zB vV.out 0; have zWK := zB vV.out 1; have zWJ := zB vV.out 2))
              refine bodyPost_ret (yB rfl _ _ yN 25 #[.slice none 0 0, .slice none 0 0, .slice none 0 0] (0, 0) _ rfl (by (with_reducible repeat first | apply bN | apply bD | apply bA); refine vA (cs := #[.slice none 0 0, .slice none 0 0, .slice none 0 0]) ?_ 2 _ rfl; (with_reducible repeat first | apply bN | apply bD | apply bA); refine vA (cs := #[.slice none 0 0, .slice none 0 0, .slice none 0 0]) ?_ 1 _ rfl; (with_reducible repeat first | apply bN | apply bD | apply bA); refine vA (cs := #[.slice none 0 0, .slice none 0 0, .slice none 0 0]) ?_ 0 _ rfl; (with_reducible repeat first | apply bN | apply bD | apply bA); exact vV.out) Tryd.underlying25 rfl (by kernel_rfl)) rfl ?_; exact ⟨_, _, _, by first | rfl | (simp [zI, zH] <;> rfl) | (simp [*, zI, zH] <;> rfl), by first | exact Kd.yV _ _ _ _ _ | exact Kd.jF _ _ _ _ _ | exact Kd.jC _ _ _ _ _ | exact Kd.jE _ _ _ _ _ | exact Kd.jD _ _ _ _ _, by first | exact Kd.yV _ _ _ _ _ | exact Kd.jF _ _ _ _ _ | exact Kd.jC _ _ _ _ _ | exact Kd.jE _ _ _ _ _ | exact Kd.jD _ _ _ _ _, by first | exact Kd.jD _ _ _ _ _ | exact Kd.jF _ _ _ _ _ | exact Kd.jC _ _ _ _ _ | exact Kd.jE _ _ _ _ _ | exact Kd.yV _ _ _ _ _, eG HB.out⟩
            · rw [if_neg c29] at H; exact absurd H (by simp)
           · rw [if_neg c27] at H; exact absurd H (by simp)
          ·
           rw [if_neg c26] at H; have c26b0 : (x8_1 == 0) = false := beq_eq_false_iff_ne.mpr c26; have c26b1 : (x8_1 != 0) = true := bne_iff_ne.mpr c26; have HC48 := zA.mk H; clear H; go_upto_region 18 with (fail)
           go_cut [80] (fun v80 wc => ∃ (kq : Nat) (x80_47 : Bool), v80 = .bool x80_47 ∧ zA (zL.j2 kq t464 t465 x8_1 t471 x80_47 vY qL vU = some (r1, r2, r3, r4, r5)) ∧ zA (kq ≤ kj19) ∧ zA (Kd.R Kd.string 9 wc w.heap.size (fun k_ => some k_ ≠ (v472 : Value).ownBlock) (.slice (some ad470) t464.length co13) t464) ∧ zA (Kd.R Kd.string 9 wc w.heap.size (fun k_ => some k_ ≠ ((.slice (some ad470) t464.length co13) : Value).ownBlock) v472 t471) ∧ zA (Kd.R (Kd.int .i64) 3 wc w.heap.size (fun k_ => some k_ ≠ (qW : Value).ownBlock) yK vY) ∧ zA (Kd.R (Kd.int .i64) 3 wc w.heap.size (fun k_ => some k_ ≠ (yK : Value).ownBlock) qW qL) ∧ zA (Kd.S (Kd.slice 3 (Kd.int .i64)) 22 wc w.heap.size (fun k_ => some k_ ≠ (yK : Value).ownBlock ∧ some k_ ≠ (qW : Value).ownBlock) jJ vU) ∧ zA (wc.heap[yN]? = some (.cells #[(.slice none 0 0), (.slice none 0 0), (.slice none 0 0)] 25 (0, 0))) ∧ zA (wc.heap[jN]? = some (.cells #[yK, qW, jJ] 25 (0, 0))) ∧ zA (Below w.heap.size w wc))
           case first =>
            have H := HC48.out; clear HC48; by_cases c49 : (t471.length : Int) < 2
            ·
             rw [if_pos c49] at H; have c49b0 : decide ((t471.length : Int) < 2) = true := decide_eq_true c49; have c49b1 : decide (t471.length < 2) = true := decide_eq_true (by omega); clear c49; (first | rw [c49b0] | (simp only [wX, vB]; rw [c49b0]) | skip)
             have H' := zA.mk H; clear H; obtain ⟨Ao50, co50, eo50⟩ := Kd.qQ zAJ.out; subst eo50; go_wp2; go_meet
             case rel => exact ⟨_, (true), (by first | rfl | (simp; done) | (simp [*]; done)), H', ⟨by have := HK1.out; have := HJ19.out; first | omega | exact Nat.le_refl _⟩, ⟨by (with_reducible repeat (first | apply Kd.zK | apply Kd.zJ | apply Kd.zT)); exact zCB.out⟩, ⟨by (with_reducible repeat (first | apply Kd.zK | apply Kd.zJ | apply Kd.zT)); exact zAJ.out⟩, ⟨by (with_reducible repeat (first | apply Kd.zK | apply Kd.zJ | apply Kd.zT)); exact wZ.out⟩, ⟨by (with_reducible repeat (first | apply Kd.zK | apply Kd.zJ | apply Kd.zT)); exact wU.out⟩, ⟨by (with_reducible repeat (first | apply Kd.jM | apply Kd.jL | apply Kd.kF)); exact wS.out⟩, ⟨by (with_reducible repeat first | apply bN | apply bD | apply bA); exact vV.out⟩, ⟨by (with_reducible repeat first | apply bN | apply bD | apply bA); exact qD.out⟩, ⟨eG HB.out⟩⟩
            ·
             rw [if_neg c49] at H; have c49b0 : decide ((t471.length : Int) < 2) = false := decide_eq_false c49; have c49b1 : decide (t471.length < 2) = false := decide_eq_false (by omega); clear c49; (first | rw [c49b0] | (simp only [wX, vB]; rw [c49b0]) | skip)
             by_cases c51 : 0 < (t471.length : Int)
             ·
              rw [if_pos c51] at H; have c51b0 : decide (0 < (t471.length : Int)) = true := decide_eq_true c51; have c51b1 : decide (0 < t471.length) = true := decide_eq_true (by omega); clear c51; have H' := zA.mk H; clear H; obtain ⟨Ao52, co52, eo52⟩ := Kd.qQ zAJ.out; subst eo52; have p483 : 0 ≤ (0 : Int) := (by omega); have q483 : 0 < (t471.length : Int) := of_decide_eq_true (by first | (with_reducible assumption) | assumption); obtain ⟨ad483, e483, zSB⟩ := Kd.jU (Kd.wN zAJ.out).2.2 0 p483 q483; cases e483; have qi483 : (0 < t471.length) = True := eq_true (by omega); (try rw [show ((0 : Int)).toNat = 0 from rfl] at zSB)
              (try rw [Addr.add_zero'] at zSB)
              replace p483 := eq_true p483; replace q483 := eq_true q483; go_wp2; go_meet
              case rel => exact ⟨_, (((rdOf ByteArray.empty t471 0).toList != ([104, 101, 97, 116] : List UInt8))), (by first | rfl | (simp; done) | (simp [*]; done)), H', ⟨by have := HK1.out; have := HJ19.out; first | omega | exact Nat.le_refl _⟩, ⟨by (with_reducible repeat (first | apply Kd.zK | apply Kd.zJ | apply Kd.zT)); exact zCB.out⟩, ⟨by (with_reducible repeat (first | apply Kd.zK | apply Kd.zJ | apply Kd.zT)); exact zAJ.out⟩, ⟨by (with_reducible repeat (first | apply Kd.zK | apply Kd.zJ | apply Kd.zT)); exact wZ.out⟩, ⟨by (with_reducible repeat (first | apply Kd.zK | apply Kd.zJ | apply Kd.zT)); exact wU.out⟩, ⟨by (with_reducible repeat (first | apply Kd.jM | apply Kd.jL | apply Kd.kF)); exact wS.out⟩, ⟨by (with_reducible repeat first | apply bN | apply bD | apply bA); exact vV.out⟩, ⟨by (with_reducible repeat first | apply bN | apply bD | apply bA); exact qD.out⟩, ⟨eG HB.out⟩⟩
             · rw [if_neg c51] at H; exact absurd H (by simp)
           case rest =>
            clear HC48; repeat first | clear c1 | clear c2 | clear c2b0 | clear c2b1 | clear p2 | clear c3 | clear q3 | clear c4 | clear p4 | clear q4 | clear hx4 | clear qi4 | clear c5 | clear c6 | clear c6b0 | clear c6b1 | clear c6b2 | clear p6 | clear c15 | clear c17 | clear c17b0 | clear c18 | clear c18b0 | clear c22 | clear c22b0 | clear c22b1 | clear c23 | clear c24 | clear c26 | clear c26b0 | clear c26b1 | clear c27 | clear c27b0 | clear c27b1 | clear c29 | clear c29b0 | clear c29b1 | clear c30 | clear c30b0 | clear c30b1 | clear c31 | clear c32 | clear q32 | clear c36 | clear c38 | clear q38 | clear c41 | clear c43 | clear q43 | clear c46 | clear p47 | clear q47 | clear hx47 | clear p48 | clear q48 | clear hx48 | clear qi48 | clear c49 | clear c49b0 | clear c49b1 | clear c50 | clear c51 | clear c51b0 | clear c51b1 | clear zBO | clear zBN | clear zBM | clear zPE | clear zPD | clear zPC | clear zCZ | clear zFR | clear zFQ | clear zSQ | clear zSP | clear zXF | clear zOT | clear zOS | clear zOR | clear zXC | clear zXB | clear zXA | clear zNE | clear zND | clear zNC | clear zBI | clear zBH | clear zBG | clear zON | clear zOM | clear zOL | clear zCW | clear zFN | clear zFM | clear zSH | clear zSG | clear zWO | clear zOC | clear zOB | clear zOA | clear zWL | clear zWK | clear zWJ | clear zMY | clear zMX | clear zMW | clear zVY | clear zEQ | clear zSB | clear p2 | clear p4 | clear p470 | clear p482 | clear p483 | clear p6 | clear q32 | clear q38 | clear q4 | clear q43 | clear q470 | clear q482 | clear q483
            obtain ⟨kq, x80_47, rfl, HA, HJ47, zCB, zAJ, wZ, wU, wS, vV, qD, HB⟩ := hcut
            cases kq with
            | zero => exact absurd HA.out (by simp [zL.j2])
            | succ kj47 =>
             have H := HA.out; clear HA; simp only [zL.j2] at H; by_cases c53 : x80_47 = true
             ·
              subst c53; replace H : (some (([] : List Int), ([] : List Int), ([] : List (List Int)), x8_1, 3)) = some (r1, r2, r3, r4, r5) := by rw [if_pos rfl] at H; exact H
              simp only [Option.some.injEq, Prod.mk.injEq] at H; obtain ⟨rfl, rfl, rfl, rfl, rfl⟩ := H; have hnb54 := jW.out; have hnc54 := zAG.out; have hcz55_0 : wc.cell? ⟨yN, 0, none⟩ = some (.slice none 0 0) := (zC vV.out 0).trans rfl; have hcz55_1 : wc.cell? ⟨yN, 1, none⟩ = some (.slice none 0 0) := (zC vV.out 1).trans rfl; have hcz55_2 : wc.cell? ⟨yN, 2, none⟩ = some (.slice none 0 0) := (zC vV.out 2).trans rfl; have hfz55_0 := zB vV.out 0; have hfz55_1 := zB vV.out 1; have hfz55_2 := zB vV.out 2; go_wp2; refine bodyPost_ret (yB rfl _ _ yN 25 #[.slice none 0 0, .slice none 0 0, .slice none 0 0] (0, 0) _ rfl (by (with_reducible repeat first | apply bN | apply bD | apply bA); refine vA (cs := #[.slice none 0 0, .slice none 0 0, .slice none 0 0]) ?_ 2 _ rfl; (with_reducible repeat first | apply bN | apply bD | apply bA); refine vA (cs := #[.slice none 0 0, .slice none 0 0, .slice none 0 0]) ?_ 1 _ rfl; (with_reducible repeat first | apply bN | apply bD | apply bA); refine vA (cs := #[.slice none 0 0, .slice none 0 0, .slice none 0 0]) ?_ 0 _ rfl; (with_reducible repeat first | apply bN | apply bD | apply bA); exact vV.out) Tryd.underlying25 rfl (by kernel_rfl)) rfl ?_; exact ⟨_, _, _, by first | rfl | (simp [zI, zH] <;> rfl) | (simp [*, zI, zH] <;> rfl), by first | exact Kd.yV _ _ _ _ _ | exact Kd.jF _ _ _ _ _ | exact Kd.jC _ _ _ _ _ | exact Kd.jE _ _ _ _ _ | exact Kd.jD _ _ _ _ _, by first | exact Kd.yV _ _ _ _ _ | exact Kd.jF _ _ _ _ _ | exact Kd.jC _ _ _ _ _ | exact Kd.jE _ _ _ _ _ | exact Kd.jD _ _ _ _ _, by first | exact Kd.jD _ _ _ _ _ | exact Kd.jF _ _ _ _ _ | exact Kd.jC _ _ _ _ _ | exact Kd.jE _ _ _ _ _ | exact Kd.yV _ _ _ _ _, eG HB.out⟩
             ·
              replace c53 := Bool.eq_false_iff.mpr c53; subst c53; replace H : (if 1 < (t471.length : Int) then ((vQ.f kj47 (rdOf ByteArray.empty t471 1)).bind fun bt485 => (if 2 ≤ (t471.length : Int) then ((wM.f kj47 (t471.drop 2)).bind fun bt491 => (if bt485.2 = true then (if bt491.2 = true then (if vY.length < 17592186044416 then (if vU.length < 5864062014805 then (zL.l0 kj47 t464 t465 (wrap64 (x8_1 + 1)) (vY ++ [bt485.1]) qL (vU ++ [bt491.1])) else (none)) else (none)) else (some (([] : List Int), ([] : List Int), ([] : List (List Int)), x8_1, 3))) else (some (([] : List Int), ([] : List Int), ([] : List (List Int)), x8_1, 3)))) else (none))) else (none)) = some (r1, r2, r3, r4, r5) := by rw [if_neg (show ¬ (false = true) by decide)] at H; exact H
              by_cases c56 : 1 < (t471.length : Int)
              ·
               rw [if_pos c56] at H; have c56b0 : decide (1 < (t471.length : Int)) = true := decide_eq_true c56; have c56b1 : decide (1 < t471.length) = true := decide_eq_true (by omega); clear c56; replace H := Option.bind_eq_some_iff.mp H; obtain ⟨⟨t485, t486⟩, A570, H⟩ := H; replace H : (if 2 ≤ (t471.length : Int) then ((wM.f kj47 (t471.drop 2)).bind fun bt491 => (if t486 = true then (if bt491.2 = true then (if vY.length < 17592186044416 then (if vU.length < 5864062014805 then (zL.l0 kj47 t464 t465 (wrap64 (x8_1 + 1)) (vY ++ [t485]) qL (vU ++ [bt491.1])) else (none)) else (none)) else (some (([] : List Int), ([] : List Int), ([] : List (List Int)), x8_1, 3))) else (some (([] : List Int), ([] : List Int), ([] : List (List Int)), x8_1, 3)))) else (none)) = some (r1, r2, r3, r4, r5) := H; have A57 := zA.mk A570; clear A570; by_cases c58 : 2 ≤ (t471.length : Int)
               ·
                rw [if_pos c58] at H; have c58b0 := eq_true c58; have c58b1 : decide (2 ≤ (t471.length : Int)) = true := decide_eq_true c58; clear c58; obtain ⟨y487, hy487⟩ : ∃ y_ : List ByteArray, y_ = (t471.drop 2) := ⟨_, rfl⟩; replace H : ((wM.f kj47 y487).bind fun bt491 => (if t486 = true then (if bt491.2 = true then (if vY.length < 17592186044416 then (if vU.length < 5864062014805 then (zL.l0 kj47 t464 t465 (wrap64 (x8_1 + 1)) (vY ++ [t485]) qL (vU ++ [bt491.1])) else (none)) else (none)) else (some (([] : List Int), ([] : List Int), ([] : List (List Int)), x8_1, 3))) else (some (([] : List Int), ([] : List Int), ([] : List (List Int)), x8_1, 3)))) = some (r1, r2, r3, r4, r5) := by first | (rw [hy487]; with_reducible exact H) | (have H2_ := (Option.bind_some _ _).symm.trans H; rw [hy487]; with_reducible exact H2_) | (have H2_ := (Option.bind_some _ _).symm.trans H; with_reducible exact H2_) | with_reducible exact H | (rw [hy487]; exact H) | exact H
                have Ny487 := zA.mk hy487; clear hy487; replace H := Option.bind_eq_some_iff.mp H; obtain ⟨⟨t491, t492⟩, A590, H⟩ := H; replace H : (if t486 = true then (if t492 = true then (if vY.length < 17592186044416 then (if vU.length < 5864062014805 then (zL.l0 kj47 t464 t465 (wrap64 (x8_1 + 1)) (vY ++ [t485]) qL (vU ++ [t491])) else (none)) else (none)) else (some (([] : List Int), ([] : List Int), ([] : List (List Int)), x8_1, 3))) else (some (([] : List Int), ([] : List Int), ([] : List (List Int)), x8_1, 3))) = some (r1, r2, r3, r4, r5) := H; have A59 := zA.mk A590; clear A590; by_cases c60 : t486 = true
                ·
                 subst c60; replace H : (if t492 = true then (if vY.length < 17592186044416 then (if vU.length < 5864062014805 then (zL.l0 kj47 t464 t465 (wrap64 (x8_1 + 1)) (vY ++ [t485]) qL (vU ++ [t491])) else (none)) else (none)) else (some (([] : List Int), ([] : List Int), ([] : List (List Int)), x8_1, 3))) = some (r1, r2, r3, r4, r5) := by rw [if_pos rfl] at H; exact H
                 by_cases c61 : t492 = true
                 ·
                  subst c61; replace H : (if vY.length < 17592186044416 then (if vU.length < 5864062014805 then (zL.l0 kj47 t464 t465 (wrap64 (x8_1 + 1)) (vY ++ [t485]) qL (vU ++ [t491])) else (none)) else (none)) = some (r1, r2, r3, r4, r5) := by rw [if_pos rfl] at H; exact H
                  by_cases c62 : vY.length < 17592186044416
                  ·
                   rw [if_pos c62] at H; have LMc62 := zA.mk c62; clear c62; obtain ⟨y495, hy495⟩ : ∃ y_ : List Int, y_ = (vY ++ [t485]) := ⟨_, rfl⟩; replace H : (if vU.length < 5864062014805 then (zL.l0 kj47 t464 t465 (wrap64 (x8_1 + 1)) y495 qL (vU ++ [t491])) else (none)) = some (r1, r2, r3, r4, r5) := by first | (rw [hy495]; with_reducible exact H) | (have H2_ := (Option.bind_some _ _).symm.trans H; rw [hy495]; with_reducible exact H2_) | (have H2_ := (Option.bind_some _ _).symm.trans H; with_reducible exact H2_) | with_reducible exact H | (rw [hy495]; exact H) | exact H
                   have Ny495 := zA.mk hy495; clear hy495; by_cases c63 : vU.length < 5864062014805
                   ·
                    rw [if_pos c63] at H; have LMc63 := zA.mk c63; clear c63; obtain ⟨y498, hy498⟩ : ∃ y_ : List (List Int), y_ = (vU ++ [t491]) := ⟨_, rfl⟩; replace H : (zL.l0 kj47 t464 t465 (wrap64 (x8_1 + 1)) y495 qL y498) = some (r1, r2, r3, r4, r5) := by first | (rw [hy498]; with_reducible exact H) | (have H2_ := (Option.bind_some _ _).symm.trans H; rw [hy498]; with_reducible exact H2_) | (have H2_ := (Option.bind_some _ _).symm.trans H; with_reducible exact H2_) | with_reducible exact H | (rw [hy498]; exact H) | exact H
                    have Ny498 := zA.mk hy498; clear hy498; have H' := zA.mk H; clear H; obtain ⟨Ao64, co64, eo64⟩ := Kd.qQ zAJ.out; subst eo64; have p484 : 0 ≤ (1 : Int) := (by omega); have q484 : 1 < (t471.length : Int) := of_decide_eq_true (by first | (with_reducible assumption) | assumption); obtain ⟨ad484, e484, zFK⟩ := Kd.jU (Kd.wN zAJ.out).2.2 1 p484 q484; cases e484; (try simp only [show (1 : Int).toNat = 1 from rfl, Nat.reduceMul, Nat.reduceEqDiff, Go.Addr.add, ↓reduceIte] at zFK)
                    have qi484 : (1 < t471.length) = True := eq_true (by omega); (try rw [show ((1 : Int)).toNat = 1 from rfl] at zFK)
                    replace p484 := eq_true p484; replace q484 := eq_true q484; go_wp2_with (first | ((with_reducible refine zQ (f := 52) rfl ?_); refine vN (some 87) rfl rfl Tryd.func52 (by kernel_rfl) rfl #[.string (rdOf ByteArray.empty t471 1)] rfl (by (try simp only [List.map_toArray, List.map_cons, List.map_nil]); first | done | rfl | (simp only [List.length_drop, List.length_take]; rfl)) ?_; (with_reducible refine (vQ.calls kj47 (rdOf ByteArray.empty t471 1) t485 true _ A57.out).mono ?_); rintro e w' ⟨rfl, ⟨nd, rfl⟩⟩; refine ⟨_, rfl, ?_⟩; (try (rw [zGL wc]; generalize hq_ : World.drewN wc _ = wc; have n0_ : zA (Kd.R (Kd.int .i64) 3 wc w.heap.size (fun k_ => some k_ ≠ (qW : Value).ownBlock) yK vY) := ⟨by rw [← hq_]; exact (by (with_reducible repeat (first | apply Kd.zK | apply Kd.zJ | apply Kd.zT)); exact wZ.out)⟩; have n1_ : zA (Kd.R (Kd.int .i64) 3 wc w.heap.size (fun k_ => some k_ ≠ (yK : Value).ownBlock) qW qL) := ⟨by rw [← hq_]; exact (by (with_reducible repeat (first | apply Kd.zK | apply Kd.zJ | apply Kd.zT)); exact wU.out)⟩; have n2_ : zA (Kd.S (Kd.slice 3 (Kd.int .i64)) 22 wc w.heap.size (fun k_ => some k_ ≠ (yK : Value).ownBlock ∧ some k_ ≠ (qW : Value).ownBlock) jJ vU) := ⟨by rw [← hq_]; exact (by (with_reducible repeat (first | apply Kd.jM | apply Kd.jL | apply Kd.kF)); exact wS.out)⟩; have n3_ : zA (Kd.R Kd.string 9 wc w.heap.size (fun k_ => some k_ ≠ (.slice (some ad484) t471.length co64 : Value).ownBlock) (.slice (some ad470) t464.length co13) t464) := ⟨by rw [← hq_]; exact (by (with_reducible repeat (first | apply Kd.zK | apply Kd.zJ | apply Kd.zT)); exact zCB.out)⟩; have n4_ : zA (Kd.R Kd.string 9 wc w.heap.size (fun k_ => some k_ ≠ (.slice (some ad470) t464.length co13 : Value).ownBlock) (.slice (some ad484) t471.length co64) t471) := ⟨by rw [← hq_]; exact (by (with_reducible repeat (first | apply Kd.zK | apply Kd.zJ | apply Kd.zT)); exact zAJ.out)⟩; have n5_ : zA (wc.heap[yN]? = some (.cells #[.slice none 0 0, .slice none 0 0, .slice none 0 0] 25 (0, 0))) := ⟨by rw [← hq_]; exact (bG vV.out)⟩; have n6_ : zA (wc.heap[jN]? = some (.cells #[yK, qW, jJ] 25 (0, 0))) := ⟨by rw [← hq_]; exact (bG qD.out)⟩; have n7_ : zA (Below w.heap.size w wc) := ⟨by rw [← hq_]; exact (eG HB.out)⟩; clear wZ wU wS zCB zAJ vV qD HB hq_; have wZ := n0_; have wU := n1_; have wS := n2_; have zCB := n3_; have zAJ := n4_; have vV := n5_; have qD := n6_; have HB := n7_; clear n0_ n1_ n2_ n3_ n4_ n5_ n6_ n7_)); have q65 : (2 : Int) ≤ ((t471.length : Int) : Int) := of_decide_eq_true (by first | (with_reducible assumption) | assumption); obtain ⟨i065, hi065, _, hsz65, _⟩ := info_parts zFJ; have hroom65 : t471.length ≤ co64 := (Kd.wN zAJ.out).2.1; have hC65 : Kd.C Kd.string _ (some ad484) t471.length t471 := (Kd.wN zAJ.out).2.2; have hcut65 := zAD (P := Tryd.prog) 65 9 .i64 Tryd.underlying65 hi065 1 hsz65 (some ad484) t471.length co64 2 (by omega) q65; have hr65 := Kd.zIA (m := (2 : Int).toNat) (c := co64) hC65 (by omega) hroom65; obtain ⟨A65, hA65⟩ : ∃ A1, A1 = (if co64 = (2 : Int).toNat then (some ad484) else ((some ad484) : Option Addr).map (·.add ((2 : Int).toNat * 1))) := ⟨_, rfl⟩; obtain ⟨c65, hc65⟩ : ∃ c1, c1 = co64 - (2 : Int).toNat := ⟨_, rfl⟩; have hy65 : y487.length = t471.length - (2 : Int).toNat := (by rw [Ny487.out, List.length_drop] <;> omega); rw [show (t471).drop (2 : Int).toNat = y487 from Ny487.out.symm] at hr65; replace hr65 : Kd.C Kd.string _ A65 y487.length y487 := (by rw [hA65]; exact hr65); rw [← hy65, ← hA65, ← hc65] at hcut65; have HR490 := zA.mk hr65; have HC490 := zA.mk (show y487.length ≤ c65 from by rw [hy65, hc65]; exact Nat.sub_le_sub_right hroom65 _); clear hr65 hC65 hroom65 hi065 hsz65 hc65; have KY65 := zA.mk hy65; have KA65 := zA.mk hA65; clear hy65 hA65; have KL65 := zA.mk (show 2 ≤ t471.length from by omega); replace q65 := eq_true q65) | ((with_reducible refine zQ (f := 51) rfl ?_); refine vN (some 93) rfl rfl Tryd.func51 (by kernel_rfl) rfl #[.slice A65 y487.length c65] rfl (by (try simp only [List.map_toArray, List.map_cons, List.map_nil]); first | done | rfl | (simp only [List.length_drop, List.length_take]; rfl)) ?_; (with_reducible refine (wM.calls kj47 _ _ y487 t491 true _ ?side1 ?side2 A59.out).mono ?_); (case side1 => repeat (first | exact (by repeat (first | (with_reducible exact HR490.out) | (with_reducible refine Kd.zP ?_ _) | (with_reducible refine Kd.zO ?_ _) | (with_reducible refine Kd.zY ?_) | exact HR490.out)) | (with_reducible refine Kd.zP ?_ _) | (with_reducible refine Kd.zO ?_ _) | (with_reducible refine Kd.zY ?_))); (case side2 => exact HC490.out); rintro e w66 ⟨v493, rfl, ho0, hb⟩; refine ⟨_, rfl, ?_⟩; have n0_ := zA.mk (Kd.wO (by (with_reducible repeat (first | apply Kd.zK | apply Kd.zJ | apply Kd.zT)); exact zCB.out) hb); have n1_ := zA.mk (Kd.wO (by (with_reducible repeat (first | apply Kd.zK | apply Kd.zJ | apply Kd.zT)); exact zAJ.out) hb); have n2_ := zA.mk (Kd.qO (by (with_reducible repeat (first | apply Kd.zK | apply Kd.zJ | apply Kd.zT)); exact wZ.out) (Kd.qF ho0) hb); have n3_ := zA.mk (Kd.qO (by (with_reducible repeat (first | apply Kd.zK | apply Kd.zJ | apply Kd.zT)); exact wU.out) (Kd.qF ho0) hb); have n4_ := zA.mk (Kd.zGM (by (with_reducible repeat (first | apply Kd.jM | apply Kd.jL | apply Kd.kF)); exact wS.out) (Kd.qF ho0) hb); have n5_ := zA.mk (Kd.yD (Kd.yO (Kd.yO ho0 (Kd.R_lt (by (with_reducible repeat (first | apply Kd.zK | apply Kd.zJ | apply Kd.zT)); exact wZ.out))) (Kd.R_lt (by (with_reducible repeat (first | apply Kd.zK | apply Kd.zJ | apply Kd.zT)); exact wU.out))) (zD (eG HB.out))); have n6_ := zA.mk (zM (bG vV.out) hb); have n7_ := zA.mk (zM (bG qD.out) hb); have n8_ := zA.mk (Kd.zX (by repeat (first | (with_reducible exact HR490.out) | (with_reducible refine Kd.zP ?_ _) | (with_reducible refine Kd.zO ?_ _) | (with_reducible refine Kd.zY ?_) | exact HR490.out)) hb); have n9_ := zA.mk (zG (eG HB.out) hb); clear zCB; clear zAJ; clear wZ; clear wU; clear wS; clear vV; clear qD; clear HR490; clear HB; have zCB := n0_; have zAJ := n1_; have wZ := n2_; have wU := n3_; have wS := n4_; have zJR := n5_; have vV := n6_; have qD := n7_; have HR490 := n8_; have HB := n9_; clear n0_ n1_ n2_ n3_ n4_ n5_ n6_ n7_ n8_ n9_; (try clear hb); (try clear hb2); (try clear hk); (try clear hi); (try clear ho0); have hnb67 := zAG.out; have hnc67 := jW.out; have hcz68_0 : w66.cell? ⟨jN, 0, none⟩ = some (yK) := (zC qD.out 0).trans rfl; have hcz68_1 : w66.cell? ⟨jN, 1, none⟩ = some (qW) := (zC qD.out 1).trans rfl; have hcz68_2 : w66.cell? ⟨jN, 2, none⟩ = some (jJ) := (zC qD.out 2).trans rfl; have hfz68_0 := zB qD.out 0; have hfz68_1 := zB qD.out 1; have hfz68_2 := zB qD.out 2) | ((with_reducible refine uU (b := .append) (xs := #[.tmp 105, .tmp 107]) rfl ?_); at_builtin; refine Kd.zDR (Kd.int .i64) (w0 := w) w.heap.size rfl (.tmp 105) (.tmp 107) 22 3 (.int .i64 0) 8 rfl Tryd.underlying22 zQR rfl (by decide) (by omega) yK vY t485 [.int .i64 t485] (fun k_ => some k_ ≠ (qW : Value).ownBlock ∧ some k_ ≠ (v493 : Value).ownBlock) (fun _ => False) rfl rfl ?aP (fun _ hk => hk.elim) ?aF ?aO ?aB ?aS ?aL ?_; (case aP => exact rfl); (case aB => exact (eG HB.out)); (case aF => exact (fun k_ hk => ⟨Kd.jS (Kd.R_lt (by (with_reducible repeat (first | apply Kd.zK | apply Kd.zJ | apply Kd.zT)); exact wU.out)) k_ hk, Kd.jS (Kd.R_lt (rG zJR.out)) k_ hk⟩)); (case aO => exact (by (with_reducible repeat (first | apply Kd.zK | apply Kd.zJ | apply Kd.zT)); exact wZ.out)); (case aS => exact (zD (eG HB.out))); (case aL => have := LMc62.out; omega); intro v496 w69 ho hb hg hat; rw [← Ny495.out] at ho; have n0_ := zA.mk (Kd.zAC (by (with_reducible repeat (first | apply Kd.zK | apply Kd.zJ | apply Kd.zT)); exact zCB.out) (Kd.uI (by (with_reducible repeat (first | apply Kd.zK | apply Kd.zJ | apply Kd.zT)); exact wZ.out)) (by decide) hg); have n1_ := zA.mk (Kd.zAC (by (with_reducible repeat (first | apply Kd.zK | apply Kd.zJ | apply Kd.zT)); exact zAJ.out) (Kd.uI (by (with_reducible repeat (first | apply Kd.zK | apply Kd.zJ | apply Kd.zT)); exact wZ.out)) (by decide) hg); have n2_ := zA.mk (Kd.zCM (ok := (fun k_ => some k_ ≠ (v493 : Value).ownBlock)) (by (with_reducible repeat (first | apply Kd.zK | apply Kd.zJ | apply Kd.zT)); exact Kd.vP wU.out (fun _ hk => ⟨hk.2, hk.1⟩)) hg hat); have n3_ := zA.mk (Kd.S_after (ok := (fun k_ => some k_ ≠ (qW : Value).ownBlock ∧ some k_ ≠ (v493 : Value).ownBlock)) (by (with_reducible repeat (first | apply Kd.jM | apply Kd.jL | apply Kd.kF)); exact Kd.zMD wS.out (fun _ hk => ⟨⟨hk.1.2, hk.2⟩, hk.1.1⟩)) hg hat); have n4_ := zA.mk (kP (bG vV.out) hg (Kd.R_ne wZ.out vV.out (by decide))); have n5_ := zA.mk (kP (bG qD.out) hg (Kd.R_ne wZ.out qD.out (by decide))); have n6_ := zA.mk (Kd.zCM (ok := (fun k_ => some k_ ≠ (qW : Value).ownBlock)) (by (with_reducible repeat (first | apply Kd.zK | apply Kd.zJ | apply Kd.zT)); exact Kd.vP zJR.out (fun _ hk => ⟨hk.2, hk.1.2⟩)) hg hat); have n7_ := zA.mk (hb); have n8_ := zA.mk ((show Kd.C Kd.string w69 A65 y487.length y487 from by rw [Ny487.out, KA65.out]; exact Kd.zIA (m := 2) (c := co64) ((Kd.wN (Kd.zAC (by (with_reducible repeat (first | apply Kd.zK | apply Kd.zJ | apply Kd.zT)); exact zAJ.out) (Kd.uI (by (with_reducible repeat (first | apply Kd.zK | apply Kd.zJ | apply Kd.zT)); exact wZ.out)) (by decide) hg)).2.2) KL65.out ((Kd.wN (Kd.zAC (by (with_reducible repeat (first | apply Kd.zK | apply Kd.zJ | apply Kd.zT)); exact zAJ.out) (Kd.uI (by (with_reducible repeat (first | apply Kd.zK | apply Kd.zJ | apply Kd.zT)); exact wZ.out)) (by decide) hg)).2.1))); have n9_ := zA.mk (ho); clear zCB; clear zAJ; clear wU; clear wS; clear vV; clear qD; clear zJR; clear HB; clear HR490; clear wZ; have zCB := n0_; have zAJ := n1_; have wU := n2_; have wS := n3_; have vV := n4_; have qD := n5_; have zJR := n6_; have HB := n7_; have HR490 := n8_; have zPW := n9_; clear n0_ n1_ n2_ n3_ n4_ n5_ n6_ n7_ n8_ n9_; clear ho hb hg hat; obtain ⟨Ao70, co70, eo70⟩ := Kd.qQ zPW.out; subst eo70; have hcz71_0 : w69.cell? ⟨jN, 0, none⟩ = some (yK) := (zC qD.out 0).trans rfl; have hcz71_1 : w69.cell? ⟨jN, 1, none⟩ = some (qW) := (zC qD.out 1).trans rfl; have hcz71_2 : w69.cell? ⟨jN, 2, none⟩ = some (jJ) := (zC qD.out 2).trans rfl; have hfz71_0 := zB qD.out 0; have hfz71_1 := zB qD.out 1; have hfz71_2 := zB qD.out 2) | ((with_reducible refine zUK (t := 22) (p := 109) rfl ?_); refine zRO (t := 22) (p := 109) (v := ?vo_w72) (w1 := (w69.setCell ⟨jN, 0, none⟩ (.slice Ao70 y495.length co70))) ?hg ?ho ?hn ?hr ?_; (case ho => rfl); (case hg => rfl); (case hn => rfl); (case hr => first | (go_simp; done) | (go_simp; rfl)); intro w72 hw; have n0_ : zA (Kd.R Kd.string 9 w72 w.heap.size (fun k_ => some k_ ≠ (.slice (some ad484) t471.length co64 : Value).ownBlock) (.slice (some ad470) t464.length co13) t464) := ⟨(by rw [hw]; exact (by (with_reducible repeat (first | apply Kd.zK | apply Kd.zJ | apply Kd.zT)); exact Kd.vP (Kd.qR (p := ⟨jN, 0, none⟩) (Kd.qE zCB.out qD.out (by decide)) (fun _ hk => hk.2) (.slice Ao70 y495.length co70)) (fun _ hk => hk.1)))⟩; have n1_ : zA (Kd.R Kd.string 9 w72 w.heap.size (fun k_ => some k_ ≠ (.slice (some ad470) t464.length co13 : Value).ownBlock) (.slice (some ad484) t471.length co64) t471) := ⟨(by rw [hw]; exact (by (with_reducible repeat (first | apply Kd.zK | apply Kd.zJ | apply Kd.zT)); exact Kd.vP (Kd.qR (p := ⟨jN, 0, none⟩) (Kd.qE zAJ.out qD.out (by decide)) (fun _ hk => hk.2) (.slice Ao70 y495.length co70)) (fun _ hk => hk.1)))⟩; have n2_ : zA (Kd.R (Kd.int .i64) 3 w72 w.heap.size (fun k_ => some k_ ≠ (v493 : Value).ownBlock ∧ some k_ ≠ (.slice Ao70 y495.length co70 : Value).ownBlock) qW qL) := ⟨(by rw [hw]; exact (by (with_reducible repeat (first | apply Kd.zK | apply Kd.zJ | apply Kd.zT)); exact Kd.vP (Kd.qR (p := ⟨jN, 0, none⟩) (Kd.qE wU.out qD.out (by decide)) (fun _ hk => hk.2) (.slice Ao70 y495.length co70)) (fun _ hk => ⟨hk.1.1, hk.1.2⟩)))⟩; have n3_ : zA (Kd.S (Kd.slice 3 (Kd.int .i64)) 22 w72 w.heap.size (fun k_ => some k_ ≠ (qW : Value).ownBlock ∧ some k_ ≠ (v493 : Value).ownBlock ∧ some k_ ≠ (.slice Ao70 y495.length co70 : Value).ownBlock) jJ vU) := ⟨(by rw [hw]; exact (by (with_reducible repeat (first | apply Kd.jM | apply Kd.jL | apply Kd.kF)); exact Kd.zMD (Kd.zUR (p := ⟨jN, 0, none⟩) (Kd.zPP wS.out qD.out (by decide)) (fun _ hk => hk.2) (.slice Ao70 y495.length co70)) (fun _ hk => ⟨hk.1.1.1, ⟨hk.1.1.2, hk.1.2⟩⟩)))⟩; have n4_ : zA (Kd.R (Kd.int .i64) 3 w72 w.heap.size (fun k_ => some k_ ≠ (qW : Value).ownBlock ∧ some k_ ≠ (.slice Ao70 y495.length co70 : Value).ownBlock) v493 t491) := ⟨(by rw [hw]; exact (by (with_reducible repeat (first | apply Kd.zK | apply Kd.zJ | apply Kd.zT)); exact Kd.vP (Kd.qR (p := ⟨jN, 0, none⟩) (Kd.qE zJR.out qD.out (by decide)) (fun _ hk => hk.2) (.slice Ao70 y495.length co70)) (fun _ hk => ⟨hk.1.1, hk.1.2⟩)))⟩; have n5_ : zA (Kd.R (Kd.int .i64) 3 w72 w.heap.size (fun k_ => some k_ ≠ (qW : Value).ownBlock ∧ some k_ ≠ (v493 : Value).ownBlock) (.slice Ao70 y495.length co70) y495) := ⟨(by rw [hw]; exact (by (with_reducible repeat (first | apply Kd.zK | apply Kd.zJ | apply Kd.zT)); exact Kd.vP (Kd.qR (p := ⟨jN, 0, none⟩) (Kd.qE zPW.out qD.out (by decide)) (fun _ hk => hk.2) (.slice Ao70 y495.length co70)) (fun _ hk => ⟨hk.1.1, hk.1.2⟩)))⟩; have n6_ : zA (w72.heap[yN]? = some (.cells #[.slice none 0 0, .slice none 0 0, .slice none 0 0] 25 (0, 0))) := ⟨(by rw [hw]; exact (by (with_reducible repeat first | apply bN | apply bD | apply bA); refine yL ?_ jW.out _; (with_reducible repeat first | apply bN | apply bD | apply bA); exact vV.out))⟩; have n7_ : zA (w72.heap[jN]? = some (.cells #[.slice Ao70 y495.length co70, qW, jJ] 25 (0, 0))) := ⟨(by rw [hw]; exact (by (with_reducible repeat first | apply bN | apply bD | apply bA); refine vA (cs := #[yK, qW, jJ]) ?_ 0 _ rfl; (with_reducible repeat first | apply bN | apply bD | apply bA); exact qD.out))⟩; have n8_ : zA (Below w.heap.size w w72) := ⟨(by rw [hw]; exact (eG HB.out))⟩; clear hw; clear zCB; clear zAJ; clear wU; clear wS; clear zJR; clear zPW; clear vV; clear qD; clear HB; have zCB := n0_; have zAJ := n1_; have wU := n2_; have wS := n3_; have zJR := n4_; have zPW := n5_; have vV := n6_; have qD := n7_; have HB := n8_; clear n0_ n1_ n2_ n3_ n4_ n5_ n6_ n7_ n8_; have hcz73_0 : w72.cell? ⟨jN, 0, none⟩ = some (.slice Ao70 y495.length co70) := (zC qD.out 0).trans rfl; have hcz73_1 : w72.cell? ⟨jN, 1, none⟩ = some (qW) := (zC qD.out 1).trans rfl; have hcz73_2 : w72.cell? ⟨jN, 2, none⟩ = some (jJ) := (zC qD.out 2).trans rfl; have hfz73_0 := zB qD.out 0; have hfz73_1 := zB qD.out 1; have hfz73_2 := zB qD.out 2; obtain ⟨Ao75, co75, eo75⟩ := Kd.qQ zJR.out; subst eo75) | ((with_reducible refine uU (b := .append) (xs := #[.tmp 111, .tmp 113]) rfl ?_); at_builtin; refine Kd.S_append (Kd.slice 3 (Kd.int .i64)) (w0 := w) w.heap.size rfl (.tmp 111) (.tmp 113) 23 22 (.slice none 0 0) 24 rfl Tryd.underlying23 info22 rfl (by decide) (by omega) jJ vU t491 [.slice Ao75 t491.length co75] (fun k_ => some k_ ≠ (qW : Value).ownBlock ∧ some k_ ≠ (.slice Ao70 y495.length co70 : Value).ownBlock) (fun k_ => some k_ = (.slice Ao75 t491.length co75 : Value).ownBlock) rfl rfl ?aP (fun k_ hk_ => ((Kd.vP (ok' := fun k_ => ((fun k_ => some k_ ≠ (qW : Value).ownBlock ∧ some k_ ≠ (.slice Ao70 y495.length co70 : Value).ownBlock)) k_ ∧ some k_ ≠ (jJ : Value).ownBlock) (Kd.yS (zJR.out) (Kd.zFX wS.out) (by decide)) (fun k_ hk => ⟨⟨hk.1.1, hk.1.2⟩, hk.2⟩))).1 k_ hk_.symm) ?aF ?aO ?aB ?aS ?aL ?_; (case aP => exact Kd.M_row (Kd.vP (Kd.zYC rfl (Kd.vP (ok' := fun k_ => ((fun k_ => some k_ ≠ (qW : Value).ownBlock ∧ some k_ ≠ (.slice Ao70 y495.length co70 : Value).ownBlock)) k_ ∧ some k_ ≠ (jJ : Value).ownBlock) (Kd.yS (zJR.out) (Kd.zFX wS.out) (by decide)) (fun k_ hk => ⟨⟨hk.1.1, hk.1.2⟩, hk.2⟩))) (fun _ h_ => h_))); (case aB => exact (eG HB.out)); (case aF => exact (fun k_ hk => ⟨Kd.jS (Kd.R_lt (by (with_reducible repeat (first | apply Kd.zK | apply Kd.zJ | apply Kd.zT)); exact wU.out)) k_ hk, Kd.jS (Kd.R_lt (rG zPW.out)) k_ hk⟩)); (case aO => exact (by (with_reducible repeat (first | apply Kd.jM | apply Kd.jL | apply Kd.kF)); exact Kd.zMD wS.out (fun k_ hk => ⟨⟨hk.1, hk.2.2⟩, fun e_ => hk.2.1 e_⟩))); (case aS => exact (zD (eG HB.out))); (case aL => have := LMc63.out; omega); intro v499 w74 ho hb hg hat; rw [← Ny498.out] at ho; have n0_ := zA.mk (Kd.zAC (by (with_reducible repeat (first | apply Kd.zK | apply Kd.zJ | apply Kd.zT)); exact zCB.out) (Kd.zFX (by (with_reducible repeat (first | apply Kd.jM | apply Kd.jL | apply Kd.kF)); exact wS.out)) (by decide) hg); have n1_ := zA.mk (Kd.zAC (by (with_reducible repeat (first | apply Kd.zK | apply Kd.zJ | apply Kd.zT)); exact zAJ.out) (Kd.zFX (by (with_reducible repeat (first | apply Kd.jM | apply Kd.jL | apply Kd.kF)); exact wS.out)) (by decide) hg); have n2_ := zA.mk (Kd.zAC (by (with_reducible repeat (first | apply Kd.zK | apply Kd.zJ | apply Kd.zT)); exact wU.out) (Kd.zFX (by (with_reducible repeat (first | apply Kd.jM | apply Kd.jL | apply Kd.kF)); exact wS.out)) (by decide) hg); have n3_ := zA.mk (kP (bG vV.out) hg (Kd.S_ne wS.out vV.out (by decide))); have n4_ := zA.mk (kP (bG qD.out) hg (Kd.S_ne wS.out qD.out (by decide))); have n5_ := zA.mk (Kd.zAC (rG zPW.out) (Kd.zFX (by (with_reducible repeat (first | apply Kd.jM | apply Kd.jL | apply Kd.kF)); exact wS.out)) (by decide) hg); have n6_ := zA.mk (hb); have n7_ := zA.mk ((show Kd.C Kd.string w74 A65 y487.length y487 from by rw [Ny487.out, KA65.out]; exact Kd.zIA (m := 2) (c := co64) ((Kd.wN (Kd.zAC (by (with_reducible repeat (first | apply Kd.zK | apply Kd.zJ | apply Kd.zT)); exact zAJ.out) (Kd.zFX (by (with_reducible repeat (first | apply Kd.jM | apply Kd.jL | apply Kd.kF)); exact wS.out)) (by decide) hg)).2.2) KL65.out ((Kd.wN (Kd.zAC (by (with_reducible repeat (first | apply Kd.zK | apply Kd.zJ | apply Kd.zT)); exact zAJ.out) (Kd.zFX (by (with_reducible repeat (first | apply Kd.jM | apply Kd.jL | apply Kd.kF)); exact wS.out)) (by decide) hg)).2.1))); have n8_ := zA.mk (ho); clear zCB; clear zAJ; clear wU; clear vV; clear qD; clear zPW; clear HB; clear HR490; clear wS; clear zJR; have zCB := n0_; have zAJ := n1_; have wU := n2_; have vV := n3_; have qD := n4_; have zPW := n5_; have HB := n6_; have HR490 := n7_; have HO500 := n8_; clear n0_ n1_ n2_ n3_ n4_ n5_ n6_ n7_ n8_; clear ho hb hg hat; obtain ⟨Ao76, co76, eo76⟩ := Kd.zTG HO500.out; subst eo76; have hcz77_0 : w74.cell? ⟨jN, 0, none⟩ = some (.slice Ao70 y495.length co70) := (zC qD.out 0).trans rfl; have hcz77_1 : w74.cell? ⟨jN, 1, none⟩ = some (qW) := (zC qD.out 1).trans rfl; have hcz77_2 : w74.cell? ⟨jN, 2, none⟩ = some (jJ) := (zC qD.out 2).trans rfl; have hfz77_0 := zB qD.out 0; have hfz77_1 := zB qD.out 1; have hfz77_2 := zB qD.out 2))
                    go_roundg kj47
                    case measure => have := HK1.out; have := HJ19.out; have := HJ47.out; omega
                    case rel => exact ⟨(wrap64 (x8_1 + 1)), (y495), (qL), (y498), (.slice Ao70 y495.length co70), (qW), (.slice Ao76 y498.length co76), (by first | rfl | (simp; done) | (simp [*]; done)), H', ⟨by have := HK1.out; have := HJ19.out; have := HJ47.out; omega⟩, ⟨by (with_reducible repeat (first | apply Kd.zK | apply Kd.zJ | apply Kd.zT)); exact Kd.vP (Kd.qR (p := ⟨jN, 2, none⟩) (Kd.qE zCB.out qD.out (by decide)) (fun _ hk => hk.2) (.slice Ao76 y498.length co76)) (fun _ hk => trivial)⟩, ⟨by (with_reducible repeat (first | apply Kd.zK | apply Kd.zJ | apply Kd.zT)); exact Kd.vP (Kd.qR (p := ⟨jN, 2, none⟩) (Kd.qE zPW.out qD.out (by decide)) (fun _ hk => hk.2) (.slice Ao76 y498.length co76)) (fun _ hk => hk.1.1)⟩, ⟨by (with_reducible repeat (first | apply Kd.zK | apply Kd.zJ | apply Kd.zT)); exact Kd.vP (Kd.qR (p := ⟨jN, 2, none⟩) (Kd.qE wU.out qD.out (by decide)) (fun _ hk => hk.2) (.slice Ao76 y498.length co76)) (fun _ hk => hk.1.2)⟩, ⟨by (with_reducible repeat (first | apply Kd.jM | apply Kd.jL | apply Kd.kF)); exact Kd.zMD (Kd.zUR (p := ⟨jN, 2, none⟩) (Kd.zPP HO500.out qD.out (by decide)) (fun _ hk => hk.2) (.slice Ao76 y498.length co76)) (fun _ hk => ⟨hk.1.2, hk.1.1⟩)⟩, ⟨by (with_reducible repeat first | apply bN | apply bD | apply bA); refine yL ?_ jW.out _; (with_reducible repeat first | apply bN | apply bD | apply bA); exact vV.out⟩, ⟨by (with_reducible repeat first | apply bN | apply bD | apply bA); refine vA (cs := #[.slice Ao70 y495.length co70, qW, jJ]) ?_ 2 _ rfl; (with_reducible repeat first | apply bN | apply bD | apply bA); exact qD.out⟩, ⟨eG HB.out⟩⟩
                   · rw [if_neg c63] at H; exact absurd H (by simp)
                  · rw [if_neg c62] at H; exact absurd H (by simp)
                 ·
                  replace c61 := Bool.eq_false_iff.mpr c61; subst c61; replace H : (some (([] : List Int), ([] : List Int), ([] : List (List Int)), x8_1, 3)) = some (r1, r2, r3, r4, r5) := by rw [if_neg (show ¬ (false = true) by decide)] at H; exact H
                  simp only [Option.some.injEq, Prod.mk.injEq] at H; obtain ⟨rfl, rfl, rfl, rfl, rfl⟩ := H; obtain ⟨Ao78, co78, eo78⟩ := Kd.qQ zAJ.out; subst eo78; have p484 : 0 ≤ (1 : Int) := (by omega); have q484 : 1 < (t471.length : Int) := of_decide_eq_true (by first | (with_reducible assumption) | assumption); obtain ⟨ad484, e484, zFK⟩ := Kd.jU (Kd.wN zAJ.out).2.2 1 p484 q484; cases e484; (try simp only [show (1 : Int).toNat = 1 from rfl, Nat.reduceMul, Nat.reduceEqDiff, Go.Addr.add, ↓reduceIte] at zFK)
                  have qi484 : (1 < t471.length) = True := eq_true (by omega); (try rw [show ((1 : Int)).toNat = 1 from rfl] at zFK)
                  replace p484 := eq_true p484; replace q484 := eq_true q484; go_wp2_with (first | ((with_reducible refine zQ (f := 52) rfl ?_); refine vN (some 87) rfl rfl Tryd.func52 (by kernel_rfl) rfl #[.string (rdOf ByteArray.empty t471 1)] rfl (by (try simp only [List.map_toArray, List.map_cons, List.map_nil]); first | done | rfl | (simp only [List.length_drop, List.length_take]; rfl)) ?_; (with_reducible refine (vQ.calls kj47 (rdOf ByteArray.empty t471 1) t485 true _ A57.out).mono ?_); rintro e w' ⟨rfl, ⟨nd, rfl⟩⟩; refine ⟨_, rfl, ?_⟩; (try (rw [zGL wc]; generalize hq_ : World.drewN wc _ = wc; have n0_ : zA (Kd.R (Kd.int .i64) 3 wc w.heap.size (fun k_ => some k_ ≠ (qW : Value).ownBlock) yK vY) := ⟨by rw [← hq_]; exact (by (with_reducible repeat (first | apply Kd.zK | apply Kd.zJ | apply Kd.zT)); exact wZ.out)⟩; have n1_ : zA (Kd.R (Kd.int .i64) 3 wc w.heap.size (fun k_ => some k_ ≠ (yK : Value).ownBlock) qW qL) := ⟨by rw [← hq_]; exact (by (with_reducible repeat (first | apply Kd.zK | apply Kd.zJ | apply Kd.zT)); exact wU.out)⟩; have n2_ : zA (Kd.S (Kd.slice 3 (Kd.int .i64)) 22 wc w.heap.size (fun k_ => some k_ ≠ (yK : Value).ownBlock ∧ some k_ ≠ (qW : Value).ownBlock) jJ vU) := ⟨by rw [← hq_]; exact (by (with_reducible repeat (first | apply Kd.jM | apply Kd.jL | apply Kd.kF)); exact wS.out)⟩; have n3_ : zA (Kd.R Kd.string 9 wc w.heap.size (fun k_ => some k_ ≠ (.slice (some ad484) t471.length co78 : Value).ownBlock) (.slice (some ad470) t464.length co13) t464) := ⟨by rw [← hq_]; exact (by (with_reducible repeat (first | apply Kd.zK | apply Kd.zJ | apply Kd.zT)); exact zCB.out)⟩; have n4_ : zA (Kd.R Kd.string 9 wc w.heap.size (fun k_ => some k_ ≠ (.slice (some ad470) t464.length co13 : Value).ownBlock) (.slice (some ad484) t471.length co78) t471) := ⟨by rw [← hq_]; exact (by (with_reducible repeat (first | apply Kd.zK | apply Kd.zJ | apply Kd.zT)); exact zAJ.out)⟩; have n5_ : zA (wc.heap[yN]? = some (.cells #[.slice none 0 0, .slice none 0 0, .slice none 0 0] 25 (0, 0))) := ⟨by rw [← hq_]; exact (bG vV.out)⟩; have n6_ : zA (wc.heap[jN]? = some (.cells #[yK, qW, jJ] 25 (0, 0))) := ⟨by rw [← hq_]; exact (bG qD.out)⟩; have n7_ : zA (Below w.heap.size w wc) := ⟨by rw [← hq_]; exact (eG HB.out)⟩; clear wZ wU wS zCB zAJ vV qD HB hq_; have wZ := n0_; have wU := n1_; have wS := n2_; have zCB := n3_; have zAJ := n4_; have vV := n5_; have qD := n6_; have HB := n7_; clear n0_ n1_ n2_ n3_ n4_ n5_ n6_ n7_)); have q79 : (2 : Int) ≤ ((t471.length : Int) : Int) := of_decide_eq_true (by first | (with_reducible assumption) | assumption); obtain ⟨i079, hi079, _, hsz79, _⟩ := info_parts zFJ; have hroom79 : t471.length ≤ co78 := (Kd.wN zAJ.out).2.1; have hC79 : Kd.C Kd.string _ (some ad484) t471.length t471 := (Kd.wN zAJ.out).2.2; have hcut79 := zAD (P := Tryd.prog) 65 9 .i64 Tryd.underlying65 hi079 1 hsz79 (some ad484) t471.length co78 2 (by omega) q79; have hr79 := Kd.zIA (m := (2 : Int).toNat) (c := co78) hC79 (by omega) hroom79; obtain ⟨A79, hA79⟩ : ∃ A1, A1 = (if co78 = (2 : Int).toNat then (some ad484) else ((some ad484) : Option Addr).map (·.add ((2 : Int).toNat * 1))) := ⟨_, rfl⟩; obtain ⟨c79, hc79⟩ : ∃ c1, c1 = co78 - (2 : Int).toNat := ⟨_, rfl⟩; have hy79 : y487.length = t471.length - (2 : Int).toNat := (by rw [Ny487.out, List.length_drop] <;> omega); rw [show (t471).drop (2 : Int).toNat = y487 from Ny487.out.symm] at hr79; replace hr79 : Kd.C Kd.string _ A79 y487.length y487 := (by rw [hA79]; exact hr79); rw [← hy79, ← hA79, ← hc79] at hcut79; have HR490 := zA.mk hr79; have HC490 := zA.mk (show y487.length ≤ c79 from by rw [hy79, hc79]; exact Nat.sub_le_sub_right hroom79 _); clear hr79 hC79 hroom79 hi079 hsz79 hc79; have KY79 := zA.mk hy79; have KA79 := zA.mk hA79; clear hy79 hA79; have KL79 := zA.mk (show 2 ≤ t471.length from by omega); replace q79 := eq_true q79) | ((with_reducible refine zQ (f := 51) rfl ?_); refine vN (some 93) rfl rfl Tryd.func51 (by kernel_rfl) rfl #[.slice A79 y487.length c79] rfl (by (try simp only [List.map_toArray, List.map_cons, List.map_nil]); first | done | rfl | (simp only [List.length_drop, List.length_take]; rfl)) ?_; (with_reducible refine (wM.calls kj47 _ _ y487 t491 false _ ?side1 ?side2 A59.out).mono ?_); (case side1 => repeat (first | exact (by repeat (first | (with_reducible exact HR490.out) | (with_reducible refine Kd.zP ?_ _) | (with_reducible refine Kd.zO ?_ _) | (with_reducible refine Kd.zY ?_) | exact HR490.out)) | (with_reducible refine Kd.zP ?_ _) | (with_reducible refine Kd.zO ?_ _) | (with_reducible refine Kd.zY ?_))); (case side2 => exact HC490.out); rintro e w80 ⟨v493, rfl, ho0, hb⟩; refine ⟨_, rfl, ?_⟩; have n0_ := zA.mk (Kd.wO (by (with_reducible repeat (first | apply Kd.zK | apply Kd.zJ | apply Kd.zT)); exact zCB.out) hb); have n1_ := zA.mk (Kd.wO (by (with_reducible repeat (first | apply Kd.zK | apply Kd.zJ | apply Kd.zT)); exact zAJ.out) hb); have n2_ := zA.mk (Kd.qO (by (with_reducible repeat (first | apply Kd.zK | apply Kd.zJ | apply Kd.zT)); exact wZ.out) (Kd.qF ho0) hb); have n3_ := zA.mk (Kd.qO (by (with_reducible repeat (first | apply Kd.zK | apply Kd.zJ | apply Kd.zT)); exact wU.out) (Kd.qF ho0) hb); have n4_ := zA.mk (Kd.zGM (by (with_reducible repeat (first | apply Kd.jM | apply Kd.jL | apply Kd.kF)); exact wS.out) (Kd.qF ho0) hb); have n5_ := zA.mk (Kd.yD (Kd.yO (Kd.yO ho0 (Kd.R_lt (by (with_reducible repeat (first | apply Kd.zK | apply Kd.zJ | apply Kd.zT)); exact wZ.out))) (Kd.R_lt (by (with_reducible repeat (first | apply Kd.zK | apply Kd.zJ | apply Kd.zT)); exact wU.out))) (zD (eG HB.out))); have n6_ := zA.mk (zM (bG vV.out) hb); have n7_ := zA.mk (zM (bG qD.out) hb); have n8_ := zA.mk (Kd.zX (by repeat (first | (with_reducible exact HR490.out) | (with_reducible refine Kd.zP ?_ _) | (with_reducible refine Kd.zO ?_ _) | (with_reducible refine Kd.zY ?_) | exact HR490.out)) hb); have n9_ := zA.mk (zG (eG HB.out) hb); clear zCB; clear zAJ; clear wZ; clear wU; clear wS; clear vV; clear qD; clear HR490; clear HB; have zCB := n0_; have zAJ := n1_; have wZ := n2_; have wU := n3_; have wS := n4_; have zJR := n5_; have vV := n6_; have qD := n7_; have HR490 := n8_; have HB := n9_; clear n0_ n1_ n2_ n3_ n4_ n5_ n6_ n7_ n8_ n9_; (try clear hb); (try clear hb2); (try clear hk); (try clear hi); (try clear ho0); have hnb81 := jW.out; have hnc81 := zAG.out; have hcz82_0 : w80.cell? ⟨yN, 0, none⟩ = some (.slice none 0 0) := (zC vV.out 0).trans rfl; have hcz82_1 : w80.cell? ⟨yN, 1, none⟩ = some (.slice none 0 0) := (zC vV.out 1).trans rfl; have hcz82_2 : w80.cell? ⟨yN, 2, none⟩ = some (.slice none 0 0) := (zC vV.out 2).trans rfl; have hfz82_0 := zB vV.out 0; have hfz82_1 := zB vV.out 1; have hfz82_2 := zB vV.out 2))
                  refine bodyPost_ret (yB rfl _ _ yN 25 #[.slice none 0 0, .slice none 0 0, .slice none 0 0] (0, 0) _ rfl (by (with_reducible repeat first | apply bN | apply bD | apply bA); refine vA (cs := #[.slice none 0 0, .slice none 0 0, .slice none 0 0]) ?_ 2 _ rfl; (with_reducible repeat first | apply bN | apply bD | apply bA); refine vA (cs := #[.slice none 0 0, .slice none 0 0, .slice none 0 0]) ?_ 1 _ rfl; (with_reducible repeat first | apply bN | apply bD | apply bA); refine vA (cs := #[.slice none 0 0, .slice none 0 0, .slice none 0 0]) ?_ 0 _ rfl; (with_reducible repeat first | apply bN | apply bD | apply bA); exact vV.out) Tryd.underlying25 rfl (by kernel_rfl)) rfl ?_; exact ⟨_, _, _, by first | rfl | (simp [zI, zH] <;> rfl) | (simp [*, zI, zH] <;> rfl), by first | exact Kd.yV _ _ _ _ _ | exact Kd.jF _ _ _ _ _ | exact Kd.jC _ _ _ _ _ | exact Kd.jE _ _ _ _ _ | exact Kd.jD _ _ _ _ _, by first | exact Kd.yV _ _ _ _ _ | exact Kd.jF _ _ _ _ _ | exact Kd.jC _ _ _ _ _ | exact Kd.jE _ _ _ _ _ | exact Kd.jD _ _ _ _ _, by first | exact Kd.jD _ _ _ _ _ | exact Kd.jF _ _ _ _ _ | exact Kd.jC _ _ _ _ _ | exact Kd.jE _ _ _ _ _ | exact Kd.yV _ _ _ _ _, eG HB.out⟩
                ·
                 replace c60 := Bool.eq_false_iff.mpr c60; subst c60; replace H : (some (([] : List Int), ([] : List Int), ([] : List (List Int)), x8_1, 3)) = some (r1, r2, r3, r4, r5) := by rw [if_neg (show ¬ (false = true) by decide)] at H; exact H
                 simp only [Option.some.injEq, Prod.mk.injEq] at H; obtain ⟨rfl, rfl, rfl, rfl, rfl⟩ := H; obtain ⟨Ao83, co83, eo83⟩ := Kd.qQ zAJ.out; subst eo83; have p484 : 0 ≤ (1 : Int) := (by omega); have q484 : 1 < (t471.length : Int) := of_decide_eq_true (by first | (with_reducible assumption) | assumption); obtain ⟨ad484, e484, zFK⟩ := Kd.jU (Kd.wN zAJ.out).2.2 1 p484 q484; cases e484; (try simp only [show (1 : Int).toNat = 1 from rfl, Nat.reduceMul, Nat.reduceEqDiff, Go.Addr.add, ↓reduceIte] at zFK)
                 have qi484 : (1 < t471.length) = True := eq_true (by omega); (try rw [show ((1 : Int)).toNat = 1 from rfl] at zFK)
                 replace p484 := eq_true p484; replace q484 := eq_true q484; go_wp2_with (first | ((with_reducible refine zQ (f := 52) rfl ?_); refine vN (some 87) rfl rfl Tryd.func52 (by kernel_rfl) rfl #[.string (rdOf ByteArray.empty t471 1)] rfl (by (try simp only [List.map_toArray, List.map_cons, List.map_nil]); first | done | rfl | (simp only [List.length_drop, List.length_take]; rfl)) ?_; (with_reducible refine (vQ.calls kj47 (rdOf ByteArray.empty t471 1) t485 false _ A57.out).mono ?_); rintro e w' ⟨rfl, ⟨nd, rfl⟩⟩; refine ⟨_, rfl, ?_⟩; (try (rw [zGL wc]; generalize hq_ : World.drewN wc _ = wc; have n0_ : zA (Kd.R (Kd.int .i64) 3 wc w.heap.size (fun k_ => some k_ ≠ (qW : Value).ownBlock) yK vY) := ⟨by rw [← hq_]; exact (by (with_reducible repeat (first | apply Kd.zK | apply Kd.zJ | apply Kd.zT)); exact wZ.out)⟩; have n1_ : zA (Kd.R (Kd.int .i64) 3 wc w.heap.size (fun k_ => some k_ ≠ (yK : Value).ownBlock) qW qL) := ⟨by rw [← hq_]; exact (by (with_reducible repeat (first | apply Kd.zK | apply Kd.zJ | apply Kd.zT)); exact wU.out)⟩; have n2_ : zA (Kd.S (Kd.slice 3 (Kd.int .i64)) 22 wc w.heap.size (fun k_ => some k_ ≠ (yK : Value).ownBlock ∧ some k_ ≠ (qW : Value).ownBlock) jJ vU) := ⟨by rw [← hq_]; exact (by (with_reducible repeat (first | apply Kd.jM | apply Kd.jL | apply Kd.kF)); exact wS.out)⟩; have n3_ : zA (Kd.R Kd.string 9 wc w.heap.size (fun k_ => some k_ ≠ (.slice (some ad484) t471.length co83 : Value).ownBlock) (.slice (some ad470) t464.length co13) t464) := ⟨by rw [← hq_]; exact (by (with_reducible repeat (first | apply Kd.zK | apply Kd.zJ | apply Kd.zT)); exact zCB.out)⟩; have n4_ : zA (Kd.R Kd.string 9 wc w.heap.size (fun k_ => some k_ ≠ (.slice (some ad470) t464.length co13 : Value).ownBlock) (.slice (some ad484) t471.length co83) t471) := ⟨by rw [← hq_]; exact (by (with_reducible repeat (first | apply Kd.zK | apply Kd.zJ | apply Kd.zT)); exact zAJ.out)⟩; have n5_ : zA (wc.heap[yN]? = some (.cells #[.slice none 0 0, .slice none 0 0, .slice none 0 0] 25 (0, 0))) := ⟨by rw [← hq_]; exact (bG vV.out)⟩; have n6_ : zA (wc.heap[jN]? = some (.cells #[yK, qW, jJ] 25 (0, 0))) := ⟨by rw [← hq_]; exact (bG qD.out)⟩; have n7_ : zA (Below w.heap.size w wc) := ⟨by rw [← hq_]; exact (eG HB.out)⟩; clear wZ wU wS zCB zAJ vV qD HB hq_; have wZ := n0_; have wU := n1_; have wS := n2_; have zCB := n3_; have zAJ := n4_; have vV := n5_; have qD := n6_; have HB := n7_; clear n0_ n1_ n2_ n3_ n4_ n5_ n6_ n7_)); have q84 : (2 : Int) ≤ ((t471.length : Int) : Int) := of_decide_eq_true (by first | (with_reducible assumption) | assumption); obtain ⟨i084, hi084, _, hsz84, _⟩ := info_parts zFJ; have hroom84 : t471.length ≤ co83 := (Kd.wN zAJ.out).2.1; have hC84 : Kd.C Kd.string _ (some ad484) t471.length t471 := (Kd.wN zAJ.out).2.2; have hcut84 := zAD (P := Tryd.prog) 65 9 .i64 Tryd.underlying65 hi084 1 hsz84 (some ad484) t471.length co83 2 (by omega) q84; have hr84 := Kd.zIA (m := (2 : Int).toNat) (c := co83) hC84 (by omega) hroom84; obtain ⟨A84, hA84⟩ : ∃ A1, A1 = (if co83 = (2 : Int).toNat then (some ad484) else ((some ad484) : Option Addr).map (·.add ((2 : Int).toNat * 1))) := ⟨_, rfl⟩; obtain ⟨c84, hc84⟩ : ∃ c1, c1 = co83 - (2 : Int).toNat := ⟨_, rfl⟩; have hy84 : y487.length = t471.length - (2 : Int).toNat := (by rw [Ny487.out, List.length_drop] <;> omega); rw [show (t471).drop (2 : Int).toNat = y487 from Ny487.out.symm] at hr84; replace hr84 : Kd.C Kd.string _ A84 y487.length y487 := (by rw [hA84]; exact hr84); rw [← hy84, ← hA84, ← hc84] at hcut84; have HR490 := zA.mk hr84; have HC490 := zA.mk (show y487.length ≤ c84 from by rw [hy84, hc84]; exact Nat.sub_le_sub_right hroom84 _); clear hr84 hC84 hroom84 hi084 hsz84 hc84; have KY84 := zA.mk hy84; have KA84 := zA.mk hA84; clear hy84 hA84; have KL84 := zA.mk (show 2 ≤ t471.length from by omega); replace q84 := eq_true q84) | ((with_reducible refine zQ (f := 51) rfl ?_); refine vN (some 93) rfl rfl Tryd.func51 (by kernel_rfl) rfl #[.slice A84 y487.length c84] rfl (by (try simp only [List.map_toArray, List.map_cons, List.map_nil]); first | done | rfl | (simp only [List.length_drop, List.length_take]; rfl)) ?_; (with_reducible refine (wM.calls kj47 _ _ y487 t491 t492 _ ?side1 ?side2 A59.out).mono ?_); (case side1 => repeat (first | exact (by repeat (first | (with_reducible exact HR490.out) | (with_reducible refine Kd.zP ?_ _) | (with_reducible refine Kd.zO ?_ _) | (with_reducible refine Kd.zY ?_) | exact HR490.out)) | (with_reducible refine Kd.zP ?_ _) | (with_reducible refine Kd.zO ?_ _) | (with_reducible refine Kd.zY ?_))); (case side2 => exact HC490.out); rintro e w85 ⟨v493, rfl, ho0, hb⟩; refine ⟨_, rfl, ?_⟩; have n0_ := zA.mk (Kd.wO (by (with_reducible repeat (first | apply Kd.zK | apply Kd.zJ | apply Kd.zT)); exact zCB.out) hb); have n1_ := zA.mk (Kd.wO (by (with_reducible repeat (first | apply Kd.zK | apply Kd.zJ | apply Kd.zT)); exact zAJ.out) hb); have n2_ := zA.mk (Kd.qO (by (with_reducible repeat (first | apply Kd.zK | apply Kd.zJ | apply Kd.zT)); exact wZ.out) (Kd.qF ho0) hb); have n3_ := zA.mk (Kd.qO (by (with_reducible repeat (first | apply Kd.zK | apply Kd.zJ | apply Kd.zT)); exact wU.out) (Kd.qF ho0) hb); have n4_ := zA.mk (Kd.zGM (by (with_reducible repeat (first | apply Kd.jM | apply Kd.jL | apply Kd.kF)); exact wS.out) (Kd.qF ho0) hb); have n5_ := zA.mk (Kd.yD (Kd.yO (Kd.yO ho0 (Kd.R_lt (by (with_reducible repeat (first | apply Kd.zK | apply Kd.zJ | apply Kd.zT)); exact wZ.out))) (Kd.R_lt (by (with_reducible repeat (first | apply Kd.zK | apply Kd.zJ | apply Kd.zT)); exact wU.out))) (zD (eG HB.out))); have n6_ := zA.mk (zM (bG vV.out) hb); have n7_ := zA.mk (zM (bG qD.out) hb); have n8_ := zA.mk (Kd.zX (by repeat (first | (with_reducible exact HR490.out) | (with_reducible refine Kd.zP ?_ _) | (with_reducible refine Kd.zO ?_ _) | (with_reducible refine Kd.zY ?_) | exact HR490.out)) hb); have n9_ := zA.mk (zG (eG HB.out) hb); clear zCB; clear zAJ; clear wZ; clear wU; clear wS; clear vV; clear qD; clear HR490; clear HB; have zCB := n0_; have zAJ := n1_; have wZ := n2_; have wU := n3_; have wS := n4_; have zJR := n5_; have vV := n6_; have qD := n7_; have HR490 := n8_; have HB := n9_; clear n0_ n1_ n2_ n3_ n4_ n5_ n6_ n7_ n8_ n9_; (try clear hb); (try clear hb2); (try clear hk); (try clear hi); (try clear ho0); have hnb86 := jW.out; have hnc86 := zAG.out; have hcz87_0 : w85.cell? ⟨yN, 0, none⟩ = some (.slice none 0 0) := (zC vV.out 0).trans rfl; have hcz87_1 : w85.cell? ⟨yN, 1, none⟩ = some (.slice none 0 0) := (zC vV.out 1).trans rfl; have hcz87_2 : w85.cell? ⟨yN, 2, none⟩ = some (.slice none 0 0) := (zC vV.out 2).trans rfl; have hfz87_0 := zB vV.out 0; have hfz87_1 := zB vV.out 1; have hfz87_2 := zB vV.out 2))
                 refine bodyPost_ret (yB rfl _ _ yN 25 #[.slice none 0 0, .slice none 0 0, .slice none 0 0] (0, 0) _ rfl (by (with_reducible repeat first | apply bN | apply bD | apply bA); refine vA (cs := #[.slice none 0 0, .slice none 0 0, .slice none 0 0]) ?_ 2 _ rfl; (with_reducible repeat first | apply bN | apply bD | apply bA); refine vA (cs := #[.slice none 0 0, .slice none 0 0, .slice none 0 0]) ?_ 1 _ rfl; (with_reducible repeat first | apply bN | apply bD | apply bA); refine vA (cs := #[.slice none 0 0, .slice none 0 0, .slice none 0 0]) ?_ 0 _ rfl; (with_reducible repeat first | apply bN | apply bD | apply bA); exact vV.out) Tryd.underlying25 rfl (by kernel_rfl)) rfl ?_; exact ⟨_, _, _, by first | rfl | (simp [zI, zH] <;> rfl) | (simp [*, zI, zH] <;> rfl), by first | exact Kd.yV _ _ _ _ _ | exact Kd.jF _ _ _ _ _ | exact Kd.jC _ _ _ _ _ | exact Kd.jE _ _ _ _ _ | exact Kd.jD _ _ _ _ _, by first | exact Kd.yV _ _ _ _ _ | exact Kd.jF _ _ _ _ _ | exact Kd.jC _ _ _ _ _ | exact Kd.jE _ _ _ _ _ | exact Kd.jD _ _ _ _ _, by first | exact Kd.jD _ _ _ _ _ | exact Kd.jF _ _ _ _ _ | exact Kd.jC _ _ _ _ _ | exact Kd.jE _ _ _ _ _ | exact Kd.yV _ _ _ _ _, eG HB.out⟩
               · rw [if_neg c58] at H; exact absurd H (by simp)
              · rw [if_neg c56] at H; exact absurd H (by simp)
      · rw [if_neg c18] at H; exact absurd H (by simp)
     ·
      rw [if_neg c17] at H; have c17b0 : decide (x8_1 < (t464.length : Int)) = false := decide_eq_false c17; clear c17; replace H := Option.bind_eq_some_iff.mp H; obtain ⟨t469, A880, H⟩ := H; replace H : (if t469 = 0 then (some (vY, qL, vU, (-1), 0)) else (some (([] : List Int), ([] : List Int), ([] : List (List Int)), (-1), t469))) = some (r1, r2, r3, r4, r5) := H; have A88 := zA.mk A880; clear A880; by_cases c89 : t469 = 0
      ·
       rw [if_pos c89] at H; have c89b0 : (t469 == 0) = true := beq_iff_eq.mpr c89; have c89b1 : (t469 != 0) = false := bne_eq_false_iff_eq.mpr c89; clear c89; simp only [Option.some.injEq, Prod.mk.injEq] at H; obtain ⟨rfl, rfl, rfl, rfl, rfl⟩ := H; have hnb90 := zAG.out; have hnc90 := jW.out; have hcz91_0 : wr.cell? ⟨jN, 0, none⟩ = some (yK) := (zC qD.out 0).trans rfl; have hcz91_1 : wr.cell? ⟨jN, 1, none⟩ = some (qW) := (zC qD.out 1).trans rfl; have hcz91_2 : wr.cell? ⟨jN, 2, none⟩ = some (jJ) := (zC qD.out 2).trans rfl; have hfz91_0 := zB qD.out 0; have hfz91_1 := zB qD.out 1; have hfz91_2 := zB qD.out 2; obtain ⟨Ao92, co92, eo92⟩ := Kd.qQ wZ.out; subst eo92; obtain ⟨Ao93, co93, eo93⟩ := Kd.qQ wU.out; subst eo93; obtain ⟨Ao94, co94, eo94⟩ := Kd.zTG wS.out; subst eo94; go_wp2_with (first | ((with_reducible refine zQ (f := 19) rfl ?_); refine vN (some 117) rfl rfl Tryd.func19 (by kernel_rfl) rfl #[.agg #[.slice Ao92 vY.length co92, .slice Ao93 qL.length co93, .slice Ao94 vU.length co94]] rfl (by (try simp only [List.map_toArray, List.map_cons, List.map_nil]); first | done | rfl | (simp only [List.length_drop, List.length_take]; rfl)) ?_; (with_reducible refine (zF.calls k1 _ _ vY _ _ qL _ _ vU t469 _ ?side1 ?side2 ?side3 ?side4 ?side5 ?side6 A88.out).mono ?_); (case side1 => repeat (first | exact (Kd.wN wZ.out).2.2 | (with_reducible refine Kd.zP ?_ _) | (with_reducible refine Kd.zO ?_ _) | (with_reducible refine Kd.zY ?_))); (case side2 => exact (Kd.wN wZ.out).2.1); (case side3 => repeat (first | exact (Kd.wN wU.out).2.2 | (with_reducible refine Kd.zP ?_ _) | (with_reducible refine Kd.zO ?_ _) | (with_reducible refine Kd.zY ?_))); (case side4 => exact (Kd.wN wU.out).2.1); (case side5 => repeat (first | exact (Kd.zKJ wS.out).2.2 | (with_reducible refine Kd.zP ?_ _) | (with_reducible refine Kd.zO ?_ _) | (with_reducible refine Kd.zY ?_))); (case side6 => exact (Kd.zKJ wS.out).2.1); rintro e w95 ⟨rfl, hb⟩; refine ⟨_, rfl, ?_⟩; have n0_ := zA.mk (Kd.wO (by (with_reducible repeat (first | apply Kd.zK | apply Kd.zJ | apply Kd.zT)); exact zCB.out) hb); have n1_ := zA.mk (Kd.wO (by (with_reducible repeat (first | apply Kd.zK | apply Kd.zJ | apply Kd.zT)); exact wZ.out) hb); have n2_ := zA.mk (Kd.wO (by (with_reducible repeat (first | apply Kd.zK | apply Kd.zJ | apply Kd.zT)); exact wU.out) hb); have n3_ := zA.mk (Kd.zJN (by (with_reducible repeat (first | apply Kd.jM | apply Kd.jL | apply Kd.kF)); exact wS.out) hb); have n4_ := zA.mk (zM (bG vV.out) hb); have n5_ := zA.mk (zM (bG qD.out) hb); have n6_ := zA.mk (zG (eG HB.out) hb); clear zCB; clear wZ; clear wU; clear wS; clear vV; clear qD; clear HB; have zCB := n0_; have wZ := n1_; have wU := n2_; have wS := n3_; have vV := n4_; have qD := n5_; have HB := n6_; clear n0_ n1_ n2_ n3_ n4_ n5_ n6_; (try clear hb); (try clear hb2); (try clear hk); (try clear hi); have hcz96_0 : w95.cell? ⟨jN, 0, none⟩ = some (.slice Ao92 vY.length co92) := (zC qD.out 0).trans rfl; have hcz96_1 : w95.cell? ⟨jN, 1, none⟩ = some (.slice Ao93 qL.length co93) := (zC qD.out 1).trans rfl; have hcz96_2 : w95.cell? ⟨jN, 2, none⟩ = some (.slice Ao94 vU.length co94) := (zC qD.out 2).trans rfl; have hfz96_0 := zB qD.out 0; have hfz96_1 := zB qD.out 1; have hfz96_2 := zB qD.out 2; have hcz97_0 : w95.cell? ⟨yN, 0, none⟩ = some (.slice none 0 0) := (zC vV.out 0).trans rfl; have hcz97_1 : w95.cell? ⟨yN, 1, none⟩ = some (.slice none 0 0) := (zC vV.out 1).trans rfl; have hcz97_2 : w95.cell? ⟨yN, 2, none⟩ = some (.slice none 0 0) := (zC vV.out 2).trans rfl; have hfz97_0 := zB vV.out 0; have hfz97_1 := zB vV.out 1; have hfz97_2 := zB vV.out 2))
       refine bodyPost_ret (yB rfl _ _ yN 25 #[.slice Ao92 vY.length co92, .slice Ao93 qL.length co93, .slice Ao94 vU.length co94] (0, 0) _ rfl (by (with_reducible repeat first | apply bN | apply bD | apply bA); refine vA (cs := #[.slice Ao92 vY.length co92, .slice Ao93 qL.length co93, .slice none 0 0]) ?_ 2 _ rfl; (with_reducible repeat first | apply bN | apply bD | apply bA); refine vA (cs := #[.slice Ao92 vY.length co92, .slice none 0 0, .slice none 0 0]) ?_ 1 _ rfl; (with_reducible repeat first | apply bN | apply bD | apply bA); refine vA (cs := #[.slice none 0 0, .slice none 0 0, .slice none 0 0]) ?_ 0 _ rfl; (with_reducible repeat first | apply bN | apply bD | apply bA); exact vV.out) Tryd.underlying25 rfl (by kernel_rfl)) rfl ?_; exact ⟨_, _, _, by first | rfl | (simp [zI, zH] <;> rfl) | (simp [*, zI, zH] <;> rfl), by (with_reducible repeat (first | apply Kd.zK | apply Kd.zJ | apply Kd.zT)); exact Kd.vP (Kd.qR (p := ⟨yN, 2, none⟩) (Kd.qR (p := ⟨yN, 1, none⟩) (Kd.qR (p := ⟨yN, 0, none⟩) (Kd.qE wZ.out vV.out (by decide)) (fun _ hk => hk.2) (.slice Ao92 vY.length co92)) (fun _ hk => hk.2) (.slice Ao93 qL.length co93)) (fun _ hk => hk.2) (.slice Ao94 vU.length co94)) (fun _ hk => hk.1), by (with_reducible repeat (first | apply Kd.zK | apply Kd.zJ | apply Kd.zT)); exact Kd.vP (Kd.qR (p := ⟨yN, 2, none⟩) (Kd.qR (p := ⟨yN, 1, none⟩) (Kd.qR (p := ⟨yN, 0, none⟩) (Kd.qE wU.out vV.out (by decide)) (fun _ hk => hk.2) (.slice Ao92 vY.length co92)) (fun _ hk => hk.2) (.slice Ao93 qL.length co93)) (fun _ hk => hk.2) (.slice Ao94 vU.length co94)) (fun _ hk => hk.1), by (with_reducible repeat (first | apply Kd.jM | apply Kd.jL | apply Kd.kF)); exact Kd.zMD (Kd.zUR (p := ⟨yN, 2, none⟩) (Kd.zUR (p := ⟨yN, 1, none⟩) (Kd.zUR (p := ⟨yN, 0, none⟩) (Kd.zPP wS.out vV.out (by decide)) (fun _ hk => hk.2) (.slice Ao92 vY.length co92)) (fun _ hk => hk.2) (.slice Ao93 qL.length co93)) (fun _ hk => hk.2) (.slice Ao94 vU.length co94)) (fun _ hk => ⟨hk.1.1, hk.1.2⟩), eG HB.out⟩
      ·
       rw [if_neg c89] at H; have c89b0 : (t469 == 0) = false := beq_eq_false_iff_ne.mpr c89; have c89b1 : (t469 != 0) = true := bne_iff_ne.mpr c89; simp only [Option.some.injEq, Prod.mk.injEq] at H; obtain ⟨rfl, rfl, rfl, rfl, rfl⟩ := H; have hnb98 := zAG.out; have hnc98 := jW.out; have hcz99_0 : wr.cell? ⟨jN, 0, none⟩ = some (yK) := (zC qD.out 0).trans rfl; have hcz99_1 : wr.cell? ⟨jN, 1, none⟩ = some (qW) := (zC qD.out 1).trans rfl; have hcz99_2 : wr.cell? ⟨jN, 2, none⟩ = some (jJ) := (zC qD.out 2).trans rfl; have hfz99_0 := zB qD.out 0; have hfz99_1 := zB qD.out 1; have hfz99_2 := zB qD.out 2; obtain ⟨Ao100, co100, eo100⟩ := Kd.qQ wZ.out; subst eo100; obtain ⟨Ao101, co101, eo101⟩ := Kd.qQ wU.out; subst eo101; obtain ⟨Ao102, co102, eo102⟩ := Kd.zTG wS.out; subst eo102; go_wp2_with (first | ((with_reducible refine zQ (f := 19) rfl ?_); refine vN (some 117) rfl rfl Tryd.func19 (by kernel_rfl) rfl #[.agg #[.slice Ao100 vY.length co100, .slice Ao101 qL.length co101, .slice Ao102 vU.length co102]] rfl (by (try simp only [List.map_toArray, List.map_cons, List.map_nil]); first | done | rfl | (simp only [List.length_drop, List.length_take]; rfl)) ?_; (with_reducible refine (zF.calls k1 _ _ vY _ _ qL _ _ vU t469 _ ?side1 ?side2 ?side3 ?side4 ?side5 ?side6 A88.out).mono ?_); (case side1 => repeat (first | exact (Kd.wN wZ.out).2.2 | (with_reducible refine Kd.zP ?_ _) | (with_reducible refine Kd.zO ?_ _) | (with_reducible refine Kd.zY ?_))); (case side2 => exact (Kd.wN wZ.out).2.1); (case side3 => repeat (first | exact (Kd.wN wU.out).2.2 | (with_reducible refine Kd.zP ?_ _) | (with_reducible refine Kd.zO ?_ _) | (with_reducible refine Kd.zY ?_))); (case side4 => exact (Kd.wN wU.out).2.1); (case side5 => repeat (first | exact (Kd.zKJ wS.out).2.2 | (with_reducible refine Kd.zP ?_ _) | (with_reducible refine Kd.zO ?_ _) | (with_reducible refine Kd.zY ?_))); (case side6 => exact (Kd.zKJ wS.out).2.1); rintro e w103 ⟨rfl, hb⟩; refine ⟨_, rfl, ?_⟩; have n0_ := zA.mk (Kd.wO (by (with_reducible repeat (first | apply Kd.zK | apply Kd.zJ | apply Kd.zT)); exact zCB.out) hb); have n1_ := zA.mk (Kd.wO (by (with_reducible repeat (first | apply Kd.zK | apply Kd.zJ | apply Kd.zT)); exact wZ.out) hb); have n2_ := zA.mk (Kd.wO (by (with_reducible repeat (first | apply Kd.zK | apply Kd.zJ | apply Kd.zT)); exact wU.out) hb); have n3_ := zA.mk (Kd.zJN (by (with_reducible repeat (first | apply Kd.jM | apply Kd.jL | apply Kd.kF)); exact wS.out) hb); have n4_ := zA.mk (zM (bG vV.out) hb); have n5_ := zA.mk (zM (bG qD.out) hb); have n6_ := zA.mk (zG (eG HB.out) hb); clear zCB; clear wZ; clear wU; clear wS; clear vV; clear qD; clear HB; have zCB := n0_; have wZ := n1_; have wU := n2_; have wS := n3_; have vV := n4_; have qD := n5_; have HB := n6_; clear n0_ n1_ n2_ n3_ n4_ n5_ n6_; (try clear hb); (try clear hb2); (try clear hk); (try clear hi); have hcz104_0 : w103.cell? ⟨yN, 0, none⟩ = some (.slice none 0 0) := (zC vV.out 0).trans rfl; have hcz104_1 : w103.cell? ⟨yN, 1, none⟩ = some (.slice none 0 0) := (zC vV.out 1).trans rfl; have hcz104_2 : w103.cell? ⟨yN, 2, none⟩ = some (.slice none 0 0) := (zC vV.out 2).trans rfl; have hfz104_0 := zB vV.out 0; have hfz104_1 := zB vV.out 1; have hfz104_2 := zB vV.out 2))
       refine bodyPost_ret (yB rfl _ _ yN 25 #[.slice none 0 0, .slice none 0 0, .slice none 0 0] (0, 0) _ rfl (by (with_reducible repeat first | apply bN | apply bD | apply bA); refine vA (cs := #[.slice none 0 0, .slice none 0 0, .slice none 0 0]) ?_ 2 _ rfl; (with_reducible repeat first | apply bN | apply bD | apply bA); refine vA (cs := #[.slice none 0 0, .slice none 0 0, .slice none 0 0]) ?_ 1 _ rfl; (with_reducible repeat first | apply bN | apply bD | apply bA); refine vA (cs := #[.slice none 0 0, .slice none 0 0, .slice none 0 0]) ?_ 0 _ rfl; (with_reducible repeat first | apply bN | apply bD | apply bA); exact vV.out) Tryd.underlying25 rfl (by kernel_rfl)) rfl ?_; exact ⟨_, _, _, by first | rfl | (simp [zI, zH] <;> rfl) | (simp [*, zI, zH] <;> rfl), by first | exact Kd.yV _ _ _ _ _ | exact Kd.jF _ _ _ _ _ | exact Kd.jC _ _ _ _ _ | exact Kd.jE _ _ _ _ _ | exact Kd.jD _ _ _ _ _, by first | exact Kd.yV _ _ _ _ _ | exact Kd.jF _ _ _ _ _ | exact Kd.jC _ _ _ _ _ | exact Kd.jE _ _ _ _ _ | exact Kd.jD _ _ _ _ _, by first | exact Kd.jD _ _ _ _ _ | exact Kd.jF _ _ _ _ _ | exact Kd.jC _ _ _ _ _ | exact Kd.jE _ _ _ _ _ | exact Kd.yV _ _ _ _ _, eG HB.out⟩
end Go.Proofs.YtmdfnambaedllaaDoor.Pr
namespace Go.Proofs.YtmdfnambaedllaaDoor.Pr
open Go.RowKit Go.Proofs.YtmdfnambaedllaaDoorW.PrintWords Go.Proofs.YtmdfnambaedllaaDoorW.PrintLast Go.Proofs.YtmdfnambaedllaaDoorW.PrintMore Go.Proofs.YtmdfnambaedllaaDoor.X
attribute [local go_sem] kJ kH zAS zAR uF uE kI kG   -- for this text's walks alone
set_option linter.unusedVariables false
set_option linter.unusedSimpArgs false
def wK.l0 : Nat → List Int → List Int → Int → Option (Bool)
 | 0, _, _, _ => none
 | k + 1, x0, x1, x5 => if x5 < (x0.length : Int) then (if 0 ≤ x5 then (if x5 < (x1.length : Int) then (if (rd x0 x5) = (rd x1 x5) then (wK.l0 k x0 x1 (wrap64 (x5 + 1))) else (some false)) else (none)) else (none)) else (some true)
def wK.f (k : Nat) (l0 : List Int) (l1 : List Int) : Option (Bool) := if (l0.length : Int) = (l1.length : Int) then (wK.l0 k l0 l1 0) else (some false)
set_option maxHeartbeats 8000000 in
set_option maxRecDepth 100000 in
theorem wK.calls (k : Nat) (A0 : Option Addr) (c0 : Nat) (l0 : List Int) (A1 : Option Addr) (c1 : Nat) (l1 : List Int) (r : Bool) (w : World) (hr0 : Kd.C (Kd.int .i64) w A0 l0.length l0) (hc0 : l0.length ≤ c0) (hr1 : Kd.C (Kd.int .i64) w A1 l1.length l1) (hc1 : l1.length ≤ c1) (h : wK.f k l0 l1 = some r) :
  Calls Tryd.prog 53 #[.slice A0 l0.length c0, .slice A1 l1.length c1] w fun e w' => e = .returned (.bool r) ∧ wI w w' := by
 have HR0 := zA.mk hr0; have HC0 := zA.mk hc0; clear hr0 hc0; have HR1 := zA.mk hr1; have HC1 := zA.mk hc1; clear hr1 hc1; have H : (if (l0.length : Int) = (l1.length : Int) then (wK.l0 k l0 l1 0) else (some false)) = some r := h; clear h; by_cases c3 : (l0.length : Int) = (l1.length : Int)
 ·
  rw [if_pos c3] at H; have c3b0 : ((l0.length : Int) == (l1.length : Int)) = true := beq_iff_eq.mpr c3; have c3b1 : ((l0.length : Int) != (l1.length : Int)) = false := bne_eq_false_iff_eq.mpr c3; have c3b2 : (l0.length == l1.length) = true := by first | simpa using c3 | (simp at c3 ⊢; omega)
  clear c3; have H' := zA.mk H; clear H; go_enter Tryd.func53, Tryd.ntmps53
  go_wp2; repeat (go_quiet (fail); try go_wp2)
  go_loopg [5] k (fun kq v5 w' => ∃ (x5_1 : Int), v5 = .int .i64 x5_1 ∧ zA (wK.l0 kq l0 l1 x5_1 = some r) ∧ zA (kq ≤ k) ∧ wI w w')
  case atStart => exact ⟨(0), (by first | rfl | (simp; done) | (simp [*]; done)), H', ⟨Nat.le_refl _⟩, by repeat (first | exact wI.refl _ | apply wI.step)⟩
  case round =>
   clear H'; try clear c1
   try clear p2
   try clear c3
   try clear c3b0
   try clear c3b1
   try clear c3b2
   obtain ⟨x5_1, rfl, HA, HK1, ⟨m1, rfl⟩⟩ := hrel
   cases gk with
   | zero => exact absurd HA.out (by simp [wK.l0])
   | succ k1 =>
    have H := HA.out; clear HA; simp only [wK.l0] at H; by_cases c4 : x5_1 < (l0.length : Int)
    ·
     rw [if_pos c4] at H; have c4b0 : decide (x5_1 < (l0.length : Int)) = true := decide_eq_true c4; clear c4; by_cases c5 : 0 ≤ x5_1
     ·
      rw [if_pos c5] at H; have c5b0 : decide (0 ≤ x5_1) = true := decide_eq_true c5; clear c5; by_cases c6 : x5_1 < (l1.length : Int)
      ·
       rw [if_pos c6] at H; have c6b0 : decide (x5_1 < (l1.length : Int)) = true := decide_eq_true c6; clear c6; by_cases c7 : (rd l0 x5_1) = (rd l1 x5_1)
       ·
        rw [if_pos c7] at H; have c7b0 : ((rd l0 x5_1) == (rd l1 x5_1)) = true := beq_iff_eq.mpr c7; have c7b1 : ((rd l0 x5_1) != (rd l1 x5_1)) = false := bne_eq_false_iff_eq.mpr c7; clear c7; have H' := zA.mk H; clear H; have p501 : 0 ≤ (x5_1 : Int) := of_decide_eq_true (by first | (with_reducible assumption) | assumption); have q501 : x5_1 < (l0.length : Int) := of_decide_eq_true (by first | (with_reducible assumption) | assumption); obtain ⟨ad501, e501, hx501_0⟩ := Kd.qC HR0.out x5_1 p501 q501; cases e501; replace p501 := eq_true p501; replace q501 := eq_true q501; have p502 : 0 ≤ (x5_1 : Int) := of_decide_eq_true (by first | (with_reducible assumption) | assumption); have q502 : x5_1 < (l1.length : Int) := of_decide_eq_true (by first | (with_reducible assumption) | assumption); obtain ⟨ad502, e502, hx502_0⟩ := Kd.qC HR1.out x5_1 p502 q502; cases e502; replace p502 := eq_true p502; replace q502 := eq_true q502; go_wp2; repeat (go_quiet (fail); try go_wp2)
        go_roundg k1
        case measure => have := HK1.out; omega
        case rel => exact ⟨(wrap64 (x5_1 + 1)), (by first | rfl | (simp; done) | (simp [*]; done)), H', ⟨by have := HK1.out; omega⟩, by repeat (first | exact wI.refl _ | apply wI.step)⟩
       ·
        rw [if_neg c7] at H; have c7b0 : ((rd l0 x5_1) == (rd l1 x5_1)) = false := beq_eq_false_iff_ne.mpr c7; have c7b1 : ((rd l0 x5_1) != (rd l1 x5_1)) = true := bne_iff_ne.mpr c7; obtain rfl := Option.some.inj H; have p501 : 0 ≤ (x5_1 : Int) := of_decide_eq_true (by first | (with_reducible assumption) | assumption); have q501 : x5_1 < (l0.length : Int) := of_decide_eq_true (by first | (with_reducible assumption) | assumption); obtain ⟨ad501, e501, hx501_0⟩ := Kd.qC HR0.out x5_1 p501 q501; cases e501; replace p501 := eq_true p501; replace q501 := eq_true q501; have p502 : 0 ≤ (x5_1 : Int) := of_decide_eq_true (by first | (with_reducible assumption) | assumption); have q502 : x5_1 < (l1.length : Int) := of_decide_eq_true (by first | (with_reducible assumption) | assumption); obtain ⟨ad502, e502, hx502_0⟩ := Kd.qC HR1.out x5_1 p502 q502; cases e502; replace p502 := eq_true p502; replace q502 := eq_true q502; go_wp2; repeat (go_quiet (fail); try go_wp2)
        go_ret
        exact ⟨by first | rfl | (simp; done) | (simp [*]; done), by repeat (first | exact wI.refl _ | apply wI.step)⟩
      · rw [if_neg c6] at H; exact absurd H (by simp)
     · rw [if_neg c5] at H; exact absurd H (by simp)
    ·
     rw [if_neg c4] at H; have c4b0 : decide (x5_1 < (l0.length : Int)) = false := decide_eq_false c4; clear c4; obtain rfl := Option.some.inj H; go_wp2; repeat (go_quiet (fail); try go_wp2)
     go_ret
     exact ⟨by first | rfl | (simp; done) | (simp [*]; done), by repeat (first | exact wI.refl _ | apply wI.step)⟩
 ·
  rw [if_neg c3] at H; have c3b0 : ((l0.length : Int) == (l1.length : Int)) = false := beq_eq_false_iff_ne.mpr c3; have c3b1 : ((l0.length : Int) != (l1.length : Int)) = true := bne_iff_ne.mpr c3; have c3b2 : (l0.length == l1.length) = false := by first | simpa using c3 | (simp at c3 ⊢; omega)
  obtain rfl := Option.some.inj H; go_enter Tryd.func53, Tryd.ntmps53
  go_wp2; repeat (go_quiet (fail); try go_wp2)
  go_ret
  exact ⟨by first | rfl | (simp; done) | (simp [*]; done), by repeat (first | exact wI.refl _ | apply wI.step)⟩
mutual
def wE.j0 : Nat → Bool → List Int → List Int → List (List Int) → List Int → List Int → List (List Int) → Option (Bool)
 | 0, _, _, _, _, _, _, _ => none
 | k + 1, x28, zRE, zRD, zKL, zRC, zRB, zKK => if x28 = true then (some false) else (wE.l0 k 0 zRE zRD zKL zRC zRB zKK)
def wE.l0 : Nat → Int → List Int → List Int → List (List Int) → List Int → List Int → List (List Int) → Option (Bool)
 | 0, _, _, _, _, _, _, _ => none
 | k + 1, x5, zRE, zRD, zKL, zRC, zRB, zKK => if x5 < (zKL.length : Int) then (if 0 ≤ x5 then (if x5 < (zKK.length : Int) then ((wK.f k (zW zKL x5) (zW zKK x5)).bind fun t509 => (if t509 = true then (wE.l0 k (wrap64 (x5 + 1)) zRE zRD zKL zRC zRB zKK) else (some false))) else (none)) else (none)) else (some true)
end
def wE.f (k : Nat) (l0_0 : List Int) (l0_1 : List Int) (l0_2 : List (List Int)) (l1_0 : List Int) (l1_1 : List Int) (l1_2 : List (List Int)) : Option (Bool) := (wK.f k l0_0 l1_0).bind fun t505 => (if t505 = true then ((wK.f k l0_1 l1_1).bind fun t506 => (if t506 = true then (wE.j0 k ((l0_2.length : Int) != (l1_2.length : Int)) l0_0 l0_1 l0_2 l1_0 l1_1 l1_2) else (wE.j0 k true l0_0 l0_1 l0_2 l1_0 l1_1 l1_2))) else (wE.j0 k true l0_0 l0_1 l0_2 l1_0 l1_1 l1_2))
set_option maxHeartbeats 8000000 in
set_option maxRecDepth 100000 in
theorem wE.calls (k : Nat) (A0_0 : Option Addr) (c0_0 : Nat) (l0_0 : List Int) (A0_1 : Option Addr) (c0_1 : Nat) (l0_1 : List Int) (A0_2 : Option Addr) (c0_2 : Nat) (l0_2 : List (List Int)) (A1_0 : Option Addr) (c1_0 : Nat) (l1_0 : List Int) (A1_1 : Option Addr) (c1_1 : Nat) (l1_1 : List Int) (A1_2 : Option Addr) (c1_2 : Nat) (l1_2 : List (List Int)) (r : Bool) (w : World) (hr0_0 : Kd.C (Kd.int .i64) w A0_0 l0_0.length l0_0) (zAW : l0_0.length ≤ c0_0) (hr0_1 : Kd.C (Kd.int .i64) w A0_1 l0_1.length l0_1) (zAV : l0_1.length ≤ c0_1) (hr0_2 : Kd.C (Kd.slice 3 (Kd.int .i64)) w A0_2 l0_2.length l0_2) (zAU : l0_2.length ≤ c0_2) (hr1_0 : Kd.C (Kd.int .i64) w A1_0 l1_0.length l1_0) (zXI : l1_0.length ≤ c1_0) (hr1_1 : Kd.C (Kd.int .i64) w A1_1 l1_1.length l1_1) (hc1_1 : l1_1.length ≤ c1_1) (hr1_2 : Kd.C (Kd.slice 3 (Kd.int .i64)) w A1_2 l1_2.length l1_2) (hc1_2 : l1_2.length ≤ c1_2) (h : wE.f k l0_0 l0_1 l0_2 l1_0 l1_1 l1_2 = some r) :
  Calls Tryd.prog 24 #[.agg #[.slice A0_0 l0_0.length c0_0, .slice A0_1 l0_1.length c0_1, .slice A0_2 l0_2.length c0_2], .agg #[.slice A1_0 l1_0.length c1_0, .slice A1_1 l1_1.length c1_1, .slice A1_2 l1_2.length c1_2]] w fun e w' => e = .returned (.bool r) ∧ Below w.heap.size w w' := by
 have hu25 := Tryd.underlying25; have HR0_0 := zA.mk hr0_0; have HC0_0 := zA.mk zAW; clear hr0_0 zAW; have HR0_1 := zA.mk hr0_1; have HC0_1 := zA.mk zAV; clear hr0_1 zAV; have HR0_2 := zA.mk hr0_2; have HC0_2 := zA.mk zAU; clear hr0_2 zAU; have HR1_0 := zA.mk hr1_0; have HC1_0 := zA.mk zXI; clear hr1_0 zXI; have HR1_1 := zA.mk hr1_1; have HC1_1 := zA.mk hc1_1; clear hr1_1 hc1_1; have HR1_2 := zA.mk hr1_2; have HC1_2 := zA.mk hc1_2; clear hr1_2 hc1_2; have HB := zA.mk (Below.refl w.heap.size w); have H : ((wK.f k l0_0 l1_0).bind fun t505 => (if t505 = true then ((wK.f k l0_1 l1_1).bind fun t506 => (if t506 = true then (wE.j0 k ((l0_2.length : Int) != (l1_2.length : Int)) l0_0 l0_1 l0_2 l1_0 l1_1 l1_2) else (wE.j0 k true l0_0 l0_1 l0_2 l1_0 l1_1 l1_2))) else (wE.j0 k true l0_0 l0_1 l0_2 l1_0 l1_1 l1_2))) = some r := h; clear h; have HC3 := zA.mk H; clear H; go_enter Tryd.func24, Tryd.ntmps24
 go_upto_region 1 with (first | ((with_reducible refine vH (N := 2) rfl ?_); (try (refine vJ (by rfl) ?_; dsimp only)); refine vD ?hg (N := 2) ?hd (cs := #[.slice A0_0 l0_0.length c0_0, .slice A0_1 l0_1.length c0_1, .slice A0_2 l0_2.length c0_2]) (t := 25) ?hr ?_; (case hd => rfl); (case hg => rfl); (case hr => first | (go_simp; done) | (go_simp; rfl)); intro zAK hg w4 hbox hb; have n0_ := zA.mk (zG (eG HB.out) hb); have n1_ := zA.mk (hbox); have n2_ := zA.mk ((by rw [hg]; exact (zD (eG HB.out)) : w.heap.size ≤ zAK)); have n3_ := zA.mk ((by rw [hg]; exact (zD (eG HB.out)) : w.heap.size ≤ zAK)); clear HB; have HB := n0_; have jG := n1_; have GW503 := n2_; have zYL := n3_; have ig503_ := geI zYL; clear n0_ n1_ n2_ n3_; clear hb hbox hg) | ((with_reducible refine vH (N := 3) rfl ?_); (try (refine vJ (by rfl) ?_; dsimp only)); refine vD ?hg (N := 3) ?hd (cs := #[.slice A1_0 l1_0.length c1_0, .slice A1_1 l1_1.length c1_1, .slice A1_2 l1_2.length c1_2]) (t := 25) ?hr ?_; (case hd => rfl); (case hg => rfl); (case hr => first | (go_simp; done) | (go_simp; rfl)); intro zBP hg w5 hbox hb; have n0_ := zA.mk (zM (bG jG.out) hb); have n1_ := zA.mk (zG (eG HB.out) hb); have n2_ := zA.mk (hbox); have n3_ := zA.mk ((by rw [hg]; exact (zD (eG HB.out)) : w.heap.size ≤ zBP)); have n4_ := zA.mk ((by rw [hg]; exact (zD (eG HB.out)) : w.heap.size ≤ zBP)); have n5_ := zA.mk ((by rw [hg]; exact Nat.ne_of_lt (yG (bG jG.out)) : zAK ≠ zBP)); have n6_ := zA.mk ((by rw [hg]; exact Nat.ne_of_gt (yG (bG jG.out)) : zBP ≠ zAK)); clear jG; clear HB; have jG := n0_; have HB := n1_; have kV := n2_; have GW504 := n3_; have zYK := n4_; have ig504_ := geI zYK; have zCG := n5_; have zCF := n6_; clear n0_ n1_ n2_ n3_ n4_ n5_ n6_; clear hb hbox hg))
 repeat (go_quiet (first | ((with_reducible refine vH (N := 2) rfl ?_); (try (refine vJ (by rfl) ?_; dsimp only)); refine vD ?hg (N := 2) ?hd (cs := #[.slice A0_0 l0_0.length c0_0, .slice A0_1 l0_1.length c0_1, .slice A0_2 l0_2.length c0_2]) (t := 25) ?hr ?_; (case hd => rfl); (case hg => rfl); (case hr => first | (go_simp; done) | (go_simp; rfl)); intro zAK hg w4 hbox hb; have n0_ := zA.mk (zG (eG HB.out) hb); have n1_ := zA.mk (hbox); have n2_ := zA.mk ((by rw [hg]; exact (zD (eG HB.out)) : w.heap.size ≤ zAK)); have n3_ := zA.mk ((by rw [hg]; exact (zD (eG HB.out)) : w.heap.size ≤ zAK)); clear HB; have HB := n0_; have jG := n1_; have GW503 := n2_; have zYL := n3_; have ig503_ := geI zYL; clear n0_ n1_ n2_ n3_; clear hb hbox hg) | ((with_reducible refine vH (N := 3) rfl ?_); (try (refine vJ (by rfl) ?_; dsimp only)); refine vD ?hg (N := 3) ?hd (cs := #[.slice A1_0 l1_0.length c1_0, .slice A1_1 l1_1.length c1_1, .slice A1_2 l1_2.length c1_2]) (t := 25) ?hr ?_; (case hd => rfl); (case hg => rfl); (case hr => first | (go_simp; done) | (go_simp; rfl)); intro zBP hg w5 hbox hb; have n0_ := zA.mk (zM (bG jG.out) hb); have n1_ := zA.mk (zG (eG HB.out) hb); have n2_ := zA.mk (hbox); have n3_ := zA.mk ((by rw [hg]; exact (zD (eG HB.out)) : w.heap.size ≤ zBP)); have n4_ := zA.mk ((by rw [hg]; exact (zD (eG HB.out)) : w.heap.size ≤ zBP)); have n5_ := zA.mk ((by rw [hg]; exact Nat.ne_of_lt (yG (bG jG.out)) : zAK ≠ zBP)); have n6_ := zA.mk ((by rw [hg]; exact Nat.ne_of_gt (yG (bG jG.out)) : zBP ≠ zAK)); clear jG; clear HB; have jG := n0_; have HB := n1_; have kV := n2_; have GW504 := n3_; have zYK := n4_; have ig504_ := geI zYK; have zCG := n5_; have zCF := n6_; clear n0_ n1_ n2_ n3_ n4_ n5_ n6_; clear hb hbox hg)); go_upto_region 1 with (first | ((with_reducible refine vH (N := 2) rfl ?_); (try (refine vJ (by rfl) ?_; dsimp only)); refine vD ?hg (N := 2) ?hd (cs := #[.slice A0_0 l0_0.length c0_0, .slice A0_1 l0_1.length c0_1, .slice A0_2 l0_2.length c0_2]) (t := 25) ?hr ?_; (case hd => rfl); (case hg => rfl); (case hr => first | (go_simp; done) | (go_simp; rfl)); intro zAK hg w4 hbox hb; have n0_ := zA.mk (zG (eG HB.out) hb); have n1_ := zA.mk (hbox); have n2_ := zA.mk ((by rw [hg]; exact (zD (eG HB.out)) : w.heap.size ≤ zAK)); have n3_ := zA.mk ((by rw [hg]; exact (zD (eG HB.out)) : w.heap.size ≤ zAK)); clear HB; have HB := n0_; have jG := n1_; have GW503 := n2_; have zYL := n3_; have ig503_ := geI zYL; clear n0_ n1_ n2_ n3_; clear hb hbox hg) | ((with_reducible refine vH (N := 3) rfl ?_); (try (refine vJ (by rfl) ?_; dsimp only)); refine vD ?hg (N := 3) ?hd (cs := #[.slice A1_0 l1_0.length c1_0, .slice A1_1 l1_1.length c1_1, .slice A1_2 l1_2.length c1_2]) (t := 25) ?hr ?_; (case hd => rfl); (case hg => rfl); (case hr => first | (go_simp; done) | (go_simp; rfl)); intro zBP hg w5 hbox hb; have n0_ := zA.mk (zM (bG jG.out) hb); have n1_ := zA.mk (zG (eG HB.out) hb); have n2_ := zA.mk (hbox); have n3_ := zA.mk ((by rw [hg]; exact (zD (eG HB.out)) : w.heap.size ≤ zBP)); have n4_ := zA.mk ((by rw [hg]; exact (zD (eG HB.out)) : w.heap.size ≤ zBP)); have n5_ := zA.mk ((by rw [hg]; exact Nat.ne_of_lt (yG (bG jG.out)) : zAK ≠ zBP)); have n6_ := zA.mk ((by rw [hg]; exact Nat.ne_of_gt (yG (bG jG.out)) : zBP ≠ zAK)); clear jG; clear HB; have jG := n0_; have HB := n1_; have kV := n2_; have GW504 := n3_; have zYK := n4_; have ig504_ := geI zYK; have zCG := n5_; have zCF := n6_; clear n0_ n1_ n2_ n3_ n4_ n5_ n6_; clear hb hbox hg)))
 (try simp only [Act.put, sIA, sC0, sCS])
 go_cut [28] (fun v28 wc => ∃ (kq : Nat) (x28_2 : Bool), v28 = .bool x28_2 ∧ zA (wE.j0 kq x28_2 l0_0 l0_1 l0_2 l1_0 l1_1 l1_2 = some r) ∧ zA (kq ≤ k) ∧ zA (wc.heap[zAK]? = some (.cells #[(.slice A0_0 l0_0.length c0_0), (.slice A0_1 l0_1.length c0_1), (.slice A0_2 l0_2.length c0_2)] 25 (0, 0))) ∧ zA (wc.heap[zBP]? = some (.cells #[(.slice A1_0 l1_0.length c1_0), (.slice A1_1 l1_1.length c1_1), (.slice A1_2 l1_2.length c1_2)] 25 (0, 0))) ∧ zA (Below w.heap.size w wc))
 case first =>
  have H := HC3.out; clear HC3; replace H := Option.bind_eq_some_iff.mp H; obtain ⟨t505, A60, H⟩ := H; replace H : (if t505 = true then ((wK.f k l0_1 l1_1).bind fun t506 => (if t506 = true then (wE.j0 k ((l0_2.length : Int) != (l1_2.length : Int)) l0_0 l0_1 l0_2 l1_0 l1_1 l1_2) else (wE.j0 k true l0_0 l0_1 l0_2 l1_0 l1_1 l1_2))) else (wE.j0 k true l0_0 l0_1 l0_2 l1_0 l1_1 l1_2)) = some r := H; have A6 := zA.mk A60; clear A60; by_cases c7 : t505 = true
  ·
   subst c7; replace H : ((wK.f k l0_1 l1_1).bind fun t506 => (if t506 = true then (wE.j0 k ((l0_2.length : Int) != (l1_2.length : Int)) l0_0 l0_1 l0_2 l1_0 l1_1 l1_2) else (wE.j0 k true l0_0 l0_1 l0_2 l1_0 l1_1 l1_2))) = some r := by rw [if_pos rfl] at H; exact H
   replace H := Option.bind_eq_some_iff.mp H; obtain ⟨t506, A80, H⟩ := H; replace H : (if t506 = true then (wE.j0 k ((l0_2.length : Int) != (l1_2.length : Int)) l0_0 l0_1 l0_2 l1_0 l1_1 l1_2) else (wE.j0 k true l0_0 l0_1 l0_2 l1_0 l1_1 l1_2)) = some r := H; have A8 := zA.mk A80; clear A80; by_cases c9 : t506 = true
   ·
    subst c9; replace H : (wE.j0 k ((l0_2.length : Int) != (l1_2.length : Int)) l0_0 l0_1 l0_2 l1_0 l1_1 l1_2) = some r := by rw [if_pos rfl] at H; exact H
    have H' := zA.mk H; clear H; have hnb10 := zCG.out; have hnc10 := zCF.out; have zBL : w5.cell? ⟨zAK, 0, none⟩ = some (.slice A0_0 l0_0.length c0_0) := (zC jG.out 0).trans rfl; have zBK : w5.cell? ⟨zAK, 1, none⟩ = some (.slice A0_1 l0_1.length c0_1) := (zC jG.out 1).trans rfl; have zBJ : w5.cell? ⟨zAK, 2, none⟩ = some (.slice A0_2 l0_2.length c0_2) := (zC jG.out 2).trans rfl; have zBF := zB jG.out 0; have zBE := zB jG.out 1; have zBD := zB jG.out 2; have zDY : w5.cell? ⟨zBP, 0, none⟩ = some (.slice A1_0 l1_0.length c1_0) := (zC kV.out 0).trans rfl; have zDX : w5.cell? ⟨zBP, 1, none⟩ = some (.slice A1_1 l1_1.length c1_1) := (zC kV.out 1).trans rfl; have zDW : w5.cell? ⟨zBP, 2, none⟩ = some (.slice A1_2 l1_2.length c1_2) := (zC kV.out 2).trans rfl; have zDV := zB kV.out 0; have zDU := zB kV.out 1; have zDT := zB kV.out 2; go_wp2_with (first | (go_at_call 53; (with_reducible refine (wK.calls k _ _ l0_0 _ _ l1_0 true _ ?side1 ?side2 ?side3 ?side4 A6.out).mono ?_); (case side1 => repeat (first | exact (Kd.zX HR0_0.out HB.out) | (with_reducible refine Kd.zP ?_ _) | (with_reducible refine Kd.zO ?_ _) | (with_reducible refine Kd.zY ?_))); (case side2 => exact HC0_0.out); (case side3 => repeat (first | exact (Kd.zX HR1_0.out HB.out) | (with_reducible refine Kd.zP ?_ _) | (with_reducible refine Kd.zO ?_ _) | (with_reducible refine Kd.zY ?_))); (case side4 => exact HC1_0.out); rintro e w' ⟨rfl, ⟨nd, rfl⟩⟩; (try first | exact ⟨rfl, _, World.drewN_drewN _ _ _⟩ | exact ⟨rfl, _, Eq.trans (World.drewN_drewN _ _ _) (congrArg (World.drewN _) (Nat.add_assoc _ _ _))⟩)) | (go_at_call 53; (with_reducible refine (wK.calls k _ _ l0_1 _ _ l1_1 true _ ?side1 ?side2 ?side3 ?side4 A8.out).mono ?_); (case side1 => repeat (first | exact (Kd.zX HR0_1.out (eG HB.out)) | (with_reducible refine Kd.zP ?_ _) | (with_reducible refine Kd.zO ?_ _) | (with_reducible refine Kd.zY ?_))); (case side2 => exact HC0_1.out); (case side3 => repeat (first | exact (Kd.zX HR1_1.out (eG HB.out)) | (with_reducible refine Kd.zP ?_ _) | (with_reducible refine Kd.zO ?_ _) | (with_reducible refine Kd.zY ?_))); (case side4 => exact HC1_1.out); rintro e w' ⟨rfl, ⟨nd, rfl⟩⟩; (try first | exact ⟨rfl, _, World.drewN_drewN _ _ _⟩ | exact ⟨rfl, _, Eq.trans (World.drewN_drewN _ _ _) (congrArg (World.drewN _) (Nat.add_assoc _ _ _))⟩)))
    repeat (go_quiet (first | (go_at_call 53; (with_reducible refine (wK.calls k _ _ l0_0 _ _ l1_0 true _ ?side1 ?side2 ?side3 ?side4 A6.out).mono ?_); (case side1 => repeat (first | exact (Kd.zX HR0_0.out HB.out) | (with_reducible refine Kd.zP ?_ _) | (with_reducible refine Kd.zO ?_ _) | (with_reducible refine Kd.zY ?_))); (case side2 => exact HC0_0.out); (case side3 => repeat (first | exact (Kd.zX HR1_0.out HB.out) | (with_reducible refine Kd.zP ?_ _) | (with_reducible refine Kd.zO ?_ _) | (with_reducible refine Kd.zY ?_))); (case side4 => exact HC1_0.out); rintro e w' ⟨rfl, ⟨nd, rfl⟩⟩; (try first | exact ⟨rfl, _, World.drewN_drewN _ _ _⟩ | exact ⟨rfl, _, Eq.trans (World.drewN_drewN _ _ _) (congrArg (World.drewN _) (Nat.add_assoc _ _ _))⟩)) | (go_at_call 53; (with_reducible refine (wK.calls k _ _ l0_1 _ _ l1_1 true _ ?side1 ?side2 ?side3 ?side4 A8.out).mono ?_); (case side1 => repeat (first | exact (Kd.zX HR0_1.out (eG HB.out)) | (with_reducible refine Kd.zP ?_ _) | (with_reducible refine Kd.zO ?_ _) | (with_reducible refine Kd.zY ?_))); (case side2 => exact HC0_1.out); (case side3 => repeat (first | exact (Kd.zX HR1_1.out (eG HB.out)) | (with_reducible refine Kd.zP ?_ _) | (with_reducible refine Kd.zO ?_ _) | (with_reducible refine Kd.zY ?_))); (case side4 => exact HC1_1.out); rintro e w' ⟨rfl, ⟨nd, rfl⟩⟩; (try first | exact ⟨rfl, _, World.drewN_drewN _ _ _⟩ | exact ⟨rfl, _, Eq.trans (World.drewN_drewN _ _ _) (congrArg (World.drewN _) (Nat.add_assoc _ _ _))⟩))); try go_wp2_with (first | (go_at_call 53; (with_reducible refine (wK.calls k _ _ l0_0 _ _ l1_0 true _ ?side1 ?side2 ?side3 ?side4 A6.out).mono ?_); (case side1 => repeat (first | exact (Kd.zX HR0_0.out HB.out) | (with_reducible refine Kd.zP ?_ _) | (with_reducible refine Kd.zO ?_ _) | (with_reducible refine Kd.zY ?_))); (case side2 => exact HC0_0.out); (case side3 => repeat (first | exact (Kd.zX HR1_0.out HB.out) | (with_reducible refine Kd.zP ?_ _) | (with_reducible refine Kd.zO ?_ _) | (with_reducible refine Kd.zY ?_))); (case side4 => exact HC1_0.out); rintro e w' ⟨rfl, ⟨nd, rfl⟩⟩; (try first | exact ⟨rfl, _, World.drewN_drewN _ _ _⟩ | exact ⟨rfl, _, Eq.trans (World.drewN_drewN _ _ _) (congrArg (World.drewN _) (Nat.add_assoc _ _ _))⟩)) | (go_at_call 53; (with_reducible refine (wK.calls k _ _ l0_1 _ _ l1_1 true _ ?side1 ?side2 ?side3 ?side4 A8.out).mono ?_); (case side1 => repeat (first | exact (Kd.zX HR0_1.out (eG HB.out)) | (with_reducible refine Kd.zP ?_ _) | (with_reducible refine Kd.zO ?_ _) | (with_reducible refine Kd.zY ?_))); (case side2 => exact HC0_1.out); (case side3 => repeat (first | exact (Kd.zX HR1_1.out (eG HB.out)) | (with_reducible refine Kd.zP ?_ _) | (with_reducible refine Kd.zO ?_ _) | (with_reducible refine Kd.zY ?_))); (case side4 => exact HC1_1.out); rintro e w' ⟨rfl, ⟨nd, rfl⟩⟩; (try first | exact ⟨rfl, _, World.drewN_drewN _ _ _⟩ | exact ⟨rfl, _, Eq.trans (World.drewN_drewN _ _ _) (congrArg (World.drewN _) (Nat.add_assoc _ _ _))⟩))))
    go_meet
    case rel => exact ⟨_, (((l0_2.length : Int) != (l1_2.length : Int))), (by first | rfl | (simp; done) | (simp [*]; done)), H', ⟨by first | omega | exact Nat.le_refl _⟩, ⟨by (with_reducible repeat first | apply bN | apply bD | apply bA); exact jG.out⟩, ⟨by (with_reducible repeat first | apply bN | apply bD | apply bA); exact kV.out⟩, ⟨eG HB.out⟩⟩
   ·
    replace c9 := Bool.eq_false_iff.mpr c9; subst c9; replace H : (wE.j0 k true l0_0 l0_1 l0_2 l1_0 l1_1 l1_2) = some r := by rw [if_neg (show ¬ (false = true) by decide)] at H; exact H
    have H' := zA.mk H; clear H; have hnb13 := zCG.out; have hnc13 := zCF.out; have zDB : w5.cell? ⟨zAK, 0, none⟩ = some (.slice A0_0 l0_0.length c0_0) := (zC jG.out 0).trans rfl; have zLZ : w5.cell? ⟨zAK, 1, none⟩ = some (.slice A0_1 l0_1.length c0_1) := (zC jG.out 1).trans rfl; have zLY : w5.cell? ⟨zAK, 2, none⟩ = some (.slice A0_2 l0_2.length c0_2) := (zC jG.out 2).trans rfl; have zCY := zB jG.out 0; have zLU := zB jG.out 1; have zLT := zB jG.out 2; have zPH : w5.cell? ⟨zBP, 0, none⟩ = some (.slice A1_0 l1_0.length c1_0) := (zC kV.out 0).trans rfl; have zPG : w5.cell? ⟨zBP, 1, none⟩ = some (.slice A1_1 l1_1.length c1_1) := (zC kV.out 1).trans rfl; have zPF : w5.cell? ⟨zBP, 2, none⟩ = some (.slice A1_2 l1_2.length c1_2) := (zC kV.out 2).trans rfl; have zOQ := zB kV.out 0; have zOP := zB kV.out 1; have zOO := zB kV.out 2; go_wp2_with (first | (go_at_call 53; (with_reducible refine (wK.calls k _ _ l0_0 _ _ l1_0 true _ ?side1 ?side2 ?side3 ?side4 A6.out).mono ?_); (case side1 => repeat (first | exact (Kd.zX HR0_0.out HB.out) | (with_reducible refine Kd.zP ?_ _) | (with_reducible refine Kd.zO ?_ _) | (with_reducible refine Kd.zY ?_))); (case side2 => exact HC0_0.out); (case side3 => repeat (first | exact (Kd.zX HR1_0.out HB.out) | (with_reducible refine Kd.zP ?_ _) | (with_reducible refine Kd.zO ?_ _) | (with_reducible refine Kd.zY ?_))); (case side4 => exact HC1_0.out); rintro e w' ⟨rfl, ⟨nd, rfl⟩⟩; (try first | exact ⟨rfl, _, World.drewN_drewN _ _ _⟩ | exact ⟨rfl, _, Eq.trans (World.drewN_drewN _ _ _) (congrArg (World.drewN _) (Nat.add_assoc _ _ _))⟩)) | (go_at_call 53; (with_reducible refine (wK.calls k _ _ l0_1 _ _ l1_1 false _ ?side1 ?side2 ?side3 ?side4 A8.out).mono ?_); (case side1 => repeat (first | exact (Kd.zX HR0_1.out (eG HB.out)) | (with_reducible refine Kd.zP ?_ _) | (with_reducible refine Kd.zO ?_ _) | (with_reducible refine Kd.zY ?_))); (case side2 => exact HC0_1.out); (case side3 => repeat (first | exact (Kd.zX HR1_1.out (eG HB.out)) | (with_reducible refine Kd.zP ?_ _) | (with_reducible refine Kd.zO ?_ _) | (with_reducible refine Kd.zY ?_))); (case side4 => exact HC1_1.out); rintro e w' ⟨rfl, ⟨nd, rfl⟩⟩; (try first | exact ⟨rfl, _, World.drewN_drewN _ _ _⟩ | exact ⟨rfl, _, Eq.trans (World.drewN_drewN _ _ _) (congrArg (World.drewN _) (Nat.add_assoc _ _ _))⟩)))
    repeat (go_quiet (first | (go_at_call 53; (with_reducible refine (wK.calls k _ _ l0_0 _ _ l1_0 true _ ?side1 ?side2 ?side3 ?side4 A6.out).mono ?_); (case side1 => repeat (first | exact (Kd.zX HR0_0.out HB.out) | (with_reducible refine Kd.zP ?_ _) | (with_reducible refine Kd.zO ?_ _) | (with_reducible refine Kd.zY ?_))); (case side2 => exact HC0_0.out); (case side3 => repeat (first | exact (Kd.zX HR1_0.out HB.out) | (with_reducible refine Kd.zP ?_ _) | (with_reducible refine Kd.zO ?_ _) | (with_reducible refine Kd.zY ?_))); (case side4 => exact HC1_0.out); rintro e w' ⟨rfl, ⟨nd, rfl⟩⟩; (try first | exact ⟨rfl, _, World.drewN_drewN _ _ _⟩ | exact ⟨rfl, _, Eq.trans (World.drewN_drewN _ _ _) (congrArg (World.drewN _) (Nat.add_assoc _ _ _))⟩)) | (go_at_call 53; (with_reducible refine (wK.calls k _ _ l0_1 _ _ l1_1 false _ ?side1 ?side2 ?side3 ?side4 A8.out).mono ?_); (case side1 => repeat (first | exact (Kd.zX HR0_1.out (eG HB.out)) | (with_reducible refine Kd.zP ?_ _) | (with_reducible refine Kd.zO ?_ _) | (with_reducible refine Kd.zY ?_))); (case side2 => exact HC0_1.out); (case side3 => repeat (first | exact (Kd.zX HR1_1.out (eG HB.out)) | (with_reducible refine Kd.zP ?_ _) | (with_reducible refine Kd.zO ?_ _) | (with_reducible refine Kd.zY ?_))); (case side4 => exact HC1_1.out); rintro e w' ⟨rfl, ⟨nd, rfl⟩⟩; (try first | exact ⟨rfl, _, World.drewN_drewN _ _ _⟩ | exact ⟨rfl, _, Eq.trans (World.drewN_drewN _ _ _) (congrArg (World.drewN _) (Nat.add_assoc _ _ _))⟩))); try go_wp2_with (first | (go_at_call 53; (with_reducible refine (wK.calls k _ _ l0_0 _ _ l1_0 true _ ?side1 ?side2 ?side3 ?side4 A6.out).mono ?_); (case side1 => repeat (first | exact (Kd.zX HR0_0.out HB.out) | (with_reducible refine Kd.zP ?_ _) | (with_reducible refine Kd.zO ?_ _) | (with_reducible refine Kd.zY ?_))); (case side2 => exact HC0_0.out); (case side3 => repeat (first | exact (Kd.zX HR1_0.out HB.out) | (with_reducible refine Kd.zP ?_ _) | (with_reducible refine Kd.zO ?_ _) | (with_reducible refine Kd.zY ?_))); (case side4 => exact HC1_0.out); rintro e w' ⟨rfl, ⟨nd, rfl⟩⟩; (try first | exact ⟨rfl, _, World.drewN_drewN _ _ _⟩ | exact ⟨rfl, _, Eq.trans (World.drewN_drewN _ _ _) (congrArg (World.drewN _) (Nat.add_assoc _ _ _))⟩)) | (go_at_call 53; (with_reducible refine (wK.calls k _ _ l0_1 _ _ l1_1 false _ ?side1 ?side2 ?side3 ?side4 A8.out).mono ?_); (case side1 => repeat (first | exact (Kd.zX HR0_1.out (eG HB.out)) | (with_reducible refine Kd.zP ?_ _) | (with_reducible refine Kd.zO ?_ _) | (with_reducible refine Kd.zY ?_))); (case side2 => exact HC0_1.out); (case side3 => repeat (first | exact (Kd.zX HR1_1.out (eG HB.out)) | (with_reducible refine Kd.zP ?_ _) | (with_reducible refine Kd.zO ?_ _) | (with_reducible refine Kd.zY ?_))); (case side4 => exact HC1_1.out); rintro e w' ⟨rfl, ⟨nd, rfl⟩⟩; (try first | exact ⟨rfl, _, World.drewN_drewN _ _ _⟩ | exact ⟨rfl, _, Eq.trans (World.drewN_drewN _ _ _) (congrArg (World.drewN _) (Nat.add_assoc _ _ _))⟩))))
    go_meet
    case rel => exact ⟨_, (true), (by first | rfl | (simp; done) | (simp [*]; done)), H', ⟨by first | omega | exact Nat.le_refl _⟩, ⟨by (with_reducible repeat first | apply bN | apply bD | apply bA); exact jG.out⟩, ⟨by (with_reducible repeat first | apply bN | apply bD | apply bA); exact kV.out⟩, ⟨eG HB.out⟩⟩
  ·
   replace c7 := Bool.eq_false_iff.mpr c7; subst c7; replace H : (wE.j0 k true l0_0 l0_1 l0_2 l1_0 l1_1 l1_2) = some r := by rw [if_neg (show ¬ (false = true) by decide)] at H; exact H
   have H' := zA.mk H; clear H; have hnb16 := zCG.out; have hnc16 := zCF.out; have zJJ : w5.cell? ⟨zAK, 0, none⟩ = some (.slice A0_0 l0_0.length c0_0) := (zC jG.out 0).trans rfl; have zSX : w5.cell? ⟨zAK, 1, none⟩ = some (.slice A0_1 l0_1.length c0_1) := (zC jG.out 1).trans rfl; have zSW : w5.cell? ⟨zAK, 2, none⟩ = some (.slice A0_2 l0_2.length c0_2) := (zC jG.out 2).trans rfl; have zIW := zB jG.out 0; have zSO := zB jG.out 1; have zSN := zB jG.out 2; have zDA : w5.cell? ⟨zBP, 0, none⟩ = some (.slice A1_0 l1_0.length c1_0) := (zC kV.out 0).trans rfl; have zFT : w5.cell? ⟨zBP, 1, none⟩ = some (.slice A1_1 l1_1.length c1_1) := (zC kV.out 1).trans rfl; have zFS : w5.cell? ⟨zBP, 2, none⟩ = some (.slice A1_2 l1_2.length c1_2) := (zC kV.out 2).trans rfl; have zCX := zB kV.out 0; have zFP := zB kV.out 1; have zFO := zB kV.out 2; go_wp2_with (first | (go_at_call 53; (with_reducible refine (wK.calls k _ _ l0_0 _ _ l1_0 false _ ?side1 ?side2 ?side3 ?side4 A6.out).mono ?_); (case side1 => repeat (first | exact (Kd.zX HR0_0.out HB.out) | (with_reducible refine Kd.zP ?_ _) | (with_reducible refine Kd.zO ?_ _) | (with_reducible refine Kd.zY ?_))); (case side2 => exact HC0_0.out); (case side3 => repeat (first | exact (Kd.zX HR1_0.out HB.out) | (with_reducible refine Kd.zP ?_ _) | (with_reducible refine Kd.zO ?_ _) | (with_reducible refine Kd.zY ?_))); (case side4 => exact HC1_0.out); rintro e w' ⟨rfl, ⟨nd, rfl⟩⟩; (try first | exact ⟨rfl, _, World.drewN_drewN _ _ _⟩ | exact ⟨rfl, _, Eq.trans (World.drewN_drewN _ _ _) (congrArg (World.drewN _) (Nat.add_assoc _ _ _))⟩)))
   repeat (go_quiet (first | (go_at_call 53; (with_reducible refine (wK.calls k _ _ l0_0 _ _ l1_0 false _ ?side1 ?side2 ?side3 ?side4 A6.out).mono ?_); (case side1 => repeat (first | exact (Kd.zX HR0_0.out HB.out) | (with_reducible refine Kd.zP ?_ _) | (with_reducible refine Kd.zO ?_ _) | (with_reducible refine Kd.zY ?_))); (case side2 => exact HC0_0.out); (case side3 => repeat (first | exact (Kd.zX HR1_0.out HB.out) | (with_reducible refine Kd.zP ?_ _) | (with_reducible refine Kd.zO ?_ _) | (with_reducible refine Kd.zY ?_))); (case side4 => exact HC1_0.out); rintro e w' ⟨rfl, ⟨nd, rfl⟩⟩; (try first | exact ⟨rfl, _, World.drewN_drewN _ _ _⟩ | exact ⟨rfl, _, Eq.trans (World.drewN_drewN _ _ _) (congrArg (World.drewN _) (Nat.add_assoc _ _ _))⟩))); try go_wp2_with (first | (go_at_call 53; (with_reducible refine (wK.calls k _ _ l0_0 _ _ l1_0 false _ ?side1 ?side2 ?side3 ?side4 A6.out).mono ?_); (case side1 => repeat (first | exact (Kd.zX HR0_0.out HB.out) | (with_reducible refine Kd.zP ?_ _) | (with_reducible refine Kd.zO ?_ _) | (with_reducible refine Kd.zY ?_))); (case side2 => exact HC0_0.out); (case side3 => repeat (first | exact (Kd.zX HR1_0.out HB.out) | (with_reducible refine Kd.zP ?_ _) | (with_reducible refine Kd.zO ?_ _) | (with_reducible refine Kd.zY ?_))); (case side4 => exact HC1_0.out); rintro e w' ⟨rfl, ⟨nd, rfl⟩⟩; (try first | exact ⟨rfl, _, World.drewN_drewN _ _ _⟩ | exact ⟨rfl, _, Eq.trans (World.drewN_drewN _ _ _) (congrArg (World.drewN _) (Nat.add_assoc _ _ _))⟩))))
   go_meet
   case rel => exact ⟨_, (true), (by first | rfl | (simp; done) | (simp [*]; done)), H', ⟨by first | omega | exact Nat.le_refl _⟩, ⟨by (with_reducible repeat first | apply bN | apply bD | apply bA); exact jG.out⟩, ⟨by (with_reducible repeat first | apply bN | apply bD | apply bA); exact kV.out⟩, ⟨eG HB.out⟩⟩
 case rest =>
  clear HC3; repeat first | clear c1 | clear c2 | clear p2 | clear c7 | clear c9 | clear c10 | clear c13 | clear c16 | clear zBL | clear zBK | clear zBJ | clear zDY | clear zDX | clear zDW | clear zDB | clear zLZ | clear zLY | clear zPH | clear zPG | clear zPF | clear zJJ | clear zSX | clear zSW | clear zDA | clear zFT | clear zFS | clear zBF | clear zBE | clear zBD | clear zDV | clear zDU | clear zDT | clear zCY | clear zLU | clear zLT | clear zOQ | clear zOP | clear zOO | clear zIW | clear zSO | clear zSN | clear zCX | clear zFP | clear zFO
  obtain ⟨kq, x28_2, rfl, HA, HJ2, jG, kV, HB⟩ := hcut
  cases kq with
  | zero => exact absurd HA.out (by simp [wE.j0])
  | succ kj2 =>
   have H := HA.out; clear HA; simp only [wE.j0] at H; by_cases c19 : x28_2 = true
   ·
    subst c19; replace H : (some false) = some r := by rw [if_pos rfl] at H; exact H
    obtain rfl := Option.some.inj H; go_wp2; repeat (go_quiet (fail); try go_wp2)
    go_ret
    exact ⟨by first | rfl | (simp [zI, zH] <;> rfl) | (simp [*, zI, zH] <;> rfl), eG HB.out⟩
   ·
    replace c19 := Bool.eq_false_iff.mpr c19; subst c19; replace H : (wE.l0 kj2 0 l0_0 l0_1 l0_2 l1_0 l1_1 l1_2) = some r := by rw [if_neg (show ¬ (false = true) by decide)] at H; exact H
    have H' := zA.mk H; clear H; go_wp2; repeat (go_quiet (fail); try go_wp2)
    go_loopg [5] kj2 (fun kq v5 w' => ∃ (x5_2 : Int), v5 = .int .i64 x5_2 ∧ zA (wE.l0 kq x5_2 l0_0 l0_1 l0_2 l1_0 l1_1 l1_2 = some r) ∧ zA (kq ≤ kj2) ∧ zA (w'.heap[zAK]? = some (.cells #[(.slice A0_0 l0_0.length c0_0), (.slice A0_1 l0_1.length c0_1), (.slice A0_2 l0_2.length c0_2)] 25 (0, 0))) ∧ zA (w'.heap[zBP]? = some (.cells #[(.slice A1_0 l1_0.length c1_0), (.slice A1_1 l1_1.length c1_1), (.slice A1_2 l1_2.length c1_2)] 25 (0, 0))) ∧ zA (Below w.heap.size w w'))
    case atStart => exact ⟨(0), (by first | rfl | (simp; done) | (simp [*]; done)), H', ⟨Nat.le_refl _⟩, ⟨by (with_reducible repeat first | apply bN | apply bD | apply bA); exact jG.out⟩, ⟨by (with_reducible repeat first | apply bN | apply bD | apply bA); exact kV.out⟩, ⟨eG HB.out⟩⟩
    case round =>
     clear H'; repeat first | clear c1 | clear c2 | clear p2 | clear c7 | clear c9 | clear c10 | clear c13 | clear c16 | clear c19 | clear zBL | clear zBK | clear zBJ | clear zDY | clear zDX | clear zDW | clear zDB | clear zLZ | clear zLY | clear zPH | clear zPG | clear zPF | clear zJJ | clear zSX | clear zSW | clear zDA | clear zFT | clear zFS | clear zBF | clear zBE | clear zBD | clear zDV | clear zDU | clear zDT | clear zCY | clear zLU | clear zLT | clear zOQ | clear zOP | clear zOO | clear zIW | clear zSO | clear zSN | clear zCX | clear zFP | clear zFO | clear p2
     obtain ⟨x5_2, rfl, HA, HK2, jG, kV, HB⟩ := hrel
     cases gk with
     | zero => exact absurd HA.out (by simp [wE.l0])
     | succ k2 =>
      have H := HA.out; clear HA; simp only [wE.l0] at H; by_cases c20 : x5_2 < (l0_2.length : Int)
      ·
       rw [if_pos c20] at H; have c20b0 : decide (x5_2 < (l0_2.length : Int)) = true := decide_eq_true c20; clear c20; by_cases c21 : 0 ≤ x5_2
       ·
        rw [if_pos c21] at H; have c21b0 : decide (0 ≤ x5_2) = true := decide_eq_true c21; clear c21; by_cases c22 : x5_2 < (l1_2.length : Int)
        ·
         rw [if_pos c22] at H; have c22b0 : decide (x5_2 < (l1_2.length : Int)) = true := decide_eq_true c22; clear c22; replace H := Option.bind_eq_some_iff.mp H; obtain ⟨t509, A230, H⟩ := H; replace H : (if t509 = true then (wE.l0 k2 (wrap64 (x5_2 + 1)) l0_0 l0_1 l0_2 l1_0 l1_1 l1_2) else (some false)) = some r := H; have A23 := zA.mk A230; clear A230; by_cases c24 : t509 = true
         ·
          subst c24; replace H : (wE.l0 k2 (wrap64 (x5_2 + 1)) l0_0 l0_1 l0_2 l1_0 l1_1 l1_2) = some r := by rw [if_pos rfl] at H; exact H
          have H' := zA.mk H; clear H; have hnb25 := zCG.out; have hnc25 := zCF.out; have zIZ : wr.cell? ⟨zAK, 0, none⟩ = some (.slice A0_0 l0_0.length c0_0) := (zC jG.out 0).trans rfl; have zIY : wr.cell? ⟨zAK, 1, none⟩ = some (.slice A0_1 l0_1.length c0_1) := (zC jG.out 1).trans rfl; have zIX : wr.cell? ⟨zAK, 2, none⟩ = some (.slice A0_2 l0_2.length c0_2) := (zC jG.out 2).trans rfl; have zIM := zB jG.out 0; have zIL := zB jG.out 1; have zIK := zB jG.out 2; have p507 : 0 ≤ (x5_2 : Int) := of_decide_eq_true (by first | (with_reducible assumption) | assumption); have q507 : x5_2 < (l0_2.length : Int) := of_decide_eq_true (by first | (with_reducible assumption) | assumption); obtain ⟨ad507, A507_0, c507_0, e507, zGS, hl507_0, hi507_0⟩ := kQ HR0_2.out x5_2 p507 q507; cases e507; replace zGS := (HB.out.cell (World.block_lt_of_cell? w _ zGS)).trans zGS; have HR507_0 := zA.mk hi507_0; have HC507_0 := zA.mk hl507_0; clear hi507_0 hl507_0; replace p507 := eq_true p507; replace q507 := eq_true q507; have hcz27_0 : wr.cell? ⟨zBP, 0, none⟩ = some (.slice A1_0 l1_0.length c1_0) := (zC kV.out 0).trans rfl; have hcz27_1 : wr.cell? ⟨zBP, 1, none⟩ = some (.slice A1_1 l1_1.length c1_1) := (zC kV.out 1).trans rfl; have hcz27_2 : wr.cell? ⟨zBP, 2, none⟩ = some (.slice A1_2 l1_2.length c1_2) := (zC kV.out 2).trans rfl; have hfz27_0 := zB kV.out 0; have hfz27_1 := zB kV.out 1; have hfz27_2 := zB kV.out 2; have p508 : 0 ≤ (x5_2 : Int) := of_decide_eq_true (by first | (with_reducible assumption) | assumption); have q508 : x5_2 < (l1_2.length : Int) := of_decide_eq_true (by first | (with_reducible assumption) | assumption); obtain ⟨ad508, A508_0, c508_0, e508, zGR, hl508_0, hi508_0⟩ := kQ HR1_2.out x5_2 p508 q508; cases e508; replace zGR := (HB.out.cell (World.block_lt_of_cell? w _ zGR)).trans zGR; have HR508_0 := zA.mk hi508_0; have HC508_0 := zA.mk hl508_0; clear hi508_0 hl508_0; replace p508 := eq_true p508; replace q508 := eq_true q508; go_wp2_with (first | (go_at_call 53; (with_reducible refine (wK.calls k2 _ _ (zW l0_2 x5_2) _ _ (zW l1_2 x5_2) true _ ?side1 ?side2 ?side3 ?side4 A23.out).mono ?_); (case side1 => repeat (first | exact (Kd.zX HR507_0.out HB.out) | (with_reducible refine Kd.zP ?_ _) | (with_reducible refine Kd.zO ?_ _) | (with_reducible refine Kd.zY ?_))); (case side2 => exact HC507_0.out); (case side3 => repeat (first | exact (Kd.zX HR508_0.out HB.out) | (with_reducible refine Kd.zP ?_ _) | (with_reducible refine Kd.zO ?_ _) | (with_reducible refine Kd.zY ?_))); (case side4 => exact HC508_0.out); rintro e w' ⟨rfl, ⟨nd, rfl⟩⟩; (try first | exact ⟨rfl, _, World.drewN_drewN _ _ _⟩ | exact ⟨rfl, _, Eq.trans (World.drewN_drewN _ _ _) (congrArg (World.drewN _) (Nat.add_assoc _ _ _))⟩)))
          repeat (go_quiet (first | (go_at_call 53; (with_reducible refine (wK.calls k2 _ _ (zW l0_2 x5_2) _ _ (zW l1_2 x5_2) true _ ?side1 ?side2 ?side3 ?side4 A23.out).mono ?_); (case side1 => repeat (first | exact (Kd.zX HR507_0.out HB.out) | (with_reducible refine Kd.zP ?_ _) | (with_reducible refine Kd.zO ?_ _) | (with_reducible refine Kd.zY ?_))); (case side2 => exact HC507_0.out); (case side3 => repeat (first | exact (Kd.zX HR508_0.out HB.out) | (with_reducible refine Kd.zP ?_ _) | (with_reducible refine Kd.zO ?_ _) | (with_reducible refine Kd.zY ?_))); (case side4 => exact HC508_0.out); rintro e w' ⟨rfl, ⟨nd, rfl⟩⟩; (try first | exact ⟨rfl, _, World.drewN_drewN _ _ _⟩ | exact ⟨rfl, _, Eq.trans (World.drewN_drewN _ _ _) (congrArg (World.drewN _) (Nat.add_assoc _ _ _))⟩))); try go_wp2_with (first | (go_at_call 53; (with_reducible refine (wK.calls k2 _ _ (zW l0_2 x5_2) _ _ (zW l1_2 x5_2) true _ ?side1 ?side2 ?side3 ?side4 A23.out).mono ?_); (case side1 => repeat (first | exact (Kd.zX HR507_0.out HB.out) | (with_reducible refine Kd.zP ?_ _) | (with_reducible refine Kd.zO ?_ _) | (with_reducible refine Kd.zY ?_))); (case side2 => exact HC507_0.out); (case side3 => repeat (first | exact (Kd.zX HR508_0.out HB.out) | (with_reducible refine Kd.zP ?_ _) | (with_reducible refine Kd.zO ?_ _) | (with_reducible refine Kd.zY ?_))); (case side4 => exact HC508_0.out); rintro e w' ⟨rfl, ⟨nd, rfl⟩⟩; (try first | exact ⟨rfl, _, World.drewN_drewN _ _ _⟩ | exact ⟨rfl, _, Eq.trans (World.drewN_drewN _ _ _) (congrArg (World.drewN _) (Nat.add_assoc _ _ _))⟩))))
          go_roundg k2
          case measure => have := HJ2.out; have := HK2.out; omega
          case rel => exact ⟨(wrap64 (x5_2 + 1)), (by first | rfl | (simp; done) | (simp [*]; done)), H', ⟨by have := HJ2.out; have := HK2.out; omega⟩, ⟨by (with_reducible repeat first | apply bN | apply bD | apply bA); exact jG.out⟩, ⟨by (with_reducible repeat first | apply bN | apply bD | apply bA); exact kV.out⟩, ⟨eG HB.out⟩⟩
         ·
          replace c24 := Bool.eq_false_iff.mpr c24; subst c24; replace H : (some false) = some r := by rw [if_neg (show ¬ (false = true) by decide)] at H; exact H
          obtain rfl := Option.some.inj H; have hnb28 := zCG.out; have hnc28 := zCF.out; have zOY : wr.cell? ⟨zAK, 0, none⟩ = some (.slice A0_0 l0_0.length c0_0) := (zC jG.out 0).trans rfl; have zOX : wr.cell? ⟨zAK, 1, none⟩ = some (.slice A0_1 l0_1.length c0_1) := (zC jG.out 1).trans rfl; have zSU : wr.cell? ⟨zAK, 2, none⟩ = some (.slice A0_2 l0_2.length c0_2) := (zC jG.out 2).trans rfl; have zOH := zB jG.out 0; have zOG := zB jG.out 1; have zSL := zB jG.out 2; have p507 : 0 ≤ (x5_2 : Int) := of_decide_eq_true (by first | (with_reducible assumption) | assumption); have q507 : x5_2 < (l0_2.length : Int) := of_decide_eq_true (by first | (with_reducible assumption) | assumption); obtain ⟨ad507, A507_0, c507_0, e507, zGS, hl507_0, hi507_0⟩ := kQ HR0_2.out x5_2 p507 q507; cases e507; replace zGS := (HB.out.cell (World.block_lt_of_cell? w _ zGS)).trans zGS; have HR507_0 := zA.mk hi507_0; have HC507_0 := zA.mk hl507_0; clear hi507_0 hl507_0; replace p507 := eq_true p507; replace q507 := eq_true q507; have hcz30_0 : wr.cell? ⟨zBP, 0, none⟩ = some (.slice A1_0 l1_0.length c1_0) := (zC kV.out 0).trans rfl; have hcz30_1 : wr.cell? ⟨zBP, 1, none⟩ = some (.slice A1_1 l1_1.length c1_1) := (zC kV.out 1).trans rfl; have hcz30_2 : wr.cell? ⟨zBP, 2, none⟩ = some (.slice A1_2 l1_2.length c1_2) := (zC kV.out 2).trans rfl; have hfz30_0 := zB kV.out 0; have hfz30_1 := zB kV.out 1; have hfz30_2 := zB kV.out 2; have p508 : 0 ≤ (x5_2 : Int) := of_decide_eq_true (by first | (with_reducible assumption) | assumption); have q508 : x5_2 < (l1_2.length : Int) := of_decide_eq_true (by first | (with_reducible assumption) | assumption); obtain ⟨ad508, A508_0, c508_0, e508, zGR, hl508_0, hi508_0⟩ := kQ HR1_2.out x5_2 p508 q508; cases e508; replace zGR := (HB.out.cell (World.block_lt_of_cell? w _ zGR)).trans zGR; have HR508_0 := zA.mk hi508_0; have HC508_0 := zA.mk hl508_0; clear hi508_0 hl508_0; replace p508 := eq_true p508; replace q508 := eq_true q508; go_wp2_with (first | (go_at_call 53; (with_reducible refine (wK.calls k2 _ _ (zW l0_2 x5_2) _ _ (zW l1_2 x5_2) false _ ?side1 ?side2 ?side3 ?side4 A23.out).mono ?_); (case side1 => repeat (first | exact (Kd.zX HR507_0.out HB.out) | (with_reducible refine Kd.zP ?_ _) | (with_reducible refine Kd.zO ?_ _) | (with_reducible refine Kd.zY ?_))); (case side2 => exact HC507_0.out); (case side3 => repeat (first | exact (Kd.zX HR508_0.out HB.out) | (with_reducible refine Kd.zP ?_ _) | (with_reducible refine Kd.zO ?_ _) | (with_reducible refine Kd.zY ?_))); (case side4 => exact HC508_0.out); rintro e w' ⟨rfl, ⟨nd, rfl⟩⟩; (try first | exact ⟨rfl, _, World.drewN_drewN _ _ _⟩ | exact ⟨rfl, _, Eq.trans (World.drewN_drewN _ _ _) (congrArg (World.drewN _) (Nat.add_assoc _ _ _))⟩)))
          repeat (go_quiet (first | (go_at_call 53; (with_reducible refine (wK.calls k2 _ _ (zW l0_2 x5_2) _ _ (zW l1_2 x5_2) false _ ?side1 ?side2 ?side3 ?side4 A23.out).mono ?_); (case side1 => repeat (first | exact (Kd.zX HR507_0.out HB.out) | (with_reducible refine Kd.zP ?_ _) | (with_reducible refine Kd.zO ?_ _) | (with_reducible refine Kd.zY ?_))); (case side2 => exact HC507_0.out); (case side3 => repeat (first | exact (Kd.zX HR508_0.out HB.out) | (with_reducible refine Kd.zP ?_ _) | (with_reducible refine Kd.zO ?_ _) | (with_reducible refine Kd.zY ?_))); (case side4 => exact HC508_0.out); rintro e w' ⟨rfl, ⟨nd, rfl⟩⟩; (try first | exact ⟨rfl, _, World.drewN_drewN _ _ _⟩ | exact ⟨rfl, _, Eq.trans (World.drewN_drewN _ _ _) (congrArg (World.drewN _) (Nat.add_assoc _ _ _))⟩))); try go_wp2_with (first | (go_at_call 53; (with_reducible refine (wK.calls k2 _ _ (zW l0_2 x5_2) _ _ (zW l1_2 x5_2) false _ ?side1 ?side2 ?side3 ?side4 A23.out).mono ?_); (case side1 => repeat (first | exact (Kd.zX HR507_0.out HB.out) | (with_reducible refine Kd.zP ?_ _) | (with_reducible refine Kd.zO ?_ _) | (with_reducible refine Kd.zY ?_))); (case side2 => exact HC507_0.out); (case side3 => repeat (first | exact (Kd.zX HR508_0.out HB.out) | (with_reducible refine Kd.zP ?_ _) | (with_reducible refine Kd.zO ?_ _) | (with_reducible refine Kd.zY ?_))); (case side4 => exact HC508_0.out); rintro e w' ⟨rfl, ⟨nd, rfl⟩⟩; (try first | exact ⟨rfl, _, World.drewN_drewN _ _ _⟩ | exact ⟨rfl, _, Eq.trans (World.drewN_drewN _ _ _) (congrArg (World.drewN _) (Nat.add_assoc _ _ _))⟩))))
          go_ret
          exact ⟨by first | rfl | (simp [zI, zH] <;> rfl) | (simp [*, zI, zH] <;> rfl), eG HB.out⟩
        · rw [if_neg c22] at H; exact absurd H (by simp)
       · rw [if_neg c21] at H; exact absurd H (by simp)
      ·
       rw [if_neg c20] at H; have c20b0 : decide (x5_2 < (l0_2.length : Int)) = false := decide_eq_false c20; clear c20; obtain rfl := Option.some.inj H; have hnb31 := zCG.out; have hnc31 := zCF.out; have zXH : wr.cell? ⟨zAK, 0, none⟩ = some (.slice A0_0 l0_0.length c0_0) := (zC jG.out 0).trans rfl; have zXG : wr.cell? ⟨zAK, 1, none⟩ = some (.slice A0_1 l0_1.length c0_1) := (zC jG.out 1).trans rfl; have hcz32_2 : wr.cell? ⟨zAK, 2, none⟩ = some (.slice A0_2 l0_2.length c0_2) := (zC jG.out 2).trans rfl; have zWQ := zB jG.out 0; have zWP := zB jG.out 1; have hfz32_2 := zB jG.out 2; go_wp2; repeat (go_quiet (fail); try go_wp2)
       go_ret
       exact ⟨by first | rfl | (simp [zI, zH] <;> rfl) | (simp [*, zI, zH] <;> rfl), eG HB.out⟩
def wL.j0 : Nat → ByteArray → Bool → List Int → List Int → List (List Int) → Option (Bool)
 | 0, _, _, _, _, _ => none
 | k + 1, x1, x24, zUY, zUX, zUW => if x24 = true then (some true) else ((qA.f k zUY zUX zUW).bind fun bt513 => ((wP.f k zUY zUX zUW).bind fun bt515 => ((zU.f k x1).bind fun bt517 => ((zL.f k x1).bind fun bt529 => (if bt513.1.toList = bt515.1.toList then (if bt513.2 = bt515.2 then ((wE.f k bt517.1 bt517.2.1 bt517.2.2.1 bt529.1 bt529.2.1 bt529.2.2.1).bind fun t541 => (if t541 = true then (if bt517.2.2.2.1 = bt529.2.2.2.1 then (some (bt517.2.2.2.2 == bt529.2.2.2.2)) else (none)) else (none))) else (none)) else (none))))))
def wL.f (k : Nat) (l0_0 : List Int) (l0_1 : List Int) (l0_2 : List (List Int)) (a1 : ByteArray) : Option (Bool) := (kW.f).bind fun t511 => (if t511 = true then ((wJ.f k l0_0 l0_1 l0_2).bind fun t512 => (if t512 = true then (wL.j0 k a1 (decide ((a1.size : Int) > 1000)) l0_0 l0_1 l0_2) else (wL.j0 k a1 true l0_0 l0_1 l0_2))) else (none))
set_option maxHeartbeats 8000000 in
set_option maxRecDepth 100000 in
theorem wL.calls (k : Nat) (A0_0 : Option Addr) (c0_0 : Nat) (l0_0 : List Int) (A0_1 : Option Addr) (c0_1 : Nat) (l0_1 : List Int) (A0_2 : Option Addr) (c0_2 : Nat) (l0_2 : List (List Int)) (a1 : ByteArray) (r : Bool) (w : World) (hr0_0 : Kd.C (Kd.int .i64) w A0_0 l0_0.length l0_0) (zAW : l0_0.length ≤ c0_0) (hr0_1 : Kd.C (Kd.int .i64) w A0_1 l0_1.length l0_1) (zAV : l0_1.length ≤ c0_1) (hr0_2 : Kd.C (Kd.slice 3 (Kd.int .i64)) w A0_2 l0_2.length l0_2) (zAU : l0_2.length ≤ c0_2) (hG : GI w) (h : wL.f k l0_0 l0_1 l0_2 a1 = some r) :
  Calls Tryd.prog 8 #[.agg #[.slice A0_0 l0_0.length c0_0, .slice A0_1 l0_1.length c0_1, .slice A0_2 l0_2.length c0_2], .string a1] w fun e w' => e = .returned (.bool r) ∧ Below w.heap.size w w' := by
 have hu25 := Tryd.underlying25; have HR0_0 := zA.mk hr0_0; have HC0_0 := zA.mk zAW; clear hr0_0 zAW; have HR0_1 := zA.mk hr0_1; have HC0_1 := zA.mk zAV; clear hr0_1 zAV; have HR0_2 := zA.mk hr0_2; have HC0_2 := zA.mk zAU; clear hr0_2 zAU; have HG := zA.mk hG; clear hG; have HB := zA.mk (Below.refl w.heap.size w); have H : ((kW.f).bind fun t511 => (if t511 = true then ((wJ.f k l0_0 l0_1 l0_2).bind fun t512 => (if t512 = true then (wL.j0 k a1 (decide ((a1.size : Int) > 1000)) l0_0 l0_1 l0_2) else (wL.j0 k a1 true l0_0 l0_1 l0_2))) else (none))) = some r := h; clear h; replace H := Option.bind_eq_some_iff.mp H; obtain ⟨t511, A30, H⟩ := H; replace H : (if t511 = true then ((wJ.f k l0_0 l0_1 l0_2).bind fun t512 => (if t512 = true then (wL.j0 k a1 (decide ((a1.size : Int) > 1000)) l0_0 l0_1 l0_2) else (wL.j0 k a1 true l0_0 l0_1 l0_2))) else (none)) = some r := H; have A3 := zA.mk A30; clear A30; by_cases c4 : t511 = true
 ·
  subst c4; replace H : ((wJ.f k l0_0 l0_1 l0_2).bind fun t512 => (if t512 = true then (wL.j0 k a1 (decide ((a1.size : Int) > 1000)) l0_0 l0_1 l0_2) else (wL.j0 k a1 true l0_0 l0_1 l0_2))) = some r := by rw [if_pos rfl] at H; exact H
  have HC5 := zA.mk H; clear H; go_enter Tryd.func8, Tryd.ntmps8
  go_upto_region 3 with (first | ((with_reducible refine vH (N := 2) rfl ?_); (try (refine vJ (by rfl) ?_; dsimp only)); refine vD ?hg (N := 2) ?hd (cs := #[.slice A0_0 l0_0.length c0_0, .slice A0_1 l0_1.length c0_1, .slice A0_2 l0_2.length c0_2]) (t := 25) ?hr ?_; (case hd => rfl); (case hg => rfl); (case hr => first | (go_simp; done) | (go_simp; rfl)); intro zCE hg w6 hbox hb; have n0_ := zA.mk (zG (eG HB.out) hb); have n1_ := zA.mk (hbox); have n2_ := zA.mk ((by rw [hg]; exact (zD (eG HB.out)) : w.heap.size ≤ zCE)); have n3_ := zA.mk ((by rw [hg]; exact (zD (eG HB.out)) : w.heap.size ≤ zCE)); clear HB; have HB := n0_; have yW := n1_; have GW510 := n2_; have GE510 := n3_; have ig510_ := geI GE510; clear n0_ n1_ n2_ n3_; clear hb hbox hg) | ((with_reducible refine zQ (f := 10) rfl ?_); refine vN (some 15) rfl rfl Tryd.func10 (by kernel_rfl) rfl #[] rfl (by (try simp only [List.map_toArray, List.map_cons, List.map_nil]); first | done | rfl | (simp only [List.length_drop, List.length_take]; rfl)) ?_; (with_reducible refine (kW.calls  true _ ?side1 A3.out).mono ?_); (case side1 => exact GI.below HG.out (eG HB.out)); rintro e w7 ⟨rfl, hb⟩; refine ⟨_, rfl, ?_⟩; have n0_ := zA.mk (zM (bG yW.out) hb); have n1_ := zA.mk (zG (eG HB.out) hb); clear yW; clear HB; have yW := n0_; have HB := n1_; clear n0_ n1_; (try clear hb); (try clear hb2); (try clear hk); (try clear hi)))
  (try simp only [Act.put, sIA, sC0, sCS])
  go_cut [24] (fun v24 wc => ∃ (kq : Nat) (x24_4 : Bool), v24 = .bool x24_4 ∧ zA (wL.j0 kq a1 x24_4 l0_0 l0_1 l0_2 = some r) ∧ zA (kq ≤ k) ∧ zA (wc.heap[zCE]? = some (.cells #[(.slice A0_0 l0_0.length c0_0), (.slice A0_1 l0_1.length c0_1), (.slice A0_2 l0_2.length c0_2)] 25 (0, 0))) ∧ zA (Below w.heap.size w wc))
  case first =>
   have H := HC5.out; clear HC5; replace H := Option.bind_eq_some_iff.mp H; obtain ⟨t512, A80, H⟩ := H; replace H : (if t512 = true then (wL.j0 k a1 (decide ((a1.size : Int) > 1000)) l0_0 l0_1 l0_2) else (wL.j0 k a1 true l0_0 l0_1 l0_2)) = some r := H; have A8 := zA.mk A80; clear A80; by_cases c9 : t512 = true
   ·
    subst c9; replace H : (wL.j0 k a1 (decide ((a1.size : Int) > 1000)) l0_0 l0_1 l0_2) = some r := by rw [if_pos rfl] at H; exact H
    have H' := zA.mk H; clear H; have zBO : w7.cell? ⟨zCE, 0, none⟩ = some (.slice A0_0 l0_0.length c0_0) := (zC yW.out 0).trans rfl; have zBN : w7.cell? ⟨zCE, 1, none⟩ = some (.slice A0_1 l0_1.length c0_1) := (zC yW.out 1).trans rfl; have zBM : w7.cell? ⟨zCE, 2, none⟩ = some (.slice A0_2 l0_2.length c0_2) := (zC yW.out 2).trans rfl; have zBI := zB yW.out 0; have zBH := zB yW.out 1; have zBG := zB yW.out 2; go_wp2_with (first | ((with_reducible refine zQ (f := 11) rfl ?_); refine vN (some 18) rfl rfl Tryd.func11 (by kernel_rfl) rfl #[.agg #[.slice A0_0 l0_0.length c0_0, .slice A0_1 l0_1.length c0_1, .slice A0_2 l0_2.length c0_2]] rfl (by (try simp only [List.map_toArray, List.map_cons, List.map_nil]); first | done | rfl | (simp only [List.length_drop, List.length_take]; rfl)) ?_; (with_reducible refine (wJ.calls k _ _ l0_0 _ _ l0_1 _ _ l0_2 true _ ?side1 ?side2 ?side3 ?side4 ?side5 ?side6 A8.out).mono ?_); (case side1 => repeat (first | exact (Kd.zX HR0_0.out HB.out) | (with_reducible refine Kd.zP ?_ _) | (with_reducible refine Kd.zO ?_ _) | (with_reducible refine Kd.zY ?_))); (case side2 => exact HC0_0.out); (case side3 => repeat (first | exact (Kd.zX HR0_1.out HB.out) | (with_reducible refine Kd.zP ?_ _) | (with_reducible refine Kd.zO ?_ _) | (with_reducible refine Kd.zY ?_))); (case side4 => exact HC0_1.out); (case side5 => repeat (first | exact (Kd.zX HR0_2.out HB.out) | (with_reducible refine Kd.zP ?_ _) | (with_reducible refine Kd.zO ?_ _) | (with_reducible refine Kd.zY ?_))); (case side6 => exact HC0_2.out); rintro e w11 ⟨rfl, hb⟩; refine ⟨_, rfl, ?_⟩; have n0_ := zA.mk (zM (bG yW.out) hb); have n1_ := zA.mk (zG (eG HB.out) hb); clear yW; clear HB; have yW := n0_; have HB := n1_; clear n0_ n1_; (try clear hb); (try clear hb2); (try clear hk); (try clear hi)))
    go_meet
    case rel => exact ⟨_, (decide ((a1.size : Int) > 1000)), (by first | rfl | (simp; done) | (simp [*]; done)), H', ⟨by first | omega | exact Nat.le_refl _⟩, ⟨by (with_reducible repeat first | apply bN | apply bD | apply bA); exact yW.out⟩, ⟨eG HB.out⟩⟩
   ·
    replace c9 := Bool.eq_false_iff.mpr c9; subst c9; replace H : (wL.j0 k a1 true l0_0 l0_1 l0_2) = some r := by rw [if_neg (show ¬ (false = true) by decide)] at H; exact H
    have H' := zA.mk H; clear H; have zDY : w7.cell? ⟨zCE, 0, none⟩ = some (.slice A0_0 l0_0.length c0_0) := (zC yW.out 0).trans rfl; have zDX : w7.cell? ⟨zCE, 1, none⟩ = some (.slice A0_1 l0_1.length c0_1) := (zC yW.out 1).trans rfl; have zDW : w7.cell? ⟨zCE, 2, none⟩ = some (.slice A0_2 l0_2.length c0_2) := (zC yW.out 2).trans rfl; have zDV := zB yW.out 0; have zDU := zB yW.out 1; have zDT := zB yW.out 2; go_wp2_with (first | ((with_reducible refine zQ (f := 11) rfl ?_); refine vN (some 18) rfl rfl Tryd.func11 (by kernel_rfl) rfl #[.agg #[.slice A0_0 l0_0.length c0_0, .slice A0_1 l0_1.length c0_1, .slice A0_2 l0_2.length c0_2]] rfl (by (try simp only [List.map_toArray, List.map_cons, List.map_nil]); first | done | rfl | (simp only [List.length_drop, List.length_take]; rfl)) ?_; (with_reducible refine (wJ.calls k _ _ l0_0 _ _ l0_1 _ _ l0_2 false _ ?side1 ?side2 ?side3 ?side4 ?side5 ?side6 A8.out).mono ?_); (case side1 => repeat (first | exact (Kd.zX HR0_0.out HB.out) | (with_reducible refine Kd.zP ?_ _) | (with_reducible refine Kd.zO ?_ _) | (with_reducible refine Kd.zY ?_))); (case side2 => exact HC0_0.out); (case side3 => repeat (first | exact (Kd.zX HR0_1.out HB.out) | (with_reducible refine Kd.zP ?_ _) | (with_reducible refine Kd.zO ?_ _) | (with_reducible refine Kd.zY ?_))); (case side4 => exact HC0_1.out); (case side5 => repeat (first | exact (Kd.zX HR0_2.out HB.out) | (with_reducible refine Kd.zP ?_ _) | (with_reducible refine Kd.zO ?_ _) | (with_reducible refine Kd.zY ?_))); (case side6 => exact HC0_2.out); rintro e w13 ⟨rfl, hb⟩; refine ⟨_, rfl, ?_⟩; have n0_ := zA.mk (zM (bG yW.out) hb); have n1_ := zA.mk (zG (eG HB.out) hb); clear yW; clear HB; have yW := n0_; have HB := n1_; clear n0_ n1_; (try clear hb); (try clear hb2); (try clear hk); (try clear hi)))
    go_meet
    case rel => exact ⟨_, (true), (by first | rfl | (simp; done) | (simp [*]; done)), H', ⟨by first | omega | exact Nat.le_refl _⟩, ⟨by (with_reducible repeat first | apply bN | apply bD | apply bA); exact yW.out⟩, ⟨eG HB.out⟩⟩
  case rest =>
   clear HC5; repeat first | clear c1 | clear p2 | clear c4 | clear c8 | clear c9 | clear c10 | clear c11 | clear zBO | clear zBN | clear zBM | clear zDY | clear zDX | clear zDW | clear zBI | clear zBH | clear zBG | clear zDV | clear zDU | clear zDT
   obtain ⟨kq, x24_4, rfl, HA, HJ4, yW, HB⟩ := hcut
   cases kq with
   | zero => exact absurd HA.out (by simp [wL.j0])
   | succ kj4 =>
    have H := HA.out; clear HA; simp only [wL.j0] at H; by_cases c14 : x24_4 = true
    ·
     subst c14; replace H : (some true) = some r := by rw [if_pos rfl] at H; exact H
     obtain rfl := Option.some.inj H; go_wp2; go_ret
     exact ⟨by first | rfl | (simp [zI, zH] <;> rfl) | (simp [*, zI, zH] <;> rfl), eG HB.out⟩
    ·
     replace c14 := Bool.eq_false_iff.mpr c14; subst c14; replace H : ((qA.f kj4 l0_0 l0_1 l0_2).bind fun bt513 => ((wP.f kj4 l0_0 l0_1 l0_2).bind fun bt515 => ((zU.f kj4 a1).bind fun bt517 => ((zL.f kj4 a1).bind fun bt529 => (if bt513.1.toList = bt515.1.toList then (if bt513.2 = bt515.2 then ((wE.f kj4 bt517.1 bt517.2.1 bt517.2.2.1 bt529.1 bt529.2.1 bt529.2.2.1).bind fun t541 => (if t541 = true then (if bt517.2.2.2.1 = bt529.2.2.2.1 then (some (bt517.2.2.2.2 == bt529.2.2.2.2)) else (none)) else (none))) else (none)) else (none)))))) = some r := by rw [if_neg (show ¬ (false = true) by decide)] at H; exact H
     replace H := Option.bind_eq_some_iff.mp H; obtain ⟨⟨t513, t514⟩, A150, H⟩ := H; replace H : ((wP.f kj4 l0_0 l0_1 l0_2).bind fun bt515 => ((zU.f kj4 a1).bind fun bt517 => ((zL.f kj4 a1).bind fun bt529 => (if t513.toList = bt515.1.toList then (if t514 = bt515.2 then ((wE.f kj4 bt517.1 bt517.2.1 bt517.2.2.1 bt529.1 bt529.2.1 bt529.2.2.1).bind fun t541 => (if t541 = true then (if bt517.2.2.2.1 = bt529.2.2.2.1 then (some (bt517.2.2.2.2 == bt529.2.2.2.2)) else (none)) else (none))) else (none)) else (none))))) = some r := H; have A15 := zA.mk A150; clear A150; replace H := Option.bind_eq_some_iff.mp H; obtain ⟨⟨t515, t516⟩, A160, H⟩ := H; replace H : ((zU.f kj4 a1).bind fun bt517 => ((zL.f kj4 a1).bind fun bt529 => (if t513.toList = t515.toList then (if t514 = t516 then ((wE.f kj4 bt517.1 bt517.2.1 bt517.2.2.1 bt529.1 bt529.2.1 bt529.2.2.1).bind fun t541 => (if t541 = true then (if bt517.2.2.2.1 = bt529.2.2.2.1 then (some (bt517.2.2.2.2 == bt529.2.2.2.2)) else (none)) else (none))) else (none)) else (none)))) = some r := H; have A16 := zA.mk A160; clear A160; replace H := Option.bind_eq_some_iff.mp H; obtain ⟨⟨t517, t520, t523, t526, t527⟩, A170, H⟩ := H; replace H : ((zL.f kj4 a1).bind fun bt529 => (if t513.toList = t515.toList then (if t514 = t516 then ((wE.f kj4 t517 t520 t523 bt529.1 bt529.2.1 bt529.2.2.1).bind fun t541 => (if t541 = true then (if t526 = bt529.2.2.2.1 then (some (t527 == bt529.2.2.2.2)) else (none)) else (none))) else (none)) else (none))) = some r := H; have A17 := zA.mk A170; clear A170; replace H := Option.bind_eq_some_iff.mp H; obtain ⟨⟨t529, t532, t535, t538, t539⟩, A180, H⟩ := H; replace H : (if t513.toList = t515.toList then (if t514 = t516 then ((wE.f kj4 t517 t520 t523 t529 t532 t535).bind fun t541 => (if t541 = true then (if t526 = t538 then (some (t527 == t539)) else (none)) else (none))) else (none)) else (none)) = some r := H; have A18 := zA.mk A180; clear A180; by_cases c19 : t513.toList = t515.toList
     ·
      rw [if_pos c19] at H; have c19b0 : (t513.toList == t515.toList) = true := beq_iff_eq.mpr c19; have c19b1 : (t513.toList != t515.toList) = false := bne_eq_false_iff_eq.mpr c19; clear c19; by_cases c20 : t514 = t516
      ·
       rw [if_pos c20] at H; have c20b0 : (t514 == t516) = true := beq_iff_eq.mpr c20; have c20b1 : (t514 != t516) = false := bne_eq_false_iff_eq.mpr c20; clear c20; replace H := Option.bind_eq_some_iff.mp H; obtain ⟨t541, A210, H⟩ := H; replace H : (if t541 = true then (if t526 = t538 then (some (t527 == t539)) else (none)) else (none)) = some r := H; have A21 := zA.mk A210; clear A210; by_cases c22 : t541 = true
       ·
        subst c22; replace H : (if t526 = t538 then (some (t527 == t539)) else (none)) = some r := by rw [if_pos rfl] at H; exact H
        by_cases c23 : t526 = t538
        ·
         rw [if_pos c23] at H; have c23b0 : (t526 == t538) = true := beq_iff_eq.mpr c23; have c23b1 : (t526 != t538) = false := bne_eq_false_iff_eq.mpr c23; clear c23; obtain rfl := Option.some.inj H; have zSV : wc.cell? ⟨zCE, 0, none⟩ = some (.slice A0_0 l0_0.length c0_0) := (zC yW.out 0).trans rfl; have hcz24_1 : wc.cell? ⟨zCE, 1, none⟩ = some (.slice A0_1 l0_1.length c0_1) := (zC yW.out 1).trans rfl; have hcz24_2 : wc.cell? ⟨zCE, 2, none⟩ = some (.slice A0_2 l0_2.length c0_2) := (zC yW.out 2).trans rfl; have zSM := zB yW.out 0; have hfz24_1 := zB yW.out 1; have hfz24_2 := zB yW.out 2; go_wp2_with (first | ((with_reducible refine zQ (f := 20) rfl ?_); refine vN (some 27) rfl rfl Tryd.func20 (by kernel_rfl) rfl #[.agg #[.slice A0_0 l0_0.length c0_0, .slice A0_1 l0_1.length c0_1, .slice A0_2 l0_2.length c0_2]] rfl (by (try simp only [List.map_toArray, List.map_cons, List.map_nil]); first | done | rfl | (simp only [List.length_drop, List.length_take]; rfl)) ?_; (with_reducible refine (qA.calls kj4 _ _ l0_0 _ _ l0_1 _ _ l0_2 t513 t514 _ ?side1 ?side2 ?side3 ?side4 ?side5 ?side6 ?side7 A15.out).mono ?_); (case side1 => repeat (first | exact (Kd.zX HR0_0.out HB.out) | (with_reducible refine Kd.zP ?_ _) | (with_reducible refine Kd.zO ?_ _) | (with_reducible refine Kd.zY ?_))); (case side2 => exact HC0_0.out); (case side3 => repeat (first | exact (Kd.zX HR0_1.out HB.out) | (with_reducible refine Kd.zP ?_ _) | (with_reducible refine Kd.zO ?_ _) | (with_reducible refine Kd.zY ?_))); (case side4 => exact HC0_1.out); (case side5 => repeat (first | exact (Kd.zX HR0_2.out HB.out) | (with_reducible refine Kd.zP ?_ _) | (with_reducible refine Kd.zO ?_ _) | (with_reducible refine Kd.zY ?_))); (case side6 => exact HC0_2.out); (case side7 => exact GI.below HG.out (eG HB.out)); rintro e w25 ⟨rfl, hb⟩; refine ⟨_, rfl, ?_⟩; have n0_ := zA.mk (zM (bG yW.out) hb); have n1_ := zA.mk (zG (eG HB.out) hb); clear yW; clear HB; have yW := n0_; have HB := n1_; clear n0_ n1_; (try clear hb); (try clear hb2); (try clear hk); (try clear hi); have zIZ : w25.cell? ⟨zCE, 0, none⟩ = some (.slice A0_0 l0_0.length c0_0) := (zC yW.out 0).trans rfl; have zIY : w25.cell? ⟨zCE, 1, none⟩ = some (.slice A0_1 l0_1.length c0_1) := (zC yW.out 1).trans rfl; have zIX : w25.cell? ⟨zCE, 2, none⟩ = some (.slice A0_2 l0_2.length c0_2) := (zC yW.out 2).trans rfl; have zIM := zB yW.out 0; have zIL := zB yW.out 1; have zIK := zB yW.out 2) | ((with_reducible refine zQ (f := 21) rfl ?_); refine vN (some 32) rfl rfl Tryd.func21 (by kernel_rfl) rfl #[.agg #[.slice A0_0 l0_0.length c0_0, .slice A0_1 l0_1.length c0_1, .slice A0_2 l0_2.length c0_2]] rfl (by (try simp only [List.map_toArray, List.map_cons, List.map_nil]); first | done | rfl | (simp only [List.length_drop, List.length_take]; rfl)) ?_; (with_reducible refine (wP.calls kj4 _ _ l0_0 _ _ l0_1 _ _ l0_2 t515 t516 _ ?side1 ?side2 ?side3 ?side4 ?side5 ?side6 A16.out).mono ?_); (case side1 => repeat (first | exact (Kd.zX HR0_0.out HB.out) | (with_reducible refine Kd.zP ?_ _) | (with_reducible refine Kd.zO ?_ _) | (with_reducible refine Kd.zY ?_))); (case side2 => exact HC0_0.out); (case side3 => repeat (first | exact (Kd.zX HR0_1.out HB.out) | (with_reducible refine Kd.zP ?_ _) | (with_reducible refine Kd.zO ?_ _) | (with_reducible refine Kd.zY ?_))); (case side4 => exact HC0_1.out); (case side5 => repeat (first | exact (Kd.zX HR0_2.out HB.out) | (with_reducible refine Kd.zP ?_ _) | (with_reducible refine Kd.zO ?_ _) | (with_reducible refine Kd.zY ?_))); (case side6 => exact HC0_2.out); rintro e w27 ⟨rfl, hb⟩; refine ⟨_, rfl, ?_⟩; have n0_ := zA.mk (zM (bG yW.out) hb); have n1_ := zA.mk (zG (eG HB.out) hb); clear yW; clear HB; have yW := n0_; have HB := n1_; clear n0_ n1_; (try clear hb); (try clear hb2); (try clear hk); (try clear hi)) | ((with_reducible refine zQ (f := 22) rfl ?_); refine vN (some 37) rfl rfl Tryd.func22 (by kernel_rfl) rfl #[.string a1] rfl (by (try simp only [List.map_toArray, List.map_cons, List.map_nil]); first | done | rfl | (simp only [List.length_drop, List.length_take]; rfl)) ?_; (with_reducible refine (zU.calls kj4 a1 t517 t520 t523 t526 t527 _ ?side1 A17.out).mono ?_); (case side1 => exact GI.below HG.out (eG HB.out)); rintro e w28 ⟨v518, v521, v524, rfl, ho0, ho1, ho2, hb⟩; refine ⟨_, rfl, ?_⟩; have n0_ := zA.mk (Kd.yD (Kd.vP (ok' := fun k_ => some k_ ≠ (v521 : Value).ownBlock) ho0 (fun _ hk_ => hk_.2)) (zD (eG HB.out))); have n1_ := zA.mk (Kd.yD (Kd.vP (ok' := fun k_ => some k_ ≠ (v518 : Value).ownBlock) ho1 (fun _ hk_ => hk_.2)) (zD (eG HB.out))); have n2_ := zA.mk (Kd.zJP (Kd.yJ (ok' := fun k_ => some k_ ≠ (v518 : Value).ownBlock ∧ some k_ ≠ (v521 : Value).ownBlock ∧ k_ ≠ zCE) ho2 (fun k_ hk_ => ⟨hk_.2.1, hk_.2.2, (Kd.zFV (bG yW.out) k_ hk_.1)⟩)) (zD (eG HB.out))); have n3_ := zA.mk (zM (bG yW.out) hb); have n4_ := zA.mk (zG (eG HB.out) hb); clear yW; clear HB; have zEY := n0_; have zEX := n1_; have zGP := n2_; have yW := n3_; have HB := n4_; clear n0_ n1_ n2_ n3_ n4_; (try clear hb); (try clear hb2); (try clear hk); (try clear hi); (try clear ho0); (try clear ho1); (try clear ho2)) | ((with_reducible refine vH (N := 9) rfl ?_); (try (refine vJ (by rfl) ?_; dsimp only)); refine vD ?hg (N := 9) ?hd (cs := #[.slice none 0 0, .slice none 0 0, .slice none 0 0]) (t := 25) ?hr ?_; (case hd => rfl); (case hg => rfl); (case hr => first | (go_simp; done) | (go_simp; rfl)); intro uD hg w29 hbox hb; have n0_ := zA.mk (Kd.wO (rG zEY.out) hb); have n1_ := zA.mk (Kd.wO (rG zEX.out) hb); have n2_ := zA.mk (Kd.jV (Kd.zHV (by (with_reducible repeat (first | apply Kd.vT | apply Kd.vS | apply Kd.qJ)); exact zGP.out) uD (Nat.le_of_eq hg.symm)) hb); have n3_ := zA.mk (zM (bG yW.out) hb); have n4_ := zA.mk (zG (eG HB.out) hb); have n5_ := zA.mk (hbox); have n6_ := zA.mk ((by rw [hg]; exact (zD (eG HB.out)) : w.heap.size ≤ uD)); have n7_ := zA.mk ((by rw [hg]; exact (zD (eG HB.out)) : w.heap.size ≤ uD)); have n8_ := zA.mk ((by rw [hg]; exact Nat.ne_of_lt (yG (bG yW.out)) : zCE ≠ uD)); have n9_ := zA.mk ((by rw [hg]; exact Nat.ne_of_gt (yG (bG yW.out)) : uD ≠ zCE)); clear zEY; clear zEX; clear zGP; clear yW; clear HB; have zEY := n0_; have zEX := n1_; have zGP := n2_; have yW := n3_; have HB := n4_; have zAY := n5_; have GW528 := n6_; have GE528 := n7_; have ig528_ := geI GE528; have zDE := n8_; have zYG := n9_; clear n0_ n1_ n2_ n3_ n4_ n5_ n6_ n7_ n8_ n9_; clear hb hbox hg; obtain ⟨Ao30, co30, eo30⟩ := Kd.qQ zEY.out; subst eo30; have hnb31 := zYG.out; have hnc31 := zDE.out; have zXH : w29.cell? ⟨uD, 0, none⟩ = some (.slice none 0 0) := (zC zAY.out 0).trans rfl; have zXG : w29.cell? ⟨uD, 1, none⟩ = some (.slice none 0 0) := (zC zAY.out 1).trans rfl; have hcz32_2 : w29.cell? ⟨uD, 2, none⟩ = some (.slice none 0 0) := (zC zAY.out 2).trans rfl; have zWQ := zB zAY.out 0; have zWP := zB zAY.out 1; have hfz32_2 := zB zAY.out 2; obtain ⟨Ao33, co33, eo33⟩ := Kd.qQ zEX.out; subst eo33; obtain ⟨Ao34, co34, eo34⟩ := Kd.zFY zGP.out; subst eo34) | ((with_reducible refine zQ (f := 23) rfl ?_); refine vN (some 43) rfl rfl Tryd.func23 (by kernel_rfl) rfl #[.string a1] rfl (by (try simp only [List.map_toArray, List.map_cons, List.map_nil]); first | done | rfl | (simp only [List.length_drop, List.length_take]; rfl)) ?_; (with_reducible refine (zL.calls kj4 a1 t529 t532 t535 t538 t539 _ A18.out).mono ?_); rintro e w35 ⟨v530, v533, v536, rfl, ho0, ho1, ho2, hb⟩; refine ⟨_, rfl, ?_⟩; have n0_ := zA.mk (Kd.vP (Kd.zTZ (Kd.zTZ (Kd.R_old (by (with_reducible repeat (first | apply Kd.zK | apply Kd.zJ | apply Kd.zT)); exact (Kd.vP (Kd.qR (p := ⟨uD, 2, none⟩) (Kd.qR (p := ⟨uD, 1, none⟩) (Kd.qR (p := ⟨uD, 0, none⟩) (Kd.qE zEY.out zAY.out (by decide)) (fun _ hk => hk.2) (.slice Ao30 t517.length co30)) (fun _ hk => hk.2) (.slice Ao33 t520.length co33)) (fun _ hk => hk.2) (.slice Ao34 t523.length co34)) (fun _ h_ => h_.1))) hb) (Kd.qF ho0)) (Kd.qF ho1)) (fun _ h_ => h_.1)); have n1_ := zA.mk (Kd.vP (Kd.zTZ (Kd.zTZ (Kd.R_old (by (with_reducible repeat (first | apply Kd.zK | apply Kd.zJ | apply Kd.zT)); exact (Kd.vP (Kd.qR (p := ⟨uD, 2, none⟩) (Kd.qR (p := ⟨uD, 1, none⟩) (Kd.qR (p := ⟨uD, 0, none⟩) (Kd.qE zEX.out zAY.out (by decide)) (fun _ hk => hk.2) (.slice Ao30 t517.length co30)) (fun _ hk => hk.2) (.slice Ao33 t520.length co33)) (fun _ hk => hk.2) (.slice Ao34 t523.length co34)) (fun _ h_ => h_.1))) hb) (Kd.qF ho0)) (Kd.qF ho1)) (fun _ h_ => h_.1)); have n2_ := zA.mk (Kd.yJ (Kd.zYD (Kd.zYD (Kd.zYD (Kd.N_old (by (with_reducible repeat (first | apply Kd.vT | apply Kd.vS | apply Kd.qJ)); exact (Kd.yJ (Kd.zAN (p := ⟨uD, 2, none⟩) (Kd.zAN (p := ⟨uD, 1, none⟩) (Kd.zAN (p := ⟨uD, 0, none⟩) (Kd.yJ zGP.out (fun k_ hk => (⟨hk, hk.2⟩ : _ ∧ k_ ≠ uD))) (fun _ hk => hk.2) (.slice Ao30 t517.length co30)) (fun _ hk => hk.2) (.slice Ao33 t520.length co33)) (fun _ hk => hk.2) (.slice Ao34 t523.length co34)) (fun _ h_ => h_.1))) hb) (Kd.qF ho0)) (Kd.qF ho1)) (Kd.S_base ho2)) (fun _ h_ => h_.1)); have n3_ := zA.mk (Kd.yD (Kd.yO (Kd.yO ho0 (Kd.R_lt (by (with_reducible repeat (first | apply Kd.zK | apply Kd.zJ | apply Kd.zT)); exact (Kd.vP (Kd.qR (p := ⟨uD, 2, none⟩) (Kd.qR (p := ⟨uD, 1, none⟩) (Kd.qR (p := ⟨uD, 0, none⟩) (Kd.qE zEY.out zAY.out (by decide)) (fun _ hk => hk.2) (.slice Ao30 t517.length co30)) (fun _ hk => hk.2) (.slice Ao33 t520.length co33)) (fun _ hk => hk.2) (.slice Ao34 t523.length co34)) (fun _ h_ => h_.1))))) (Kd.R_lt (by (with_reducible repeat (first | apply Kd.zK | apply Kd.zJ | apply Kd.zT)); exact (Kd.vP (Kd.qR (p := ⟨uD, 2, none⟩) (Kd.qR (p := ⟨uD, 1, none⟩) (Kd.qR (p := ⟨uD, 0, none⟩) (Kd.qE zEX.out zAY.out (by decide)) (fun _ hk => hk.2) (.slice Ao30 t517.length co30)) (fun _ hk => hk.2) (.slice Ao33 t520.length co33)) (fun _ hk => hk.2) (.slice Ao34 t523.length co34)) (fun _ h_ => h_.1))))) (zD (eG HB.out))); have n4_ := zA.mk (Kd.yD (Kd.yO (Kd.yO ho1 (Kd.R_lt (by (with_reducible repeat (first | apply Kd.zK | apply Kd.zJ | apply Kd.zT)); exact (Kd.vP (Kd.qR (p := ⟨uD, 2, none⟩) (Kd.qR (p := ⟨uD, 1, none⟩) (Kd.qR (p := ⟨uD, 0, none⟩) (Kd.qE zEY.out zAY.out (by decide)) (fun _ hk => hk.2) (.slice Ao30 t517.length co30)) (fun _ hk => hk.2) (.slice Ao33 t520.length co33)) (fun _ hk => hk.2) (.slice Ao34 t523.length co34)) (fun _ h_ => h_.1))))) (Kd.R_lt (by (with_reducible repeat (first | apply Kd.zK | apply Kd.zJ | apply Kd.zT)); exact (Kd.vP (Kd.qR (p := ⟨uD, 2, none⟩) (Kd.qR (p := ⟨uD, 1, none⟩) (Kd.qR (p := ⟨uD, 0, none⟩) (Kd.qE zEX.out zAY.out (by decide)) (fun _ hk => hk.2) (.slice Ao30 t517.length co30)) (fun _ hk => hk.2) (.slice Ao33 t520.length co33)) (fun _ hk => hk.2) (.slice Ao34 t523.length co34)) (fun _ h_ => h_.1))))) (zD (eG HB.out))); have n5_ := zA.mk (Kd.zJP (Kd.yJ (ok' := fun k_ => some k_ ≠ (v530 : Value).ownBlock ∧ some k_ ≠ (v533 : Value).ownBlock ∧ some k_ ≠ (.slice Ao30 t517.length co30 : Value).ownBlock ∧ some k_ ≠ (.slice Ao33 t520.length co33 : Value).ownBlock ∧ some k_ ≠ (.slice Ao34 t523.length co34 : Value).ownBlock ∧ k_ ≠ zCE ∧ k_ ≠ uD) (Kd.S_N (Kd.zYB ho2)) (fun k_ hk_ => ⟨hk_.1.1, hk_.1.2, (Kd.jS (Kd.R_lt (by (with_reducible repeat (first | apply Kd.zK | apply Kd.zJ | apply Kd.zT)); exact (Kd.vP (Kd.qR (p := ⟨uD, 2, none⟩) (Kd.qR (p := ⟨uD, 1, none⟩) (Kd.qR (p := ⟨uD, 0, none⟩) (Kd.qE zEY.out zAY.out (by decide)) (fun _ hk => hk.2) (.slice Ao30 t517.length co30)) (fun _ hk => hk.2) (.slice Ao33 t520.length co33)) (fun _ hk => hk.2) (.slice Ao34 t523.length co34)) (fun _ h_ => h_.1)))) k_ hk_.2.1), (Kd.jS (Kd.R_lt (by (with_reducible repeat (first | apply Kd.zK | apply Kd.zJ | apply Kd.zT)); exact (Kd.vP (Kd.qR (p := ⟨uD, 2, none⟩) (Kd.qR (p := ⟨uD, 1, none⟩) (Kd.qR (p := ⟨uD, 0, none⟩) (Kd.qE zEX.out zAY.out (by decide)) (fun _ hk => hk.2) (.slice Ao30 t517.length co30)) (fun _ hk => hk.2) (.slice Ao33 t520.length co33)) (fun _ hk => hk.2) (.slice Ao34 t523.length co34)) (fun _ h_ => h_.1)))) k_ hk_.2.1), (Kd.jS (Kd.N_lt (by (with_reducible repeat (first | apply Kd.vT | apply Kd.vS | apply Kd.qJ)); exact (Kd.yJ (Kd.zAN (p := ⟨uD, 2, none⟩) (Kd.zAN (p := ⟨uD, 1, none⟩) (Kd.zAN (p := ⟨uD, 0, none⟩) (Kd.yJ zGP.out (fun k_ hk => (⟨hk, hk.2⟩ : _ ∧ k_ ≠ uD))) (fun _ hk => hk.2) (.slice Ao30 t517.length co30)) (fun _ hk => hk.2) (.slice Ao33 t520.length co33)) (fun _ hk => hk.2) (.slice Ao34 t523.length co34)) (fun _ h_ => h_.1)))) k_ hk_.2.1), (Kd.zFV (g := zCE) (o := .cells #[.slice A0_0 l0_0.length c0_0, .slice A0_1 l0_1.length c0_1, .slice A0_2 l0_2.length c0_2] 25 (0, 0)) (by (with_reducible repeat first | apply bN | apply bD | apply bA); refine yL ?_ zDE.out _; (with_reducible repeat first | apply bN | apply bD | apply bA); refine yL ?_ zDE.out _; (with_reducible repeat first | apply bN | apply bD | apply bA); refine yL ?_ zDE.out _; (with_reducible repeat first | apply bN | apply bD | apply bA); exact yW.out) k_ hk_.2.1), (Kd.zFV (g := uD) (o := .cells #[.slice Ao30 t517.length co30, .slice Ao33 t520.length co33, .slice Ao34 t523.length co34] 25 (0, 0)) (by (with_reducible repeat first | apply bN | apply bD | apply bA); refine vA (cs := #[.slice Ao30 t517.length co30, .slice Ao33 t520.length co33, .slice none 0 0]) ?_ 2 _ rfl; (with_reducible repeat first | apply bN | apply bD | apply bA); refine vA (cs := #[.slice Ao30 t517.length co30, .slice none 0 0, .slice none 0 0]) ?_ 1 _ rfl; (with_reducible repeat first | apply bN | apply bD | apply bA); refine vA (cs := #[.slice none 0 0, .slice none 0 0, .slice none 0 0]) ?_ 0 _ rfl; (with_reducible repeat first | apply bN | apply bD | apply bA); exact zAY.out) k_ hk_.2.1)⟩)) (zD (eG HB.out))); have n6_ := zA.mk (zM (g := zCE) (o := .cells #[.slice A0_0 l0_0.length c0_0, .slice A0_1 l0_1.length c0_1, .slice A0_2 l0_2.length c0_2] 25 (0, 0)) (by (with_reducible repeat first | apply bN | apply bD | apply bA); refine yL ?_ zDE.out _; (with_reducible repeat first | apply bN | apply bD | apply bA); refine yL ?_ zDE.out _; (with_reducible repeat first | apply bN | apply bD | apply bA); refine yL ?_ zDE.out _; (with_reducible repeat first | apply bN | apply bD | apply bA); exact yW.out) hb); have n7_ := zA.mk (zM (g := uD) (o := .cells #[.slice Ao30 t517.length co30, .slice Ao33 t520.length co33, .slice Ao34 t523.length co34] 25 (0, 0)) (by (with_reducible repeat first | apply bN | apply bD | apply bA); refine vA (cs := #[.slice Ao30 t517.length co30, .slice Ao33 t520.length co33, .slice none 0 0]) ?_ 2 _ rfl; (with_reducible repeat first | apply bN | apply bD | apply bA); refine vA (cs := #[.slice Ao30 t517.length co30, .slice none 0 0, .slice none 0 0]) ?_ 1 _ rfl; (with_reducible repeat first | apply bN | apply bD | apply bA); refine vA (cs := #[.slice none 0 0, .slice none 0 0, .slice none 0 0]) ?_ 0 _ rfl; (with_reducible repeat first | apply bN | apply bD | apply bA); exact zAY.out) hb); have n8_ := zA.mk (zG (eG HB.out) hb); clear zEY; clear zEX; clear zGP; clear yW; clear zAY; clear HB; have zEY := n0_; have zEX := n1_; have zGP := n2_; have zPV := n3_; have zPU := n4_; have zPT := n5_; have yW := n6_; have zAY := n7_; have HB := n8_; clear n0_ n1_ n2_ n3_ n4_ n5_ n6_ n7_ n8_; (try clear hb); (try clear hb2); (try clear hk); (try clear hi); (try clear ho0); (try clear ho1); (try clear ho2)) | ((with_reducible refine vH (N := 12) rfl ?_); (try (refine vJ (by rfl) ?_; dsimp only)); refine vD ?hg (N := 12) ?hd (cs := #[.slice none 0 0, .slice none 0 0, .slice none 0 0]) (t := 25) ?hr ?_; (case hd => rfl); (case hg => rfl); (case hr => first | (go_simp; done) | (go_simp; rfl)); intro jT hg w36 hbox hb; have n0_ := zA.mk (Kd.wO (rG zEY.out) hb); have n1_ := zA.mk (Kd.wO (rG zEX.out) hb); have n2_ := zA.mk (Kd.jV (Kd.zHV (by (with_reducible repeat (first | apply Kd.vT | apply Kd.vS | apply Kd.qJ)); exact zGP.out) jT (Nat.le_of_eq hg.symm)) hb); have n3_ := zA.mk (Kd.wO (rG zPV.out) hb); have n4_ := zA.mk (Kd.wO (rG zPU.out) hb); have n5_ := zA.mk (Kd.jV (Kd.zHV (by (with_reducible repeat (first | apply Kd.vT | apply Kd.vS | apply Kd.qJ)); exact zPT.out) jT (Nat.le_of_eq hg.symm)) hb); have n6_ := zA.mk (zM (bG yW.out) hb); have n7_ := zA.mk (zM (bG zAY.out) hb); have n8_ := zA.mk (zG (eG HB.out) hb); have n9_ := zA.mk (hbox); have n10_ := zA.mk ((by rw [hg]; exact (zD (eG HB.out)) : w.heap.size ≤ jT)); have n11_ := zA.mk ((by rw [hg]; exact (zD (eG HB.out)) : w.heap.size ≤ jT)); have n12_ := zA.mk ((by rw [hg]; exact Nat.ne_of_lt (yG (bG yW.out)) : zCE ≠ jT)); have n13_ := zA.mk ((by rw [hg]; exact Nat.ne_of_gt (yG (bG yW.out)) : jT ≠ zCE)); have n14_ := zA.mk ((by rw [hg]; exact Nat.ne_of_lt (yG (bG zAY.out)) : uD ≠ jT)); have n15_ := zA.mk ((by rw [hg]; exact Nat.ne_of_gt (yG (bG zAY.out)) : jT ≠ uD)); clear zEY; clear zEX; clear zGP; clear zPV; clear zPU; clear zPT; clear yW; clear zAY; clear HB; have zEY := n0_; have zEX := n1_; have zGP := n2_; have zPV := n3_; have zPU := n4_; have zPT := n5_; have yW := n6_; have zAY := n7_; have HB := n8_; have zGG := n9_; have GW540 := n10_; have GE540 := n11_; have ig540_ := geI GE540; have zHZ := n12_; have zYF := n13_; have zHY := n14_; have zYE := n15_; clear n0_ n1_ n2_ n3_ n4_ n5_ n6_ n7_ n8_ n9_ n10_ n11_ n12_ n13_ n14_ n15_; clear hb hbox hg; obtain ⟨Ao37, co37, eo37⟩ := Kd.qQ zPV.out; subst eo37; have hnb38 := zYF.out; have hnc38 := zHZ.out; have hnb39 := zYE.out; have hnc39 := zHY.out; have hcz40_0 : w36.cell? ⟨jT, 0, none⟩ = some (.slice none 0 0) := (zC zGG.out 0).trans rfl; have hcz40_1 : w36.cell? ⟨jT, 1, none⟩ = some (.slice none 0 0) := (zC zGG.out 1).trans rfl; have hcz40_2 : w36.cell? ⟨jT, 2, none⟩ = some (.slice none 0 0) := (zC zGG.out 2).trans rfl; have hfz40_0 := zB zGG.out 0; have hfz40_1 := zB zGG.out 1; have hfz40_2 := zB zGG.out 2; obtain ⟨Ao41, co41, eo41⟩ := Kd.qQ zPU.out; subst eo41; obtain ⟨Ao42, co42, eo42⟩ := Kd.zFY zPT.out; subst eo42; have zXE : w36.cell? ⟨uD, 0, none⟩ = some (.slice Ao30 t517.length co30) := (zC zAY.out 0).trans rfl; have zXD : w36.cell? ⟨uD, 1, none⟩ = some (.slice Ao33 t520.length co33) := (zC zAY.out 1).trans rfl; have hcz43_2 : w36.cell? ⟨uD, 2, none⟩ = some (.slice Ao34 t523.length co34) := (zC zAY.out 2).trans rfl; have zWN := zB zAY.out 0; have zWM := zB zAY.out 1; have hfz43_2 := zB zAY.out 2) | (go_at_call 24; (with_reducible refine (wE.calls kj4 _ _ t517 _ _ t520 _ _ t523 _ _ t529 _ _ t532 _ _ t535 true _ ?side1 ?side2 ?side3 ?side4 ?side5 ?side6 ?side7 ?side8 ?side9 ?side10 ?side11 ?side12 A21.out).mono ?_); (case side1 => refine (Kd.wN (e := 3) (base := w.heap.size) (ok := fun k_ => ((some k_ ≠ (.slice Ao33 t520.length co33 : Value).ownBlock ∧ some k_ ≠ (.slice Ao37 t529.length co37 : Value).ownBlock) ∧ some k_ ≠ (.slice Ao41 t532.length co41 : Value).ownBlock)) (n := t517.length) (c := co30) ?_).2.2; exact (by (with_reducible repeat (first | apply Kd.zK | apply Kd.zJ | apply Kd.zT)); exact (Kd.vP (Kd.qR (p := ⟨jT, 2, none⟩) (Kd.qR (p := ⟨jT, 1, none⟩) (Kd.qR (p := ⟨jT, 0, none⟩) (Kd.qE zEY.out zGG.out (by decide)) (fun _ hk => hk.2) (.slice Ao37 t529.length co37)) (fun _ hk => hk.2) (.slice Ao41 t532.length co41)) (fun _ hk => hk.2) (.slice Ao42 t535.length co42)) (fun _ h_ => h_.1)))); (case side2 => exact (Kd.wN zEY.out).2.1); (case side3 => refine (Kd.wN (e := 3) (base := w.heap.size) (ok := fun k_ => ((some k_ ≠ (.slice Ao30 t517.length co30 : Value).ownBlock ∧ some k_ ≠ (.slice Ao37 t529.length co37 : Value).ownBlock) ∧ some k_ ≠ (.slice Ao41 t532.length co41 : Value).ownBlock)) (n := t520.length) (c := co33) ?_).2.2; exact (by (with_reducible repeat (first | apply Kd.zK | apply Kd.zJ | apply Kd.zT)); exact (Kd.vP (Kd.qR (p := ⟨jT, 2, none⟩) (Kd.qR (p := ⟨jT, 1, none⟩) (Kd.qR (p := ⟨jT, 0, none⟩) (Kd.qE zEX.out zGG.out (by decide)) (fun _ hk => hk.2) (.slice Ao37 t529.length co37)) (fun _ hk => hk.2) (.slice Ao41 t532.length co41)) (fun _ hk => hk.2) (.slice Ao42 t535.length co42)) (fun _ h_ => h_.1)))); (case side4 => exact (Kd.wN zEX.out).2.1); (case side5 => refine (Kd.uY (e := 22) (base := w.heap.size) (ok := fun k_ => ((((((some k_ ≠ (.slice Ao30 t517.length co30 : Value).ownBlock ∧ (some k_ ≠ (.slice Ao33 t520.length co33 : Value).ownBlock ∧ k_ ≠ zCE)) ∧ k_ ≠ uD) ∧ some k_ ≠ (.slice Ao37 t529.length co37 : Value).ownBlock) ∧ some k_ ≠ (.slice Ao41 t532.length co41 : Value).ownBlock) ∧ some k_ ≠ (.slice Ao42 t535.length co42 : Value).ownBlock) ∧ k_ ≠ jT)) (n := t523.length) (c := co34) ?_).2.2; exact (by (with_reducible repeat (first | apply Kd.vT | apply Kd.vS | apply Kd.qJ)); exact (Kd.yJ (Kd.zAN (p := ⟨jT, 2, none⟩) (Kd.zAN (p := ⟨jT, 1, none⟩) (Kd.zAN (p := ⟨jT, 0, none⟩) (Kd.yJ zGP.out (fun k_ hk => (⟨hk, hk.2⟩ : _ ∧ k_ ≠ jT))) (fun _ hk => hk.2) (.slice Ao37 t529.length co37)) (fun _ hk => hk.2) (.slice Ao41 t532.length co41)) (fun _ hk => hk.2) (.slice Ao42 t535.length co42)) (fun _ h_ => h_.1)))); (case side6 => exact (Kd.uY zGP.out).2.1); (case side7 => refine (Kd.wN (e := 3) (base := w.heap.size) (ok := fun k_ => ((some k_ ≠ (.slice Ao41 t532.length co41 : Value).ownBlock ∧ some k_ ≠ (.slice Ao30 t517.length co30 : Value).ownBlock) ∧ some k_ ≠ (.slice Ao33 t520.length co33 : Value).ownBlock)) (n := t529.length) (c := co37) ?_).2.2; exact (by (with_reducible repeat (first | apply Kd.zK | apply Kd.zJ | apply Kd.zT)); exact (Kd.vP (Kd.qR (p := ⟨jT, 2, none⟩) (Kd.qR (p := ⟨jT, 1, none⟩) (Kd.qR (p := ⟨jT, 0, none⟩) (Kd.qE zPV.out zGG.out (by decide)) (fun _ hk => hk.2) (.slice Ao37 t529.length co37)) (fun _ hk => hk.2) (.slice Ao41 t532.length co41)) (fun _ hk => hk.2) (.slice Ao42 t535.length co42)) (fun _ h_ => h_.1)))); (case side8 => exact (Kd.wN zPV.out).2.1); (case side9 => refine (Kd.wN (e := 3) (base := w.heap.size) (ok := fun k_ => ((some k_ ≠ (.slice Ao37 t529.length co37 : Value).ownBlock ∧ some k_ ≠ (.slice Ao30 t517.length co30 : Value).ownBlock) ∧ some k_ ≠ (.slice Ao33 t520.length co33 : Value).ownBlock)) (n := t532.length) (c := co41) ?_).2.2; exact (by (with_reducible repeat (first | apply Kd.zK | apply Kd.zJ | apply Kd.zT)); exact (Kd.vP (Kd.qR (p := ⟨jT, 2, none⟩) (Kd.qR (p := ⟨jT, 1, none⟩) (Kd.qR (p := ⟨jT, 0, none⟩) (Kd.qE zPU.out zGG.out (by decide)) (fun _ hk => hk.2) (.slice Ao37 t529.length co37)) (fun _ hk => hk.2) (.slice Ao41 t532.length co41)) (fun _ hk => hk.2) (.slice Ao42 t535.length co42)) (fun _ h_ => h_.1)))); (case side10 => exact (Kd.wN zPU.out).2.1); (case side11 => refine (Kd.uY (e := 22) (base := w.heap.size) (ok := fun k_ => ((some k_ ≠ (.slice Ao37 t529.length co37 : Value).ownBlock ∧ (some k_ ≠ (.slice Ao41 t532.length co41 : Value).ownBlock ∧ (some k_ ≠ (.slice Ao30 t517.length co30 : Value).ownBlock ∧ (some k_ ≠ (.slice Ao33 t520.length co33 : Value).ownBlock ∧ (some k_ ≠ (.slice Ao34 t523.length co34 : Value).ownBlock ∧ (k_ ≠ zCE ∧ k_ ≠ uD)))))) ∧ k_ ≠ jT)) (n := t535.length) (c := co42) ?_).2.2; exact (by (with_reducible repeat (first | apply Kd.vT | apply Kd.vS | apply Kd.qJ)); exact (Kd.yJ (Kd.zAN (p := ⟨jT, 2, none⟩) (Kd.zAN (p := ⟨jT, 1, none⟩) (Kd.zAN (p := ⟨jT, 0, none⟩) (Kd.yJ zPT.out (fun k_ hk => (⟨hk, hk.2⟩ : _ ∧ k_ ≠ jT))) (fun _ hk => hk.2) (.slice Ao37 t529.length co37)) (fun _ hk => hk.2) (.slice Ao41 t532.length co41)) (fun _ hk => hk.2) (.slice Ao42 t535.length co42)) (fun _ h_ => h_.1)))); (case side12 => exact (Kd.uY zPT.out).2.1); rintro e w44 ⟨rfl, hb⟩; have n0_ := zA.mk (Kd.wO (by (with_reducible repeat (first | apply Kd.zK | apply Kd.zJ | apply Kd.zT)); exact (Kd.vP (Kd.qR (p := ⟨jT, 2, none⟩) (Kd.qR (p := ⟨jT, 1, none⟩) (Kd.qR (p := ⟨jT, 0, none⟩) (Kd.qE zEY.out zGG.out (by decide)) (fun _ hk => hk.2) (.slice Ao37 t529.length co37)) (fun _ hk => hk.2) (.slice Ao41 t532.length co41)) (fun _ hk => hk.2) (.slice Ao42 t535.length co42)) (fun _ h_ => h_.1))) hb); have n1_ := zA.mk (Kd.wO (by (with_reducible repeat (first | apply Kd.zK | apply Kd.zJ | apply Kd.zT)); exact (Kd.vP (Kd.qR (p := ⟨jT, 2, none⟩) (Kd.qR (p := ⟨jT, 1, none⟩) (Kd.qR (p := ⟨jT, 0, none⟩) (Kd.qE zEX.out zGG.out (by decide)) (fun _ hk => hk.2) (.slice Ao37 t529.length co37)) (fun _ hk => hk.2) (.slice Ao41 t532.length co41)) (fun _ hk => hk.2) (.slice Ao42 t535.length co42)) (fun _ h_ => h_.1))) hb); have n2_ := zA.mk (Kd.jV (by (with_reducible repeat (first | apply Kd.vT | apply Kd.vS | apply Kd.qJ)); exact (Kd.yJ (Kd.zAN (p := ⟨jT, 2, none⟩) (Kd.zAN (p := ⟨jT, 1, none⟩) (Kd.zAN (p := ⟨jT, 0, none⟩) (Kd.yJ zGP.out (fun k_ hk => (⟨hk, hk.2⟩ : _ ∧ k_ ≠ jT))) (fun _ hk => hk.2) (.slice Ao37 t529.length co37)) (fun _ hk => hk.2) (.slice Ao41 t532.length co41)) (fun _ hk => hk.2) (.slice Ao42 t535.length co42)) (fun _ h_ => h_.1))) hb); have n3_ := zA.mk (Kd.wO (by (with_reducible repeat (first | apply Kd.zK | apply Kd.zJ | apply Kd.zT)); exact (Kd.vP (Kd.qR (p := ⟨jT, 2, none⟩) (Kd.qR (p := ⟨jT, 1, none⟩) (Kd.qR (p := ⟨jT, 0, none⟩) (Kd.qE zPV.out zGG.out (by decide)) (fun _ hk => hk.2) (.slice Ao37 t529.length co37)) (fun _ hk => hk.2) (.slice Ao41 t532.length co41)) (fun _ hk => hk.2) (.slice Ao42 t535.length co42)) (fun _ h_ => h_.1))) hb); have n4_ := zA.mk (Kd.wO (by (with_reducible repeat (first | apply Kd.zK | apply Kd.zJ | apply Kd.zT)); exact (Kd.vP (Kd.qR (p := ⟨jT, 2, none⟩) (Kd.qR (p := ⟨jT, 1, none⟩) (Kd.qR (p := ⟨jT, 0, none⟩) (Kd.qE zPU.out zGG.out (by decide)) (fun _ hk => hk.2) (.slice Ao37 t529.length co37)) (fun _ hk => hk.2) (.slice Ao41 t532.length co41)) (fun _ hk => hk.2) (.slice Ao42 t535.length co42)) (fun _ h_ => h_.1))) hb); have n5_ := zA.mk (Kd.jV (by (with_reducible repeat (first | apply Kd.vT | apply Kd.vS | apply Kd.qJ)); exact (Kd.yJ (Kd.zAN (p := ⟨jT, 2, none⟩) (Kd.zAN (p := ⟨jT, 1, none⟩) (Kd.zAN (p := ⟨jT, 0, none⟩) (Kd.yJ zPT.out (fun k_ hk => (⟨hk, hk.2⟩ : _ ∧ k_ ≠ jT))) (fun _ hk => hk.2) (.slice Ao37 t529.length co37)) (fun _ hk => hk.2) (.slice Ao41 t532.length co41)) (fun _ hk => hk.2) (.slice Ao42 t535.length co42)) (fun _ h_ => h_.1))) hb); have n6_ := zA.mk (zM (g := zCE) (o := .cells #[.slice A0_0 l0_0.length c0_0, .slice A0_1 l0_1.length c0_1, .slice A0_2 l0_2.length c0_2] 25 (0, 0)) (by (with_reducible repeat first | apply bN | apply bD | apply bA); refine yL ?_ zHZ.out _; (with_reducible repeat first | apply bN | apply bD | apply bA); refine yL ?_ zHZ.out _; (with_reducible repeat first | apply bN | apply bD | apply bA); refine yL ?_ zHZ.out _; (with_reducible repeat first | apply bN | apply bD | apply bA); exact yW.out) hb); have n7_ := zA.mk (zM (g := uD) (o := .cells #[.slice Ao30 t517.length co30, .slice Ao33 t520.length co33, .slice Ao34 t523.length co34] 25 (0, 0)) (by (with_reducible repeat first | apply bN | apply bD | apply bA); refine yL ?_ zHY.out _; (with_reducible repeat first | apply bN | apply bD | apply bA); refine yL ?_ zHY.out _; (with_reducible repeat first | apply bN | apply bD | apply bA); refine yL ?_ zHY.out _; (with_reducible repeat first | apply bN | apply bD | apply bA); exact zAY.out) hb); have n8_ := zA.mk (zM (g := jT) (o := .cells #[.slice Ao37 t529.length co37, .slice Ao41 t532.length co41, .slice Ao42 t535.length co42] 25 (0, 0)) (by (with_reducible repeat first | apply bN | apply bD | apply bA); refine vA (cs := #[.slice Ao37 t529.length co37, .slice Ao41 t532.length co41, .slice none 0 0]) ?_ 2 _ rfl; (with_reducible repeat first | apply bN | apply bD | apply bA); refine vA (cs := #[.slice Ao37 t529.length co37, .slice none 0 0, .slice none 0 0]) ?_ 1 _ rfl; (with_reducible repeat first | apply bN | apply bD | apply bA); refine vA (cs := #[.slice none 0 0, .slice none 0 0, .slice none 0 0]) ?_ 0 _ rfl; (with_reducible repeat first | apply bN | apply bD | apply bA); exact zGG.out) hb); have n9_ := zA.mk (zG (eG HB.out) hb); clear zEY; clear zEX; clear zGP; clear zPV; clear zPU; clear zPT; clear yW; clear zAY; clear zGG; clear HB; have zEY := n0_; have zEX := n1_; have zGP := n2_; have zPV := n3_; have zPU := n4_; have zPT := n5_; have yW := n6_; have zAY := n7_; have zGG := n8_; have HB := n9_; clear n0_ n1_ n2_ n3_ n4_ n5_ n6_ n7_ n8_ n9_; (try clear hb); (try clear hb2); (try clear hk); (try clear hi)))
         go_ret
         exact ⟨by first | rfl | (simp [zI, zH] <;> rfl) | (simp [*, zI, zH] <;> rfl), eG HB.out⟩
        · rw [if_neg c23] at H; have c23b0 : (t526 == t538) = false := beq_eq_false_iff_ne.mpr c23; have c23b1 : (t526 != t538) = true := bne_iff_ne.mpr c23; exact absurd H (by simp)
       ·
        replace c22 := Bool.eq_false_iff.mpr c22; subst c22; replace H : (none) = some r := by rw [if_neg (show ¬ (false = true) by decide)] at H; exact H
        exact absurd H (by simp)
      · rw [if_neg c20] at H; have c20b0 : (t514 == t516) = false := beq_eq_false_iff_ne.mpr c20; have c20b1 : (t514 != t516) = true := bne_iff_ne.mpr c20; exact absurd H (by simp)
     · rw [if_neg c19] at H; have c19b0 : (t513.toList == t515.toList) = false := beq_eq_false_iff_ne.mpr c19; have c19b1 : (t513.toList != t515.toList) = true := bne_iff_ne.mpr c19; exact absurd H (by simp)
 ·
  replace c4 := Bool.eq_false_iff.mpr c4; subst c4; replace H : (none) = some r := by rw [if_neg (show ¬ (false = true) by decide)] at H; exact H
  exact absurd H (by simp)
end Go.Proofs.YtmdfnambaedllaaDoor.Pr
namespace Go.Proofs.YtmdfnambaedllaaDoor.Opn
open Go Go.RowKit Go.Proofs.YtmdfnambaedllaaDoorW.PrintWords Go.Proofs.YtmdfnambaedllaaDoor.O Go.Proofs.YtmdfnambaedllaaDoor.Pr
theorem opens3 : zTI Tryd.prog 3 (Kd.int .i64) (fun x => (Lit.int .i64 x).wf = true) := zVN Tryd.underlying3 (by kernel_rfl)
theorem zRS : zTI Tryd.prog 22 (Kd.slice 3 (Kd.int .i64)) (fun x => (x.length ≤ maxLen ∧ ∀ x0_, x0_ ∈ x → (Lit.int .i64 x0_).wf = true)) := zKX (P := Tryd.prog) (t := 22) (e := 3) Tryd.underlying22 (by kernel_rfl) opens3
theorem opens23 : zTI Tryd.prog 23 (Kd.slice 22 (Kd.slice 3 (Kd.int .i64))) (fun x => (x.length ≤ maxLen ∧ ∀ x0_, x0_ ∈ x → (x0_.length ≤ maxLen ∧ ∀ x1_, x1_ ∈ x0_ → (Lit.int .i64 x1_).wf = true))) := zKX (P := Tryd.prog) (t := 23) (e := 22) Tryd.underlying23 (by kernel_rfl) zRS
def ok25 (x : S25) : Prop := (x.f0.length ≤ maxLen ∧ ∀ x0_, x0_ ∈ x.f0 → (Lit.int .i64 x0_).wf = true) ∧ (x.f1.length ≤ maxLen ∧ ∀ x0_, x0_ ∈ x.f1 → (Lit.int .i64 x0_).wf = true) ∧ (x.f2.length ≤ maxLen ∧ ∀ x0_, x0_ ∈ x.f2 → (x0_.length ≤ maxLen ∧ ∀ x1_, x1_ ∈ x0_ → (Lit.int .i64 x1_).wf = true))
theorem opens25 : zTI Tryd.prog 25 k25 ok25 :=
  ⟨by kernel_rfl, fun H enc w base sp held fuel cs x h => by
    obtain ⟨xs, n, _, _, hl, hx, hf⟩ := DataW.trod_struct Tryd.underlying25 h
    have hc_ : Tryd.prog.cellsOf 25 = 3 := by kernel_rfl
    rw [hc_] at hl
    obtain ⟨c0, c1, c2, rfl⟩ : ∃ c0 c1 c2, cs = [c0, c1, c2] := by
      clear h hf hx
      rcases cs with _ | ⟨c0, _ | ⟨c1, _ | ⟨c2, _ | ⟨_, _⟩⟩⟩⟩
      all_goals first | exact ⟨_, _, _, rfl⟩ | (simp at hl)
    obtain ⟨y0, hy0⟩ : ∃ y, xs[0]? = some y := ⟨xs[0]'(by rw [hx]; decide), List.getElem?_eq_getElem _⟩
    have e0 : DataW.trod enc Tryd.prog w base sp held n 22 ((List.drop 0 [c0, c1, c2]).take (Tryd.prog.cellsOf 22)) = xs[0]? := hf 0 _ rfl
    rw [hy0, show Tryd.prog.cellsOf 22 = 1 from by kernel_rfl] at e0
    obtain ⟨v0, K0, o0⟩ := zRS.2 H enc w base sp held n _ _ e0
    replace K0 : (Kd.slice 3 (Kd.int .i64)).K w v0 [c0] := K0
    obtain ⟨y1, hy1⟩ : ∃ y, xs[1]? = some y := ⟨xs[1]'(by rw [hx]; decide), List.getElem?_eq_getElem _⟩
    have e1 : DataW.trod enc Tryd.prog w base sp held n 22 ((List.drop 1 [c0, c1, c2]).take (Tryd.prog.cellsOf 22)) = xs[1]? := hf 1 _ rfl
    rw [hy1, show Tryd.prog.cellsOf 22 = 1 from by kernel_rfl] at e1
    obtain ⟨v1, K1, o1⟩ := zRS.2 H enc w base sp held n _ _ e1
    replace K1 : (Kd.slice 3 (Kd.int .i64)).K w v1 [c1] := K1
    obtain ⟨y2, hy2⟩ : ∃ y, xs[2]? = some y := ⟨xs[2]'(by rw [hx]; decide), List.getElem?_eq_getElem _⟩
    have e2 : DataW.trod enc Tryd.prog w base sp held n 23 ((List.drop 2 [c0, c1, c2]).take (Tryd.prog.cellsOf 23)) = xs[2]? := hf 2 _ rfl
    rw [hy2, show Tryd.prog.cellsOf 23 = 1 from by kernel_rfl] at e2
    obtain ⟨v2, K2, o2⟩ := opens23.2 H enc w base sp held n _ _ e2
    replace K2 : (Kd.slice 22 (Kd.slice 3 (Kd.int .i64))).K w v2 [c2] := K2
    obtain ⟨A0, q0, w0, m0, g0⟩ := K0
    obtain rfl : c0 = _ := List.singleton_inj.1 w0
    obtain ⟨A1, q1, w1, m1, g1⟩ := K1
    obtain rfl : c1 = _ := List.singleton_inj.1 w1
    obtain ⟨A2, q2, w2, m2, g2⟩ := K2
    obtain rfl : c2 = _ := List.singleton_inj.1 w2
    refine ⟨⟨v0, v1, v2⟩, ?_, o0, o1, o2⟩
    exact k25_mk w ⟨v0, v1, v2⟩ m0 g0 m1 g1 m2 g2⟩
end Go.Proofs.YtmdfnambaedllaaDoor.Opn
namespace Go.Proofs.YtmdfnambaedllaaDoor.Pure
open Go Go.RowKit Go.Proofs.YtmdfnambaedllaaDoor.Pr Go.Proofs.YtmdfnambaedllaaDoor.Opn
def zKC : Prop := ∀ (l0_0 : (List Int)) (l0_1 : (List Int)) (l0_2 : (List (List Int))) (a1 : ByteArray), (l0_0.length ≤ maxLen ∧ ∀ x0_, x0_ ∈ l0_0 → (Lit.int .i64 x0_).wf = true) → (l0_1.length ≤ maxLen ∧ ∀ x0_, x0_ ∈ l0_1 → (Lit.int .i64 x0_).wf = true) → (l0_2.length ≤ maxLen ∧ ∀ x0_, x0_ ∈ l0_2 → (x0_.length ≤ maxLen ∧ ∀ x1_, x1_ ∈ x0_ → (Lit.int .i64 x1_).wf = true)) → a1.size ≤ maxLen → ∃ k, wL.f k l0_0 l0_1 l0_2 a1 = some true
end Go.Proofs.YtmdfnambaedllaaDoor.Pure
namespace Go.Proofs.YtmdfnambaedllaaDoor.PL
open Go Go.RowKit Go.Proofs.YtmdfnambaedllaaDoorW.PrintWords Go.Proofs.YtmdfnambaedllaaDoorW.PrintLast Go.Proofs.YtmdfnambaedllaaDoorW.PrintMore
theorem evp {α : Type} {c : Prop} [Decidable c] {g h : Nat → Option α} {r : α} (hc : c) (k : Ev g r) : Ev (fun n => if c then g n else h n) r :=
  Ev.congr (fun n => if_pos hc) k
theorem evn {α : Type} {c : Prop} [Decidable c] {g h : Nat → Option α} {r : α} (hc : ¬ c) (k : Ev h r) : Ev (fun n => if c then g n else h n) r :=
  Ev.congr (fun n => if_neg hc) k
theorem evb {α β : Type} {g : Nat → Option α} {f : Nat → α → Option β} {a : α} {r : β} (h : Ev g a) (k : Ev (fun n => f n a) r) : Ev (fun n => (g n).bind (f n)) r := Ev.bind h k
theorem evr {α : Type} {a r : α} (h : a = r) : Ev (fun _ => some a) r := by subst h; exact Ev.now _
theorem evc {α : Type} {g : Nat → Option α} {r : α} {o : Option α} (hg : ∀ n, g n = o) (h : o = some r) : Ev g r := by
  subst h
  exact Ev.congr hg (Ev.now _)
/-- A loop that counts upwards to n. -/
theorem uA (a n : Int) (P : Int → Prop) (hend : P n) (hround : ∀ i, a ≤ i → i < n → P (i + 1) → P i) : ∀ i, a ≤ i → i ≤ n → P i := by
  intro i h0 h1
  obtain ⟨d, hd⟩ : ∃ d : Nat, n - i = d := ⟨(n - i).toNat, by omega⟩
  induction d generalizing i with
  | zero =>
    obtain rfl : i = n := by omega
    exact hend
  | succ d ih => exact hround i h0 (by omega) (ih (i + 1) (by omega) (by omega) (by omega))
theorem w64 {x : Int} (h0 : -9223372036854775808 ≤ x) (h1 : x ≤ 9223372036854775807) : wrap64 x = x := by
  unfold wrap64
  omega
theorem jI {i n : Int} (h0 : 0 ≤ i) (h : i < n) (hn : n ≤ 9223372036854775807) : wrap64 (i + 1) = i + 1 := w64 (by omega) (by omega)
theorem zGI {i n : Int} (h0 : 0 ≤ i) (h : i ≤ n) (hn : n ≤ 9223372036854775807) : wrap64 (i - 1) = i - 1 := w64 (by omega) (by omega)
theorem zCV {α : Type} {l : List α} (h : l.length ≤ maxLen) : (l.length : Int) ≤ 9223372036854775807 := by
  have : l.length ≤ 9223372036854775807 := by simpa [maxLen] using h
  omega
theorem rd_mem {l : List Int} {i : Int} (h0 : 0 ≤ i) (h : i < (l.length : Int)) : rd l i ∈ l := by
  unfold rd
  rw [List.getD_eq_getElem?_getD, List.getElem?_eq_getElem (by omega)]
  exact List.getElem_mem _
theorem zQH {l : List Int} {x : Int} (h : x ∈ l) : ∃ i : Int, 0 ≤ i ∧ i < (l.length : Int) ∧ rd l i = x := by
  obtain ⟨i, hi⟩ := List.mem_iff_getElem?.1 h
  have hl := (List.getElem?_eq_some_iff.1 hi).1
  refine ⟨(i : Int), by omega, by omega, ?_⟩
  unfold rd
  rw [List.getD_eq_getElem?_getD, Int.toNat_natCast, hi]
  rfl
/-- A test that comes to true where P holds, and else to false. -/
def EvB (g : Nat → Option Bool) (P : Prop) : Prop := (P → Ev g true) ∧ (¬ P → Ev g false)
theorem EvB.iff {g : Nat → Option Bool} {P Q : Prop} (h : EvB g P) (e : P ↔ Q) : EvB g Q := ⟨fun q => h.1 (e.2 q), fun q => h.2 (fun p => q (e.1 p))⟩
theorem EvB.map {g : Nat → Option Bool} {f : Nat → Bool → Option Bool} {P Q : Prop} (h : EvB g P) (ht : P → EvB (fun n => f n true) Q) (hf : ¬ P → EvB (fun n => f n false) Q) : EvB (fun n => (g n).bind (f n)) Q := by
  by_cases hp : P
  · exact ⟨fun q => Ev.bind (h.1 hp) ((ht hp).1 q), fun q => Ev.bind (h.1 hp) ((ht hp).2 q)⟩
  · exact ⟨fun q => Ev.bind (h.2 hp) ((hf hp).1 q), fun q => Ev.bind (h.2 hp) ((hf hp).2 q)⟩
theorem zSZ (a n : Int) (Q : Int → Prop) (L : Int → Nat → Option Bool) (hend : Ev (L n) true) (hno : ∀ i, a ≤ i → i < n → ¬ Q i → Ev (L i) false)
    (hyes : ∀ i, a ≤ i → i < n → Q i → ∀ b, Ev (L (i + 1)) b → Ev (L i) b) : ∀ i, a ≤ i → i ≤ n → EvB (L i) (∀ j, i ≤ j → j < n → Q j) := by
  refine uA a n _ ⟨fun _ => hend, fun h => absurd (fun j h1 h2 => absurd h2 (by omega)) h⟩ ?_
  intro i h0 h1 ih
  by_cases hq : Q i
  · refine ⟨fun h => hyes i h0 h1 hq _ (ih.1 fun j hj hn => h j (by omega) hn), fun h => hyes i h0 h1 hq _ (ih.2 fun h2 => h fun j hj hn => ?_)⟩
    by_cases e : j = i
    · subst e; exact hq
    · exact h2 j (by omega) hn
  · exact ⟨fun h => absurd (h i (by omega) h1) hq, fun _ => hno i h0 h1 hq⟩
theorem zKH (n : Int) (Q : Int → Prop) (L : Int → Nat → Option Int) (hend : Ev (L n) (-1)) (hyes : ∀ i, 0 ≤ i → i < n → Q i → Ev (L i) i)
    (hno : ∀ i, 0 ≤ i → i < n → ¬ Q i → ∀ r, Ev (L (i + 1)) r → Ev (L i) r) : ∀ i, 0 ≤ i → i ≤ n →
    ∃ r, Ev (L i) r ∧ ((0 ≤ r ∧ i ≤ r ∧ r < n ∧ Q r ∧ ∀ j, i ≤ j → j < r → ¬ Q j) ∨ (r = -1 ∧ ∀ j, i ≤ j → j < n → ¬ Q j)) := by
  refine uA 0 n _ ⟨-1, hend, .inr ⟨rfl, fun j h1 h2 => absurd h2 (by omega)⟩⟩ ?_
  intro i h0 h1 ih
  by_cases hq : Q i
  · exact ⟨i, hyes i h0 h1 hq, .inl ⟨h0, by omega, h1, hq, fun j h2 h3 => absurd h3 (by omega)⟩⟩
  · obtain ⟨r, hr, h⟩ := ih
    refine ⟨r, hno i h0 h1 hq _ hr, ?_⟩
    have ext : ∀ b, (∀ j, i + 1 ≤ j → j < b → ¬ Q j) → ∀ j, i ≤ j → j < b → ¬ Q j := fun b h2 j hj hb => by
      by_cases e : j = i
      · subst e; exact hq
      · exact h2 j (by omega) hb
    rcases h with ⟨a, b, c, d, e⟩ | ⟨a, b⟩
    · exact .inl ⟨a, by omega, c, d, ext r e⟩
    · exact .inr ⟨a, ext n b⟩
end Go.Proofs.YtmdfnambaedllaaDoor.PL
namespace Go.Proofs.YtmdfnambaedllaaDoor.PL
open Go Go.RowKit Go.Proofs.YtmdfnambaedllaaDoorW.PrintWords Go.Proofs.YtmdfnambaedllaaDoorW.PrintLast Go.Proofs.YtmdfnambaedllaaDoorW.PrintMore Go.Proofs.YtmdfnambaedllaaDoor.Pr Go.Proofs.YtmdfnambaedllaaDoor.TX Go.Proofs.YtmdfnambaedllaaDoor.X
def ba (l : List UInt8) : ByteArray := ⟨l.toArray⟩
theorem zPM (s : ByteArray) : ba s.data.toList = s := by obtain ⟨⟨l⟩⟩ := s; rfl
theorem zBZ (l : List UInt8) : (ba l).data.toList = l := rfl
theorem kZ (l : List UInt8) : (ba l).toList = l := by rw [Lib.toList_data]; rfl
theorem yC (l : List UInt8) : (ba l).size = l.length := rfl
theorem size_data (s : ByteArray) : s.data.toList.length = s.size := Array.length_toList
theorem zXZ (s : ByteArray) (a b : Nat) : s.extract a b = ba ((s.data.toList.take b).drop a) := by
  rw [← zPM (s.extract a b), Lib.extract_data, List.drop_take]
theorem zDP (a b : List UInt8) : ba a ++ ba b = ba (a ++ b) := by
  rw [← zPM (ba a ++ ba b)]
  congr 1
theorem byte_at (s : ByteArray) {i : Int} (h0 : 0 ≤ i) (h1 : i < (s.size : Int)) : ∃ b : UInt8, s.data.toList.drop i.toNat = b :: s.data.toList.drop (i + 1).toNat ∧
    s.data.toList.take (i + 1).toNat = s.data.toList.take i.toNat ++ [b] ∧ bt s i = (b.toNat : Int) := by
  have hl : i.toNat < s.data.toList.length := by rw [size_data]; omega
  refine ⟨s.data.toList[i.toNat], ?_, ?_, ?_⟩
  · rw [show (i + 1).toNat = i.toNat + 1 from by omega, ← List.drop_eq_getElem_cons hl]
  · rw [show (i + 1).toNat = i.toNat + 1 from by omega, List.take_add_one, List.getElem?_eq_getElem hl]; rfl
  · rw [← zHU s i (by omega)]
    obtain ⟨⟨l⟩⟩ := s
    rfl
theorem take_end (s : ByteArray) : s.data.toList.take ((s.size : Int)).toNat = s.data.toList := by
  rw [show ((s.size : Int)).toNat = s.size from by omega, ← size_data, List.take_length]
theorem zPI (s : ByteArray) : s.data.toList.drop ((s.size : Int)).toNat = [] := by
  rw [show ((s.size : Int)).toNat = s.size from by omega, ← size_data, List.drop_length]
def wrd (c : UInt8) : List UInt8 → List UInt8 → List (List UInt8)
  | p, [] => [p]
  | p, b :: r => if b = c then p :: wrd c [] r else wrd c (p ++ [b]) r
theorem zTM (c b : UInt8) (p r : List UInt8) : wrd c p (b :: r) = if b = c then p :: wrd c [] r else wrd c (p ++ [b]) r := rfl
theorem zVB (c : UInt8) : ∀ s p : List UInt8, wrd c p s = match parts c s with
    | [] => [p]
    | q :: t => (p ++ q) :: t
  | [], p => by simp [wrd, parts]
  | b :: r, p => by
    rw [zTM, zEC]
    by_cases h : b = c
    · rw [if_pos h, if_pos h, zVB c r []]
      cases hp : parts c r with
      | nil => exact absurd hp (zGK c r)
      | cons q t => simp
    · rw [if_neg h, if_neg h, zVB c r (p ++ [b])]
      cases hp : parts c r with
      | nil => exact absurd hp (zGK c r)
      | cons q t => simp
theorem zVA (c : UInt8) (s : List UInt8) : wrd c [] s = parts c s := by
  rw [zVB]
  cases hp : parts c s with
  | nil => exact absurd hp (zGK c s)
  | cons q t => simp
theorem toNat_eq (b : UInt8) (n : Nat) (hn : n < 256) : ((b.toNat : Int) = (n : Int)) ↔ b = UInt8.ofNat n := by
  constructor
  · intro h
    refine UInt8.toNat_inj.1 ?_
    rw [UInt8.toNat_ofNat']; omega
  · rintro rfl
    rw [UInt8.toNat_ofNat']; omega
theorem words_ev (s : ByteArray) (hs : (s.size : Int) ≤ 4611686018427) : Ev (fun k => vX.f k s) ((parts 32 s.data.toList).map ba) := by
  have key : ∀ i, 0 ≤ i → i ≤ (s.size : Int) → ∀ (out : List ByteArray) (fr : Int), 0 ≤ fr → fr ≤ i → (out.length : Int) ≤ i →
      Ev (fun k => vX.l0 k s out fr i) (out ++ (wrd 32 ((s.data.toList.take i.toNat).drop fr.toNat) (s.data.toList.drop i.toNat)).map ba) := by
    refine uA 0 (s.size : Int) _ ?_ ?_
    · intro out fr h0 h1 h2
      rw [zPI]
      refine Ev.step (fun k => vX.l0.eq_2 ..) (evp (by omega) (evp rfl (evp h0 (evp h1 (evp (by omega) (Ev.step (fun k => vX.l0.eq_2 ..) (evn ?_ (evr ?_))))))))
      · rw [w64 (by omega) (by omega)]; omega
      · rw [zXZ]; rfl
    · intro i h0 h1 ih out fr g0 g1 g2
      obtain ⟨b, e1, e2, e3⟩ := byte_at s h0 h1
      have hw : wrap64 (i + 1) = i + 1 := w64 (by omega) (by omega)
      have hlen : fr.toNat ≤ (s.data.toList.take i.toNat).length := by rw [List.length_take, size_data]; omega
      refine Ev.step (fun k => vX.l0.eq_2 ..) (evp (by omega) (evn (by omega) (evp h0 (evp h1 ?_))))
      rw [e1, zTM, hw, e3]
      by_cases c : b = 32
      · have q := ih (out ++ [s.extract fr.toNat i.toNat]) (i + 1) (by omega) (by omega) (by rw [List.length_append]; simp; omega)
        have z : (s.data.toList.take (i + 1).toNat).drop (i + 1).toNat = [] := List.drop_eq_nil_of_le (by rw [List.length_take]; omega)
        rw [z, List.append_assoc] at q
        rw [if_pos c]
        refine evp ((toNat_eq b 32 (by decide)).2 c) (evp g0 (evp g1 (evp (by omega) ?_)))
        rw [zXZ] at q ⊢
        exact q
      · have q := ih out fr g0 (by omega) (by omega)
        rw [e2, List.drop_append_of_le_length hlen] at q
        rw [if_neg c]
        exact evn (fun h => c ((toNat_eq b 32 (by decide)).1 h)) q
  have := key 0 (by omega) (by omega) [] 0 (by omega) (by omega) (by simp)
  rw [show (0 : Int).toNat = 0 from rfl, List.take_zero, List.drop_zero, List.drop_zero, zVA, List.nil_append] at this
  exact this
theorem zTO (s : ByteArray) (hs : s.size < 4294967281) : strings_Split.f s ⟨#[32]⟩ = some ((parts 32 s.data.toList).map ba) := by
  unfold strings_Split.f
  rw [if_pos ⟨hs, rfl⟩]
  refine congrArg some ?_
  have e := Lib.splitB_data ⟨#[32]⟩ 0 (Lib.countB s ⟨#[32]⟩) s
  have e2 : Lib.splitK [32] 0 (Lib.countB s ⟨#[32]⟩) s.data.toList = parts 32 s.data.toList := split_eq 32 s.data.toList
  have e3 : (Lib.splitB ⟨#[32]⟩ 0 (Lib.countB s ⟨#[32]⟩) s).map (·.data.toList) = parts 32 s.data.toList := e.trans e2
  rw [← e3, List.map_map]
  refine (List.map_congr_left (fun x _ => zPM x) |>.trans (List.map_id _)).symm
def lin : List UInt8 → List UInt8 → List (List UInt8) × Bool
  | p, [] => if p = [] then ([], true) else ([p], false)
  | p, b :: r => if b = 10 then (p :: (lin [] r).1, (lin [] r).2) else lin (p ++ [b]) r
theorem zNW (p : List UInt8) (b : UInt8) (r : List UInt8) : lin p (b :: r) = if b = 10 then (p :: (lin [] r).1, (lin [] r).2) else lin (p ++ [b]) r := rfl
theorem zRW : ∀ (s p : List UInt8), lin p s = if (cut1 10 s).2.2 = true then ((p ++ (cut1 10 s).1) :: (lin [] (cut1 10 s).2.1).1, (lin [] (cut1 10 s).2.1).2) else if p ++ s = [] then ([], true) else ([p ++ s], false)
  | [], p => by simp [lin, cut1]
  | b :: r, p => by
    rw [zNW, zEJ]
    by_cases h : b = 10
    · rw [if_pos h, if_pos h]; simp
    · rw [if_neg h, if_neg h, zRW r (p ++ [b])]
      simp
theorem lines_ev (s : ByteArray) (hs : (s.size : Int) ≤ 4611686018427) : Ev (fun k => vR.f k s) ((lin [] s.data.toList).1.map ba, (lin [] s.data.toList).2) := by
  have key : ∀ i, 0 ≤ i → i ≤ (s.size : Int) → ∀ (out : List ByteArray) (fr : Int), 0 ≤ fr → fr ≤ i → (out.length : Int) ≤ i →
      Ev (fun k => vR.l0 k s out fr i) (out ++ (lin ((s.data.toList.take i.toNat).drop fr.toNat) (s.data.toList.drop i.toNat)).1.map ba, (lin ((s.data.toList.take i.toNat).drop fr.toNat) (s.data.toList.drop i.toNat)).2) := by
    refine uA 0 (s.size : Int) _ ?_ ?_
    · intro out fr h0 h1 h2
      rw [zPI, take_end]
      refine Ev.step (fun k => vR.l0.eq_2 ..) (evn (by omega) ?_)
      unfold lin
      by_cases c : fr < (s.size : Int)
      · have hne : ¬ s.data.toList.drop fr.toNat = [] := fun e => by
          have := congrArg List.length e
          rw [List.length_drop, size_data] at this
          simp at this; omega
        rw [if_neg hne]
        refine evp c (evp h0 (evp h1 (evp (by omega) (evr ?_))))
        have ex : s.extract fr.toNat s.size = ba (s.data.toList.drop fr.toNat) := by
          rw [zXZ, ← size_data, List.take_length]
        rw [ex]
        rfl
      · have he : s.data.toList.drop fr.toNat = [] := List.drop_eq_nil_of_le (by rw [size_data]; omega)
        rw [if_pos he]
        exact evn c (evr (by simp))
    · intro i h0 h1 ih out fr g0 g1 g2
      obtain ⟨b, e1, e2, e3⟩ := byte_at s h0 h1
      have hw : wrap64 (i + 1) = i + 1 := w64 (by omega) (by omega)
      have hlen : fr.toNat ≤ (s.data.toList.take i.toNat).length := by rw [List.length_take, size_data]; omega
      refine Ev.step (fun k => vR.l0.eq_2 ..) (evp h1 (evp h0 ?_))
      rw [e1, zNW, hw, e3]
      by_cases c : b = 10
      · have q := ih (out ++ [s.extract fr.toNat i.toNat]) (i + 1) (by omega) (by omega) (by rw [List.length_append]; simp; omega)
        have z : (s.data.toList.take (i + 1).toNat).drop (i + 1).toNat = [] := List.drop_eq_nil_of_le (by rw [List.length_take]; omega)
        rw [z, List.append_assoc] at q
        rw [if_pos c]
        refine evp ((toNat_eq b 10 (by decide)).2 c) (evp g0 (evp g1 (evp (by omega) (evp (by omega) ?_))))
        rw [zXZ] at q ⊢
        exact q
      · have q := ih out fr g0 (by omega) (by omega)
        rw [e2, List.drop_append_of_le_length hlen] at q
        rw [if_neg c]
        exact evn (fun h => c ((toNat_eq b 10 (by decide)).1 h)) q
  have := key 0 (by omega) (by omega) [] 0 (by omega) (by omega) (by simp)
  rw [show (0 : Int).toNat = 0 from rfl, List.take_zero, List.drop_zero, List.drop_zero, List.nil_append] at this
  exact this
theorem cut_ev (s : ByteArray) (hs : s.size < 4294967281) : strings_Cut.f s ⟨#[10]⟩ = some (ba (cut1 10 s.data.toList).1, ba (cut1 10 s.data.toList).2.1, (cut1 10 s.data.toList).2.2) := by
  unfold strings_Cut.f
  rw [if_pos hs]
  have e : Lib.cut s.data.toList (⟨#[10]⟩ : ByteArray).data.toList = cut1 10 s.data.toList := zXO 10 s.data.toList
  rw [e]
  rfl
theorem zRT (s : ByteArray) (hs : (s.size : Int) ≤ 18) : ∀ i, 0 ≤ i → i ≤ (s.size : Int) → ∀ n : Nat, n + 1 ≤ 10 ^ i.toNat →
    Ev (fun k => wF.l0 k s (n : Int) i) (if (s.data.toList.drop i.toNat).all zHP = true then (((uR n (s.data.toList.drop i.toNat) : Nat) : Int), true) else (0, false)) := by
  refine uA 0 (s.size : Int) _ ?_ ?_
  · intro n hn
    rw [zPI]
    exact Ev.step (fun k => wF.l0.eq_2 ..) (evn (by omega) (evr (by rw [if_pos (show ([] : List UInt8).all zHP = true from rfl)]; rfl)))
  · intro i h0 h1 ih n hn
    obtain ⟨b, e1, _, e3⟩ := byte_at s h0 h1
    have hw : wrap64 (i + 1) = i + 1 := w64 (by omega) (by omega)
    refine Ev.step (fun k => wF.l0.eq_2 ..) (evp h1 (evp h0 ?_))
    rw [e3, e1, hw]
    have hp : 10 ^ i.toNat ≤ 10 ^ 17 := Nat.pow_le_pow_right (by decide) (by omega)
    by_cases c1 : (b.toNat : Int) < 48
    · have hd : ¬ zHP b = true := fun h => by have := (kX b).1 h; omega
      rw [if_neg (by simp [hd])]
      exact evp c1 (Ev.now _)
    · by_cases c2 : (b.toNat : Int) > 57
      · have hd : ¬ zHP b = true := fun h => by have := (kX b).1 h; omega
        rw [if_neg (by simp [hd])]
        exact evn c1 (evp c2 (Ev.now _))
      · have hd : zHP b = true := (kX b).2 (by omega)
        have e : wrap64 ((wrap64 (10 * (n : Int))) + (((b.toNat : Int) - 48) % 256)) = ((10 * n + (b.toNat - 48) : Nat) : Int) := by
          rw [w64 (x := 10 * (n : Int)) (by omega) (by omega), w64 (by omega) (by omega)]; omega
        rw [e]
        have q := ih (10 * n + (b.toNat - 48)) (by
          rw [show (i + 1).toNat = i.toNat + 1 from by omega, Nat.pow_succ]; omega)
        have ea : ((b :: s.data.toList.drop (i + 1).toNat).all zHP = true) = ((s.data.toList.drop (i + 1).toNat).all zHP = true) := by
          rw [List.all_cons, hd, Bool.true_and]
        simp only [ea]
        exact evn c1 (evn c2 q)
def numR (most : Nat) (l : List UInt8) : Int × Bool := match numP most l with
  | some v => ((v : Int), true)
  | none => (0, false)
theorem zKY (s : ByteArray) (most : Nat) (hm : most ≤ 18) : Ev (fun k => wF.f k s (most : Int)) (numR most s.data.toList) := by
  have hsz := size_data s
  have bad : ¬ (Canon s.data.toList ∧ s.data.toList.length ≤ most) → numR most s.data.toList = (0, false) := fun h => by
    unfold numR numP; rw [if_neg h]
  by_cases c1 : (s.size : Int) < 1
  · rw [bad (fun h => by have := h.1.1; omega)]
    exact evp c1 (Ev.step (fun k => wF.j0.eq_2 ..) (evp rfl (Ev.now _)))
  by_cases c2 : (s.size : Int) > (most : Int)
  · rw [bad (fun h => by have := h.2; omega)]
    exact evn c1 (evp c2 (Ev.step (fun k => wF.j0.eq_2 ..) (evp rfl (Ev.now _))))
  have go : ¬ (1 < s.data.toList.length ∧ s.data.toList.head? = some 48) → Ev (fun k => wF.j0 k s false) (numR most s.data.toList) := by
    intro hh
    have q := zRT s (by omega) 0 (by omega) (by omega) 0 (by decide)
    rw [show (0 : Int).toNat = 0 from rfl, List.drop_zero] at q
    refine Ev.step (fun k => wF.j0.eq_2 ..) (evn (by simp) ?_)
    by_cases hd : s.data.toList.all zHP = true
    · have hc : Canon s.data.toList ∧ s.data.toList.length ≤ most := ⟨⟨by omega, hh, hd⟩, by omega⟩
      rw [if_pos hd] at q
      have e : numR most s.data.toList = (((uR 0 s.data.toList : Nat) : Int), true) := by unfold numR numP; rw [if_pos hc]
      rw [e]
      exact q
    · rw [if_neg hd] at q
      rw [bad (fun h => hd h.1.2.2)]
      exact q
  by_cases c3 : (s.size : Int) > 1
  · obtain ⟨b, e1, _, e3⟩ := byte_at s (i := 0) (by omega) (by omega)
    rw [show (0 : Int).toNat = 0 from rfl, List.drop_zero] at e1
    refine evn c1 (evn c2 (evp c3 (evp (by omega) ?_)))
    rw [e3]
    by_cases c4 : b = 48
    · have e4 : ((b.toNat : Int) == 48) = true := by rw [beq_iff_eq]; exact (toNat_eq b 48 (by decide)).2 c4
      rw [e4, bad (fun h => h.1.2.1 ⟨by omega, by rw [e1]; simp [c4]⟩)]
      exact Ev.step (fun k => wF.j0.eq_2 ..) (evp rfl (Ev.now _))
    · have e4 : ((b.toNat : Int) == 48) = false := by rw [beq_eq_false_iff_ne]; exact fun h => c4 ((toNat_eq b 48 (by decide)).1 h)
      rw [e4]
      exact go (fun h => c4 (by have := h.2; rw [e1] at this; simpa using this))
  · exact evn c1 (evn c2 (evn c3 (go (fun h => by omega))))
theorem zXN : ∀ d : Fin 10, (⟨#[48, 49, 50, 51, 52, 53, 54, 55, 56, 57]⟩ : ByteArray).extract d.val (d.val + 1) = ba [UInt8.ofNat (48 + d.val)] := by decide
theorem zJL {d : Int} (h0 : 0 ≤ d) (h1 : d < 10) : (⟨#[48, 49, 50, 51, 52, 53, 54, 55, 56, 57]⟩ : ByteArray).extract d.toNat (wrap64 (d + 1)).toNat = ba [UInt8.ofNat (48 + d.toNat)] := by
  rw [w64 (by omega) (by omega), show (d + 1).toNat = d.toNat + 1 from by omega]
  exact zXN ⟨d.toNat, by omega⟩
theorem zUN : ∀ (m : Nat) (n : Int), 0 ≤ n → n ≤ 9223372036854775807 → n.toNat ≤ m → Ev (fun k => wW.f k n) (ba (Lib.itoa n)) := by
  have it : ∀ n : Int, 0 ≤ n → Lib.itoa n = Lib.decDigits n.toNat := fun n h => by unfold Lib.itoa; rw [if_neg (by omega)]
  intro m
  induction m with
  | zero =>
    intro n h0 h1 hm
    obtain rfl : n = 0 := by omega
    refine Ev.step (fun k => wW.f.eq_2 ..) (evp (by omega) (evp (by omega) (evp (by rw [w64 (by omega) (by omega)]; omega) (evp (by rw [w64 (by omega) (by omega)]; omega) (evr ?_)))))
    rw [zJL (d := 0) (by omega) (by omega), it 0 (by omega), uV (by decide)]
  | succ m ih =>
    intro n h0 h1 hm
    by_cases c : n < 10
    · refine Ev.step (fun k => wW.f.eq_2 ..) (evp c (evp h0 (evp (by rw [w64 (by omega) (by omega)]; omega) (evp (by rw [w64 (by omega) (by omega)]; omega) (evr ?_)))))
      rw [zJL h0 c, it n h0, uV (by omega)]
    · have e1 : Int.tdiv n 10 = n / 10 := Int.tdiv_eq_ediv_of_nonneg h0
      have e2 : Int.tmod n 10 = n % 10 := Int.tmod_eq_emod_of_nonneg h0
      have q := ih (n / 10) (by omega) (by omega) (by omega)
      have g0 : 0 ≤ n % 10 := by omega
      have g1 : n % 10 < 10 := by omega
      refine Ev.step (fun k => wW.f.eq_2 ..) (evn c ?_)
      rw [e1, e2, w64 (x := n / 10) (by omega) (by omega)]
      refine evb q (evp g0 (evp (by rw [w64 (by omega) (by omega)]; omega) (evp (by rw [w64 (by omega) (by omega)]; omega) ?_)))
      rw [zJL g0 g1, zDP]
      have hl : (Lib.itoa (n / 10)).length ≤ 19 := by
        rw [it _ (by omega)]
        exact zAZ (by omega) (by decide)
      refine evp (by rw [yC, yC]; simp; omega) (evr ?_)
      rw [it _ (by omega), it n h0, zCQ (u := n.toNat) (by omega)]
      rw [show (n / 10).toNat = n.toNat / 10 from by omega, show (n % 10).toNat = n.toNat % 10 from by omega]
theorem atoi_cases (s : ByteArray) (hs : s.size ≤ 281474976710656) : ∃ n e, strconv_Atoi.f s = some (n, e) ∧ (e = none ↔ Lib.atoiAll s.data.toList = .ok n) ∧ (-9223372036854775808 ≤ n ∧ n ≤ 9223372036854775807) := by
  unfold strconv_Atoi.f
  rw [if_pos hs]
  cases ha : Lib.atoiAll s.data.toList with
  | ok v =>
    refine ⟨v, none, rfl, by simp, ?_⟩
    unfold Lib.atoiAll at ha
    cases hl : s.data.toList with
    | nil => rw [hl] at ha; cases ha
    | cons c r =>
      rw [hl] at ha
      simp only [] at ha
      cases hm : Lib.parseMag (if c.toNat = 43 ∨ c.toNat = 45 then r else c :: r) with
      | range => rw [hm] at ha; cases ha
      | ok u =>
        rw [hm] at ha
        simp only [] at ha
        by_cases c1 : ¬ c.toNat = 45 ∧ 9223372036854775808 ≤ u
        · rw [if_pos c1] at ha; cases ha
        · rw [if_neg c1] at ha
          by_cases c2 : c.toNat = 45 ∧ 9223372036854775808 < u
          · rw [if_pos c2] at ha; cases ha
          · rw [if_neg c2] at ha
            injection ha with ha
            by_cases c3 : c.toNat = 45
            · rw [if_pos c3] at ha; omega
            · rw [if_neg c3] at ha; omega
      | _ => rw [hm] at ha; cases ha
  | range =>
    refine ⟨_, some 0, rfl, by simp, ?_⟩
    unfold Lib.atoiSat
    split <;> omega
  | _ => exact ⟨0, some 0, rfl, by simp, by omega⟩
theorem zVV {n : Int} (h0 : -9223372036854775808 ≤ n) (h1 : n ≤ 9223372036854775807) : strconv_Itoa.f n = some (ba (Lib.itoa n)) := by
  unfold strconv_Itoa.f
  rw [if_pos h0, if_pos h1]
  rfl
end Go.Proofs.YtmdfnambaedllaaDoor.PL
namespace Go.Proofs.YtmdfnambaedllaaDoor.PL
open Go Go.RowKit Go.Proofs.YtmdfnambaedllaaDoorW.PrintWords Go.Proofs.YtmdfnambaedllaaDoorW.PrintLast Go.Proofs.YtmdfnambaedllaaDoorW.PrintMore Go.Proofs.YtmdfnambaedllaaDoor.Pr Go.Proofs.YtmdfnambaedllaaDoor.TX Go.Proofs.YtmdfnambaedllaaDoor.X
theorem zVK (s : List UInt8) : (parts 32 s).length ≤ s.length + 1 := by
  induction s with
  | nil => simp [parts]
  | cons b r ih =>
    rw [zEC]
    by_cases c : b = 32
    · rw [if_pos c]; simp; omega
    · rw [if_neg c]
      cases hpr : parts 32 r with
      | nil => exact absurd hpr (zGK 32 r)
      | cons u v => rw [hpr] at ih; simp at ih ⊢; omega
theorem zRV : ∀ (t p : List UInt8), (lin p t).1.length ≤ t.length + 1
  | [], p => by unfold lin; split <;> simp
  | b :: r, p => by
    rw [zNW]
    by_cases c : b = 10
    · rw [if_pos c]; have := zRV r []; simp; omega
    · rw [if_neg c]; have := zRV r (p ++ [b]); simp; omega
theorem zNV {s : List UInt8} {e : Bool} (h : lin [] s = ([], e)) : s = [] ∧ e = true := by
  rw [zRW] at h
  by_cases c : (cut1 10 s).2.2 = true
  · rw [if_pos c] at h; simp at h
  · rw [if_neg c] at h
    by_cases c2 : ([] : List UInt8) ++ s = []
    · rw [if_pos c2] at h
      exact ⟨by simpa using c2, (congrArg Prod.snd h).symm⟩
    · rw [if_neg c2] at h; simp at h
theorem zTT {s l : List UInt8} {r : List (List UInt8)} {e : Bool} (h : lin [] s = (l :: r, e)) :
    (cut1 10 s).1 = l ∧ (((cut1 10 s).2.2 = true ∧ lin [] (cut1 10 s).2.1 = (r, e)) ∨ ((cut1 10 s).2.2 = false ∧ (cut1 10 s).2.1 = [] ∧ r = [] ∧ e = false)) ∧ s ≠ [] ∧ l.length ≤ s.length := by
  have hne : s ≠ [] := fun e2 => by rw [e2] at h; simp [lin] at h
  rw [zRW] at h
  by_cases c : (cut1 10 s).2.2 = true
  · rw [if_pos c] at h
    simp only [List.nil_append, Prod.mk.injEq, List.cons.injEq] at h
    refine ⟨h.1.1, .inl ⟨c, Prod.ext h.1.2 h.2⟩, hne, ?_⟩
    have := congrArg List.length (zPJ 10 s c)
    rw [List.length_append, h.1.1] at this
    omega
  · rw [if_neg c, if_neg (by simpa using hne)] at h
    simp only [List.nil_append, Prod.mk.injEq, List.cons.injEq] at h
    have := zTC 10 s (Bool.eq_false_iff.2 c)
    exact ⟨by rw [this.1]; exact h.1.1, .inr ⟨Bool.eq_false_iff.2 c, this.2, h.1.2.symm, h.2.symm⟩, hne, by rw [h.1.1]; exact Nat.le_refl _⟩
section
variable {α : Type}
/-- Line by line: the first line that has no such thing, or no line feed, stops it. -/
def run (zDH : List UInt8 → Option α) (e : Bool) : List (List UInt8) → List α → List α × Option Nat
  | [], out => (out, none)
  | l :: r, out => match zDH l with
    | none => ([], some out.length)
    | some x => if r = [] ∧ e = false then ([], some out.length) else run zDH e r (out ++ [x])
theorem run_cons (zDH : List UInt8 → Option α) (e : Bool) (l : List UInt8) (r : List (List UInt8)) (out : List α) : run zDH e (l :: r) out = match zDH l with
    | none => ([], some out.length)
    | some x => if r = [] ∧ e = false then ([], some out.length) else run zDH e r (out ++ [x]) := rfl
def zJU (zKB : α → List UInt8) : List α → List UInt8
  | [] => []
  | x :: r => zKB x ++ 10 :: zJU zKB r
end
theorem zKG {n : Int} (h0 : 0 ≤ n) : Lib.itoa n = Lib.decDigits n.toNat := by unfold Lib.itoa; rw [if_neg (by omega)]
theorem zSA {n : Int} {m : Nat} (h0 : 0 ≤ n) (h1 : n < 10 ^ m) (hm : 1 ≤ m) : (Lib.itoa n).length ≤ m := by
  rw [zKG h0]
  refine zAZ ?_ hm
  have : ((n.toNat : Nat) : Int) < ((10 ^ m : Nat) : Int) := by rw [Int.natCast_pow]; show ((n.toNat : Nat) : Int) < 10 ^ m; omega
  exact Int.ofNat_lt.1 this
theorem zVU {n : Int} {m : Nat} (h0 : 0 ≤ n) (h1 : n < 10 ^ m) (hm : 1 ≤ m) : numP m (Lib.itoa n) = some n.toNat := by
  have := zSA h0 h1 hm
  rw [zKG h0] at this ⊢
  exact zKZ this
theorem zVQ {m v : Nat} {s : List UInt8} (h : numP m s = some v) : Lib.itoa (v : Int) = s := by
  rw [zKG (by omega), Int.toNat_natCast]; exact (zFG h).1
theorem dec_ev {n : Int} (h0 : 0 ≤ n) (h1 : n ≤ 9223372036854775807) : Ev (fun k => wW.f k n) (ba (Lib.itoa n)) := zUN n.toNat n h0 h1 (by omega)
end Go.Proofs.YtmdfnambaedllaaDoor.PL
namespace Go.Proofs.YtmdfnambaedllaaDoor.PL
open Go Go.RowKit Go.Proofs.YtmdfnambaedllaaDoorW.PrintWords Go.Proofs.YtmdfnambaedllaaDoorW.PrintLast Go.Proofs.YtmdfnambaedllaaDoorW.PrintMore Go.Proofs.YtmdfnambaedllaaDoor.Pr Go.Proofs.YtmdfnambaedllaaDoor.TX Go.Proofs.YtmdfnambaedllaaDoor.X
def natP (b : List UInt8) : Option Int := match numP 5 b with
  | none => none
  | some v => some (v : Int)
/-- A number that may have a minus sign. -/
def zDI (b : List UInt8) : Option Int := if b.head? = some 45 then (match numP 5 (b.drop 1) with
  | none => none
  | some v => if v = 0 then none else some (-(v : Int))) else natP b
def uS : List (List UInt8) → Option (List Int)
  | [] => some []
  | b :: r => match natP b with
    | none => none
    | some v => match uS r with
      | none => none
      | some l => some (v :: l)
theorem zFH {b : List UInt8} {x : Int} (h : natP b = some x) : 0 ≤ x ∧ x ≤ 99999 ∧ Lib.itoa x = b ∧ Canon b ∧ b.length ≤ 5 ∧ x = ((uR 0 b : Nat) : Int) := by
  unfold natP at h
  cases hn : numP 5 b with
  | none => rw [hn] at h; cases h
  | some v =>
    rw [hn] at h
    obtain rfl := Option.some.inj h
    have h1 := zRU hn
    obtain ⟨h2, h3, h4⟩ := zFG hn
    refine ⟨by omega, by omega, zVQ hn, h3, h4, ?_⟩
    unfold numP at hn
    rw [if_pos ⟨h3, h4⟩] at hn
    rw [Option.some.inj hn]
theorem zVS {x : Int} (h0 : 0 ≤ x) (h1 : x ≤ 99999) : natP (Lib.itoa x) = some x := by
  unfold natP
  rw [zVU (m := 5) h0 (by omega) (by omega)]
  show some ((x.toNat : Nat) : Int) = some x
  rw [Int.toNat_of_nonneg h0]
theorem zJM {b : List UInt8} (h : Canon b) : b.head? ≠ some 45 := by
  intro e
  cases b with
  | nil => cases e
  | cons c r =>
    have h3 := h.2.2
    simp only [List.all_cons, Bool.and_eq_true] at h3
    have hc := (kX c).1 h3.1
    simp only [List.head?_cons, Option.some.injEq] at e
    rw [e] at hc
    exact absurd hc.1 (by decide)
theorem zKF {x : Int} (h : x < 0) : Lib.itoa x = 45 :: Lib.decDigits x.natAbs := by unfold Lib.itoa; rw [if_pos h]
theorem zUJ {x : Int} (h0 : -99999 ≤ x) (h1 : x ≤ 99999) : zDI (Lib.itoa x) = some x := by
  by_cases c : x < 0
  · rw [zKF c]
    unfold zDI
    rw [if_pos (show (45 :: Lib.decDigits x.natAbs : List UInt8).head? = some 45 from rfl)]
    have hl := zAZ (u := x.natAbs) (n := 5) (by omega) (by omega)
    show (match numP 5 (Lib.decDigits x.natAbs) with
      | none => none
      | some v => if v = 0 then none else some (-(v : Int))) = some x
    rw [zKZ hl]
    show (if x.natAbs = 0 then none else some (-(x.natAbs : Int))) = some x
    rw [if_neg (by omega)]
    congr 1
    omega
  · have hn := zVS (x := x) (by omega) h1
    have hc := (zFH hn).2.2.2.1
    unfold zDI
    rw [if_neg (zJM hc)]
    exact hn
theorem zMZ {b : List UInt8} {x : Int} (h : zDI b = some x) : -99999 ≤ x ∧ x ≤ 99999 ∧ Lib.itoa x = b ∧ (x < 0 → ∃ t, b = 45 :: t ∧ Canon t ∧ t.length ≤ 5 ∧ x = -((uR 0 t : Nat) : Int)) ∧ (0 ≤ x → natP b = some x) := by
  unfold zDI at h
  by_cases c : b.head? = some 45
  · rw [if_pos c] at h
    cases b with
    | nil => cases c
    | cons q t =>
      obtain rfl : q = 45 := by simpa using c
      rw [show ((45 : UInt8) :: t).drop 1 = t from rfl] at h
      cases hn : numP 5 t with
      | none => rw [hn] at h; cases h
      | some v =>
        rw [hn] at h
        simp only [] at h
        by_cases hv : v = 0
        · rw [if_pos hv] at h; cases h
        · rw [if_neg hv] at h
          obtain rfl := Option.some.inj h
          have h1 := zRU hn
          obtain ⟨h2, h3, h4⟩ := zFG hn
          refine ⟨by omega, by omega, ?_, fun _ => ⟨t, rfl, h3, h4, ?_⟩, fun h => absurd h (by omega)⟩
          · rw [zKF (by omega), show (-(v : Int)).natAbs = v from by omega, h2]
          · unfold numP at hn
            rw [if_pos ⟨h3, h4⟩] at hn
            rw [Option.some.inj hn]
  · rw [if_neg c] at h
    obtain ⟨h1, h2, h3, _⟩ := zFH h
    exact ⟨by omega, h2, h3, fun q => absurd q (by omega), fun _ => h⟩
theorem atoi_neg {t : List UInt8} (h : Canon t) (hl : t.length ≤ 18) : Lib.atoiAll (45 :: t) = .ok (-((uR 0 t : Nat) : Int)) := by
  obtain ⟨h1, h2, h3⟩ := h
  have hv := zGJ t 0 h3
  have hp : (0 + 1) * 10 ^ t.length ≤ 10 ^ 18 := by
    rw [Nat.zero_add, Nat.one_mul]; exact Nat.pow_le_pow_right (by decide) hl
  have hq := zNR t 0 h3 (by omega)
  unfold Lib.atoiAll
  simp only []
  rw [if_pos (Or.inr (by decide) : (45 : UInt8).toNat = 43 ∨ (45 : UInt8).toNat = 45)]
  have e : Lib.parseMag t = .ok (uR 0 t) := by unfold Lib.parseMag; rw [if_neg (by rintro rfl; simp at h1)]; exact hq
  rw [e]
  simp only []
  rw [if_neg (by rintro ⟨a, _⟩; exact a (by decide)), if_neg (by omega), if_pos (by decide)]
/-- What the program takes for a number. -/
theorem zMT (b : List UInt8) (neg : Bool) (hb : b.length ≤ 281474976710656) : ∃ p : Int × Bool, kB.f (ba b) neg = some p ∧
    (∀ v, (if neg = true then zDI b else natP b) = some v → p = (v, true)) ∧ ((if neg = true then zDI b else natP b) = none → p.2 = false) := by
  obtain ⟨n, e, h1, h2, h3⟩ := atoi_cases (ba b) (by rw [yC]; exact hb)
  rw [zBZ] at h2
  have ok_of : ∀ x, zDI b = some x → e = none ∧ n = x := fun x h => by
    obtain ⟨a1, a2, a3, a4, a5⟩ := zMZ h
    have ha : Lib.atoiAll b = .ok x := by
      by_cases c : x < 0
      · obtain ⟨t, rfl, t1, t2, t3⟩ := a4 c
        rw [t3]; exact atoi_neg t1 (by omega)
      · obtain ⟨_, _, _, c1, c2, c3⟩ := zFH (a5 (by omega))
        rw [c3]; exact zPN c1 (by omega)
    cases e with
    | none =>
      have := h2.1 rfl
      rw [ha] at this
      injection this with this
      exact ⟨rfl, this.symm⟩
    | some q =>
      exfalso
      unfold strconv_Atoi.f at h1
      rw [if_pos (by rw [yC]; exact hb), zBZ, ha] at h1
      simp at h1
  have nat_heat : ∀ x, natP b = some x → zDI b = some x := fun x h => by
    unfold zDI
    rw [if_neg (zJM (zFH h).2.2.2.1)]
    exact h
  unfold kB.f
  rw [h1]
  simp only [Option.bind_some]
  cases hh : zDI b with
  | some x =>
    obtain ⟨rfl, rfl⟩ := ok_of x hh
    obtain ⟨a1, a2, a3, a4, a5⟩ := zMZ hh
    rw [if_pos (show (none : Option Int).isNone = true from rfl), zVV h3.1 h3.2]
    simp only [Option.bind_some]
    rw [if_pos (by rw [kZ, kZ]; exact a3), if_pos a2, if_pos (show n ≥ -99999 from a1)]
    by_cases c : n ≥ 0
    · rw [if_pos c]
      have hn := a5 c
      refine ⟨_, rfl, fun v h => ?_, fun h => ?_⟩
      · cases neg with
        | true => rw [if_pos rfl] at h; rw [Option.some.inj h]
        | false => rw [if_neg (by simp), hn] at h; rw [Option.some.inj h]
      · cases neg with
        | true => rw [if_pos rfl] at h; cases h
        | false => rw [if_neg (by simp), hn] at h; cases h
    · rw [if_neg c]
      refine ⟨_, rfl, fun v h => ?_, fun h => ?_⟩
      · cases neg with
        | true => rw [if_pos rfl] at h; rw [Option.some.inj h]
        | false => rw [if_neg (by simp)] at h; exact absurd (zFH h).1 (fun q => by have := nat_heat v h; rw [hh] at this; rw [Option.some.inj this] at c; exact c q)
      · cases neg with
        | true => rw [if_pos rfl] at h; cases h
        | false => rfl
  | none =>
    have hnat : natP b = none := by
      cases q : natP b with
      | none => rfl
      | some x => have := nat_heat x q; rw [hh] at this; cases this
    have hno : (if neg = true then (none : Option Int) else natP b) = none := by
      cases neg with
      | true => rfl
      | false => rw [if_neg (by simp)]; exact hnat
    have fin : ∀ p : Int × Bool, p.2 = false → ∃ p' : Int × Bool, some p = some p' ∧ (∀ v, (if neg = true then (none : Option Int) else natP b) = some v → p' = (v, true)) ∧ ((if neg = true then (none : Option Int) else natP b) = none → p'.2 = false) :=
      fun p hp => ⟨p, rfl, (fun v h => by rw [hno] at h; cases h), fun _ => hp⟩
    cases e with
    | some q => rw [if_neg (by simp)]; exact fin (n, false) rfl
    | none =>
      rw [if_pos (show (none : Option Int).isNone = true from rfl), zVV h3.1 h3.2]
      simp only [Option.bind_some]
      by_cases c1 : (ba (Lib.itoa n)).toList = (ba b).toList
      · rw [if_pos c1]
        rw [kZ, kZ] at c1
        by_cases c2 : n ≤ 99999
        · rw [if_pos c2]
          by_cases c3 : n ≥ -99999
          · exfalso
            have := zUJ c3 c2
            rw [c1, hh] at this
            cases this
          · rw [if_neg c3]; exact fin (n, false) rfl
        · rw [if_neg c2]; exact fin (n, false) rfl
      · rw [if_neg c1]; exact fin (n, false) rfl
theorem zTR (ws : List (List UInt8)) {i : Int} (h0 : 0 ≤ i) (h1 : i < (ws.length : Int)) : ∃ b, b ∈ ws ∧ rdOf ByteArray.empty (ws.map ba) i = ba b ∧ ws.drop i.toNat = b :: ws.drop (i + 1).toNat := by
  have hn : i.toNat < ws.length := by omega
  refine ⟨ws[i.toNat], List.getElem_mem _, ?_, ?_⟩
  · unfold rdOf
    rw [List.getD_eq_getElem?_getD, List.getElem?_map, List.getElem?_eq_getElem hn]
    rfl
  · rw [show (i + 1).toNat = i.toNat + 1 from by omega]
    exact List.drop_eq_getElem_cons hn
def zBV (acc : List Int) : Option (List Int) → List Int × Bool
  | some l => (acc ++ l, true)
  | none => ([], false)
theorem zJV (ws : List (List UInt8)) (neg : Int) (hl : ws.length ≤ 1000000) (hw : ∀ b, b ∈ ws → b.length ≤ 1000000) : ∀ i, neg ≤ i → 0 ≤ i → i ≤ (ws.length : Int) → ∀ acc : List Int, (acc.length : Int) ≤ i →
    Ev (fun k => wG.l0 k neg acc (ws.map ba) (ws.length : Int) i) (zBV acc (uS (ws.drop i.toNat))) := by
  have key : ∀ i, 0 ≤ i → i ≤ (ws.length : Int) → (neg ≤ i → ∀ acc : List Int, (acc.length : Int) ≤ i →
    Ev (fun k => wG.l0 k neg acc (ws.map ba) (ws.length : Int) i) (zBV acc (uS (ws.drop i.toNat)))) := by
    refine uA 0 (ws.length : Int) _ ?_ ?_
    · intro _ acc ha
      rw [List.drop_eq_nil_of_le (by omega)]
      exact Ev.step (fun k => wG.l0.eq_2 ..) (evn (by omega) (evr (by simp [uS, zBV])))
    · intro i h0 h1 ih hn acc ha
      obtain ⟨b, hb, e1, e2⟩ := zTR ws h0 h1
      obtain ⟨p, p1, p2, p3⟩ := zMT b false (by have := hw b hb; omega)
      rw [if_neg (by simp)] at p3
      simp only [if_neg (show ¬ (false = true) by simp)] at p2
      rw [e2]
      refine Ev.step (fun k => wG.l0.eq_2 ..) (evp h1 (evp h0 (evp (by rw [List.length_map]; exact h1) ?_)))
      rw [e1, decide_eq_false (show ¬ i < neg by omega), p1]
      refine evb (Ev.now _) ?_
      cases hv : natP b with
      | none => exact evn (by rw [p3 hv]; simp) (evr (by simp [uS, hv, zBV]))
      | some v =>
        rw [p2 v hv]
        refine evp rfl (evp (by omega) ?_)
        rw [jI h0 h1 (by omega)]
        have q := ih (by omega) (acc ++ [v]) (by rw [List.length_append]; simp; omega)
        have e3 : zBV acc (uS (b :: ws.drop (i + 1).toNat)) = zBV (acc ++ [v]) (uS (ws.drop (i + 1).toNat)) := by
          simp only [uS, hv]
          cases uS (ws.drop (i + 1).toNat) with
          | none => rfl
          | some l => simp [zBV]
        rw [e3]
        exact q
  exact fun i hn h0 h1 => key i h0 h1 hn
theorem zVP (ws : List (List UInt8)) (hl : ws.length ≤ 1000000) (hw : ∀ b, b ∈ ws → b.length ≤ 1000000) : Ev (fun k => wG.f k (ws.map ba) 0) (zBV [] (uS ws)) := by
  have h := zJV ws 0 hl hw 0 (by omega) (by omega) (by omega) [] (by simp)
  rw [show (0 : Int).toNat = 0 from rfl, List.drop_zero] at h
  have e : ((ws.map ba).length : Int) = (ws.length : Int) := by rw [List.length_map]
  unfold wG.f
  rw [e]
  exact h
/-- The numbers behind the word 'heat'. -/
def rowP : List (List UInt8) → Option (Int × List Int)
  | [] => none
  | b :: r => match zDI b with
    | none => none
    | some h => match uS r with
      | none => none
      | some l => some (h, l)
theorem zVO (ws : List (List UInt8)) (hl : ws.length ≤ 1000000) (hw : ∀ b, b ∈ ws → b.length ≤ 1000000) : ∃ p : List Int × Bool, Ev (fun k => wG.f k (ws.map ba) 1) p ∧ (ws = [] → p = ([], true)) ∧
    (ws ≠ [] → rowP ws = none → p.2 = false) ∧ (∀ h l, rowP ws = some (h, l) → p = (h :: l, true)) := by
  have e : ((ws.map ba).length : Int) = (ws.length : Int) := by rw [List.length_map]
  unfold wG.f
  rw [e]
  cases ws with
  | nil => exact ⟨([], true), Ev.step (fun k => wG.l0.eq_2 ..) (evn (by simp) (Ev.now _)), fun _ => rfl, fun h => absurd rfl h, fun h l q => by cases q⟩
  | cons b r =>
    obtain ⟨p, p1, p2, p3⟩ := zMT b true (by have := hw b (by simp); omega)
    rw [if_pos rfl] at p3
    simp only [if_pos (show (true = true) from rfl)] at p2
    have at0 : rdOf ByteArray.empty ((b :: r).map ba) 0 = ba b := rfl
    have hlen : (((b :: r).length : Nat) : Int) = (r.length : Int) + 1 := by simp
    have step : ∀ y, Ev (fun k => if p.2 = true then (if ([] : List Int).length < 17592186044416 then (wG.l0 k 1 ([] ++ [p.1]) ((b :: r).map ba) (((b :: r).length : Nat) : Int) (wrap64 (0 + 1))) else none) else some ([], false)) y →
        Ev (fun k => wG.l0 k 1 ([] : List Int) ((b :: r).map ba) (((b :: r).length : Nat) : Int) 0) y := by
      intro y hy
      refine Ev.step (fun k => wG.l0.eq_2 ..) (evp (by omega) (evp (by omega) (evp (by rw [List.length_map]; omega) ?_)))
      rw [at0, decide_eq_true (show (0 : Int) < 1 by omega), p1]
      exact evb (Ev.now _) hy
    cases hv : zDI b with
    | none =>
      refine ⟨([], false), step _ (evn (by rw [p3 hv]; simp) (Ev.now _)), (fun h => by cases h), fun _ _ => rfl, fun h l q => ?_⟩
      simp only [rowP, hv] at q
      cases q
    | some v =>
      have pv := p2 v hv
      rw [pv, show wrap64 ((0 : Int) + 1) = 1 from (w64 (by omega) (by omega)).trans (by omega)] at step
      have q := zJV (b :: r) 1 hl hw 1 (by omega) (by omega) (by omega) [v] (by simp)
      rw [show (1 : Int).toNat = 1 from rfl, show (b :: r).drop 1 = r from rfl] at q
      refine ⟨zBV [v] (uS r), step _ (evp rfl (evp (by simp) q)), (fun h => by cases h), fun _ h => ?_, fun h l hh => ?_⟩
      · simp only [rowP, hv] at h
        cases hn : uS r with
        | none => rfl
        | some l => rw [hn] at h; cases h
      · simp only [rowP, hv] at hh
        cases hn : uS r with
        | none => rw [hn] at hh; cases hh
        | some l2 =>
          rw [hn] at hh
          simp only [Option.some.injEq, Prod.mk.injEq] at hh
          obtain ⟨rfl, rfl⟩ := hh
          rfl
theorem zKS (ws : List (List UInt8)) (hl : ws.length ≤ 1000000) (hw : ∀ b, b ∈ ws → b.length ≤ 1000000) : Ev (fun k => wM.f k (ws.map ba)) (zBV [] (uS ws)) := by
  have key : ∀ i, 0 ≤ i → i ≤ (ws.length : Int) → ∀ acc : List Int, (acc.length : Int) ≤ i →
    Ev (fun k => wM.l0 k (ws.map ba) acc i) (zBV acc (uS (ws.drop i.toNat))) := by
    refine uA 0 (ws.length : Int) _ ?_ ?_
    · intro acc ha
      rw [List.drop_eq_nil_of_le (by omega)]
      exact Ev.step (fun k => wM.l0.eq_2 ..) (evn (by rw [List.length_map]; omega) (evr (by simp [uS, zBV])))
    · intro i h0 h1 ih acc ha
      obtain ⟨b, hb, e1, e2⟩ := zTR ws h0 h1
      have nb := zKY (ba b) 5 (by omega)
      rw [zBZ] at nb
      rw [e2]
      refine Ev.step (fun k => wM.l0.eq_2 ..) (evp (by rw [List.length_map]; exact h1) (evp h0 ?_))
      rw [e1]
      refine evb nb ?_
      cases hv : numP 5 b with
      | none => exact evn (by simp [numR, hv]) (evr (by simp [uS, natP, hv, zBV]))
      | some v =>
        have e4 : numR 5 b = ((v : Int), true) := by simp [numR, hv]
        rw [e4]
        refine evp rfl (evp (by omega) ?_)
        rw [jI h0 h1 (by omega)]
        have q := ih (acc ++ [(v : Int)]) (by rw [List.length_append]; simp; omega)
        have e3 : zBV acc (uS (b :: ws.drop (i + 1).toNat)) = zBV (acc ++ [(v : Int)]) (uS (ws.drop (i + 1).toNat)) := by
          simp only [uS, natP, hv]
          cases uS (ws.drop (i + 1).toNat) with
          | none => rfl
          | some l => simp [zBV]
        rw [e3]
        exact q
  have h := key 0 (by omega) (by omega) [] (by simp)
  rw [show (0 : Int).toNat = 0 from rfl, List.drop_zero] at h
  exact h
theorem ref_heat (b : List UInt8) (hb : b.length ≤ 1000000) : ∃ p : Int × Bool, Ev (fun k => vQ.f k (ba b)) p ∧ (∀ v, zDI b = some v → p = (v, true)) ∧ (zDI b = none → p.2 = false) := by
  have nb := zKY (ba b) 5 (by omega)
  rw [zBZ] at nb
  have plain : ∀ y, Ev (fun k => vQ.j0 k (ba b) false) y → b.head? ≠ some 45 ∨ ¬ (1 < b.length) ∨ b = [45, 48] → Ev (fun k => vQ.f k (ba b)) y := by
    intro y hy hc
    unfold vQ.f
    by_cases c1 : ((ba b).size : Int) > 1
    · rw [yC] at c1
      obtain ⟨q, e1, _, e3⟩ := byte_at (ba b) (i := 0) (by omega) (by rw [yC]; omega)
      rw [show (0 : Int).toNat = 0 from rfl, List.drop_zero, zBZ] at e1
      refine evp (by rw [yC]; exact c1) (evp (by rw [yC]; omega) ?_)
      rw [e3]
      by_cases c2 : (q.toNat : Int) = 45
      · have hq : q = 45 := (toNat_eq q 45 (by decide)).1 c2
        have hb2 : b = [45, 48] := by
          rcases hc with h | h | h
          · rw [e1, hq] at h; exact absurd rfl h
          · omega
          · exact h
        refine evp c2 ?_
        rw [show ((ba b).toList != ([45, 48] : List UInt8)) = false from by rw [kZ, hb2]; rfl]
        exact hy
      · exact evn c2 hy
    · exact evn c1 hy
  have j0 : Ev (fun k => vQ.j0 k (ba b) false) ((numR 5 b).1, (numR 5 b).2) := Ev.step (fun k => vQ.j0.eq_2 ..) (evn (by simp) (evb nb (Ev.now _)))
  by_cases h45 : b.head? = some 45
  case neg =>
    refine ⟨_, plain _ j0 (.inl h45), fun v h => ?_, fun h => ?_⟩
    · unfold zDI at h
      rw [if_neg h45] at h
      unfold natP at h
      cases hn : numP 5 b with
      | none => rw [hn] at h; cases h
      | some x => rw [hn] at h; rw [← Option.some.inj h]; simp [numR, hn]
    · unfold zDI at h
      rw [if_neg h45] at h
      unfold natP at h
      cases hn : numP 5 b with
      | none => simp [numR, hn]
      | some x => rw [hn] at h; cases h
  case pos =>
    have hnone : numP 5 b = none := by
      cases hn : numP 5 b with
      | none => rfl
      | some x => exact absurd h45 (zJM (zFG hn).2.1)
    cases b with
    | nil => cases h45
    | cons q t =>
      obtain rfl : q = 45 := by simpa using h45
      have hh : zDI (45 :: t) = match numP 5 t with
        | none => none
        | some v => if v = 0 then none else some (-(v : Int)) := by
        unfold zDI; rw [if_pos (show (45 :: t : List UInt8).head? = some 45 from rfl)]; rfl
      by_cases c1 : 1 < (45 :: t : List UInt8).length ∧ (45 :: t : List UInt8) ≠ [45, 48]
      · have nt := zKY (ba t) 5 (by omega)
        rw [zBZ] at nt
        have ex : (ba (45 :: t)).extract 1 (ba (45 :: t)).size = ba t := by rw [zXZ, zBZ, yC, List.take_length]; rfl
        obtain ⟨q, e1, _, e3⟩ := byte_at (ba (45 :: t)) (i := 0) (by omega) (by rw [yC]; simp only [List.length_cons]; omega)
        rw [show (0 : Int).toNat = 0 from rfl, List.drop_zero, zBZ] at e1
        have hq : q = 45 := by injection e1 with a b; exact a.symm
        refine ⟨(wrap64 (-(numR 5 t).1), (numR 5 t).2), ?_, fun v h => ?_, fun h => ?_⟩
        · refine evp (by rw [yC]; have := c1.1; omega) (evp (by rw [yC]; simp only [List.length_cons]; omega) ?_)
          rw [e3]
          refine evp (by rw [hq]; rfl) ?_
          rw [show ((ba (45 :: t)).toList != ([45, 48] : List UInt8)) = true from by rw [kZ]; exact bne_iff_ne.2 c1.2]
          refine Ev.step (fun k => vQ.j0.eq_2 ..) (evp rfl (evp (by rw [yC]; simp only [List.length_cons]; omega) ?_))
          rw [ex]
          exact evb nt (Ev.now _)
        · rw [hh] at h
          cases hn : numP 5 t with
          | none => rw [hn] at h; cases h
          | some x =>
            rw [hn] at h
            simp only [] at h
            by_cases hx : x = 0
            · rw [if_pos hx] at h; cases h
            · rw [if_neg hx] at h
              have := zRU hn
              rw [← Option.some.inj h]
              simp only [numR, hn]
              rw [w64 (by omega) (by omega)]
        · rw [hh] at h
          cases hn : numP 5 t with
          | none => simp [numR, hn]
          | some x =>
            rw [hn] at h
            simp only [] at h
            by_cases hx : x = 0
            · exfalso
              have hd := (zFG hn).1
              rw [hx] at hd
              have : Lib.decDigits 0 = [48] := by rw [uV (by omega)]; rfl
              rw [this] at hd
              exact c1.2 (by rw [← hd])
            · rw [if_neg hx] at h; cases h
      · refine ⟨_, plain _ j0 (.inr ?_), fun v h => ?_, fun _ => by simp [numR, hnone]⟩
        · by_cases c2 : 1 < (45 :: t : List UInt8).length
          · exact .inr (Classical.byContradiction fun q => c1 ⟨c2, q⟩)
          · exact .inl c2
        · exfalso
          rw [hh] at h
          by_cases c2 : 1 < (45 :: t : List UInt8).length
          · have : (45 :: t : List UInt8) = [45, 48] := Classical.byContradiction fun q => c1 ⟨c2, q⟩
            injection this with _ ht
            rw [ht] at h
            rw [show numP 5 [48] = some 0 from by decide] at h
            cases h
          · have : t = [] := by cases t with | nil => rfl | cons a b => simp at c2
            rw [this, show numP 5 [] = none from by decide] at h
            cases h
end Go.Proofs.YtmdfnambaedllaaDoor.PL
