/-
The law CaskChecks returns true for every input that can be read as data, and leaves its arguments as they were: the row, and the card that ties the listed variables to the program's text.
No condition of its own beyond those that the given row prints.
-/
import Derived.HandedShaped
import Derived.Handed
import Derived.Test.YtnhmlneebnkjcaaDoorCards
import Derived.Test.YtnhmlneebnkjcaaDoorTie
import Derived.ProofKit
import Derived.OpenShut
import Derived.ShutString
import Derived.ChangeOld
import Derived.SizedLaws
import Derived.LaidMore
import Derived.Lay
import Derived.MakeChecks
import Derived.SevenTiedAt
import Derived.LaidSub
import Derived.LaidOnce
import Derived.Stop.Joined
import Derived.Stop.LaidErr
import Derived.Test.YtnhmlneebnkjcaaDoorCaskChecksD
set_option linter.unusedVariables false
set_option linter.unusedSimpArgs false
namespace Go.Proofs.YtnhmlneebnkjcaaDoor.Pr
open Go.RowKit Go.Proofs.YtnhmlneebnkjcaaDoorW.PrintWords Go.Proofs.YtnhmlneebnkjcaaDoorW.PrintLast Go.Proofs.YtnhmlneebnkjcaaDoorW.PrintMore Go.Proofs.YtnhmlneebnkjcaaDoor.X
attribute [local go_sem] max2_int min2_int max_two min_two max_three min_three max_four min_four   -- for this text's walks alone
set_option linter.unusedVariables false
set_option linter.unusedSimpArgs false
mutual
def spilelaw09_CaskChecks.j0 : Nat → List (S27) → ByteArray → Bool → Option (Bool)
 | 0, _, _, _ => none
 | k + 1, x0, x1, x24 => if x24 = true then (some true) else ((spileref09_Copy.f k x0).bind fun t237 => ((cask_Find.f k t237 x1).bind fun bt240 => ((spileref09_Find.f k x0 x1).bind fun bt248 => ((spileref09_SameCask.f k bt240.1 bt240.2.1 bt240.2.2.1 bt240.2.2.2.1 bt248.1 bt248.2.1 bt248.2.2.1 bt248.2.2.2.1).bind fun t256 => (if t256 = true then (if bt240.2.2.2.2 = bt248.2.2.2.2 then ((spileref09_Copy.f k x0).bind fun t257 => ((cask_List.f k t257).bind fun t260 => ((spileref09_List.f k x0).bind fun t261 => (spilelaw09_CaskChecks.j1 k x0 (t260 != t261))))) else (spilelaw09_CaskChecks.j1 k x0 true)) else (spilelaw09_CaskChecks.j1 k x0 true))))))
def spilelaw09_CaskChecks.j1 : Nat → List (S27) → Bool → Option (Bool)
 | 0, _, _ => none
 | k + 1, x0, x54 => if x54 = true then (none) else ((spileref09_Copy.f k x0).bind fun t262 => (spilelaw09_CaskChecks.l0 k t262 (t262.length : Int) 0))
def spilelaw09_CaskChecks.l0 : Nat → List (S27) → Int → Int → Option (Bool)
 | 0, _, _, _ => none
 | k + 1, x56, x57, x58 => if x58 < x57 then (if 0 ≤ x58 then (if x58 < (x56.length : Int) then ((cask_Depth.f k ((rd_T27 x56 x58).f0) ((rd_T27 x56 x58).f1) ((rd_T27 x56 x58).f2) ((rd_T27 x56 x58).f3)).bind fun bt267 => ((spileref09_Depth.f k ((rd_T27 x56 x58).f0) ((rd_T27 x56 x58).f1) ((rd_T27 x56 x58).f2) ((rd_T27 x56 x58).f3)).bind fun bt269 => (if bt267.1 = bt269.1 then (if bt267.2 = bt269.2 then ((cask_Check.f k ((rd_T27 x56 x58).f0) ((rd_T27 x56 x58).f1) ((rd_T27 x56 x58).f2) ((rd_T27 x56 x58).f3)).bind fun t271 => ((spileref09_Check.f k ((rd_T27 x56 x58).f0) ((rd_T27 x56 x58).f1) ((rd_T27 x56 x58).f2) ((rd_T27 x56 x58).f3)).bind fun t272 => (if t271 = t272 then (spilelaw09_CaskChecks.l0 k x56 x57 (wrap64 (x58 + 1))) else (none)))) else (none)) else (none)))) else (none)) else (none)) else (some true)
end
def spilelaw09_CaskChecks.f (k : Nat) (l0 : List (S27)) (a1 : ByteArray) : Option (Bool) := (spilelaw09_awake.f).bind fun t235 => (if t235 = true then ((spileref09_Few.f k l0).bind fun t236 => (if t236 = true then (spilelaw09_CaskChecks.j0 k l0 a1 (decide ((a1.size : Int) > 70))) else (spilelaw09_CaskChecks.j0 k l0 a1 true))) else (none))
def spilelaw09_CaskChecks.T14 : Bool × List (List Nat × List Nat) := (true, [([], []), ([], []), ([0, 1], [0, 1]), ([2], [2]), ([3], [3]), ([3], [3]), ([4, 5, 3], [3, 4, 5]), ([3, 6], [3, 6]), ([7, 3], [7]), ([8], [8]), ([9, 8, 8], [8, 9]), ([8], [8]), ([11, 10, 8], [8, 11]), ([10, 12, 8], [8, 10, 12]), ([8, 13], [8, 13])])
def spilelaw09_CaskChecks.B14 : List Nat := [0, 0, 3, 7, 15, 15, 63, 127, 255, 511, 1023, 511, 4095, 8191, 16383]
theorem spilelaw09_CaskChecks.tab14 : rtab .any (opsOf Tryd.f3 14) = spilelaw09_CaskChecks.T14 := by kernel_rfl
theorem spilelaw09_CaskChecks.bits14 : waitsOk spilelaw09_CaskChecks.T14.2 spilelaw09_CaskChecks.B14 = true := by kernel_rfl
set_option maxHeartbeats 8000000 in
set_option maxRecDepth 100000 in
theorem spilelaw09_CaskChecks.calls (k : Nat) (A0 : Option Addr) (c0 : Nat) (l0 : List (S27)) (a1 : ByteArray) (r : Bool) (w : World) (hr0 : Kd.C k27 w A0 l0.length l0) (hc0 : l0.length ≤ c0) (hG : GI w) (hr_ : r = true) (h : spilelaw09_CaskChecks.f k l0 a1 = some r) :
  Calls Tryd.prog 3 #[.slice A0 l0.length c0, .string a1] w fun e w' => e = .returned (.bool r) ∧ Below w.heap.size w w' := by
 have hu27 := Tryd.underlying27; have HR0 := Aside0.mk hr0; have HC0 := Aside0.mk hc0; clear hr0 hc0; have HG := Aside0.mk hG; clear hG; have HB := Aside0.mk (Below.refl w.heap.size w); have H : ((spilelaw09_awake.f).bind fun t235 => (if t235 = true then ((spileref09_Few.f k l0).bind fun t236 => (if t236 = true then (spilelaw09_CaskChecks.j0 k l0 a1 (decide ((a1.size : Int) > 70))) else (spilelaw09_CaskChecks.j0 k l0 a1 true))) else (none))) = some r := h; clear h; replace H := Option.bind_eq_some_iff.mp H; obtain ⟨t235, A30, H⟩ := H; replace H : (if t235 = true then ((spileref09_Few.f k l0).bind fun t236 => (if t236 = true then (spilelaw09_CaskChecks.j0 k l0 a1 (decide ((a1.size : Int) > 70))) else (spilelaw09_CaskChecks.j0 k l0 a1 true))) else (none)) = some r := H; have A3 := Aside0.mk A30; clear A30; by_cases c4 : t235 = true
 ·
  subst c4; have H1 : ((spileref09_Few.f k l0).bind fun t236 => (if t236 = true then (spilelaw09_CaskChecks.j0 k l0 a1 (decide ((a1.size : Int) > 70))) else (spilelaw09_CaskChecks.j0 k l0 a1 true))) = some r := by rw [if_pos rfl] at H; exact H
  clear H; have H := H1; clear H1; have HC5 := Aside0.mk H; clear H; go_enter Tryd.func3, Tryd.ntmps3
  go_upto_region 3 with (first | ((with_reducible refine gate_callee (f := 10) rfl ?_); refine goesL_ (some 15) rfl rfl Tryd.func10 (by kernel_rfl) rfl #[] rfl (by (try simp only [List.map_toArray, List.map_cons, List.map_nil]); first | done | rfl | (simp only [List.length_drop, List.length_take]; rfl)) ?_; (with_reducible refine (spilelaw09_awake.calls  true _ ?side1 A3.out).mono ?_); (case side1 => exact GI.below HG.out (eG HB.out)); rintro e w6 ⟨rfl, hb⟩; refine ⟨_, rfl, ?_⟩; have n0_ := Aside0.mk (below_step (eG HB.out) hb); clear HB; have HB := n0_; clear n0_; (try clear hb); (try clear hb2); (try clear hk); (try clear hi)))
  (try simp only [Act.put, sIA, sC0, sCS])
  go_cut [24] (fun v24 wc => ∃ (kq : Nat) (x24_4 : Bool), v24 = .bool x24_4 ∧ Aside0 (spilelaw09_CaskChecks.j0 kq l0 a1 x24_4 = some r) ∧ Aside0 (kq ≤ k) ∧ Aside0 (Below w.heap.size w wc))
  case first =>
   have H := HC5.out; clear HC5; replace H := Option.bind_eq_some_iff.mp H; obtain ⟨t236, A70, H⟩ := H; replace H : (if t236 = true then (spilelaw09_CaskChecks.j0 k l0 a1 (decide ((a1.size : Int) > 70))) else (spilelaw09_CaskChecks.j0 k l0 a1 true)) = some r := H; have A7 := Aside0.mk A70; clear A70; by_cases c8 : t236 = true
   ·
    subst c8; have H1 : (spilelaw09_CaskChecks.j0 k l0 a1 (decide ((a1.size : Int) > 70))) = some r := by rw [if_pos rfl] at H; exact H
    clear H; have H := H1; clear H1; have H' := Aside0.mk H; clear H; go_wp2_with (first | ((with_reducible refine gate_callee (f := 11) rfl ?_); refine goesL_ (some 18) rfl rfl Tryd.func11 (by kernel_rfl) rfl #[.slice A0 l0.length c0] rfl (by (try simp only [List.map_toArray, List.map_cons, List.map_nil]); first | done | rfl | (simp only [List.length_drop, List.length_take]; rfl)) ?_; (with_reducible refine (spileref09_Few.calls k _ _ l0 true _ ?side1 ?side2 A7.out).mono ?_); (case side1 => repeat (first | exact (Kd.C_below HR0.out HB.out) | (with_reducible refine Kd.C_alloc ?_ _) | (with_reducible refine Kd.C_drewN ?_ _) | (with_reducible refine Kd.C_drew ?_))); (case side2 => exact HC0.out); rintro e w' ⟨rfl, ⟨nd, rfl⟩⟩; refine ⟨_, rfl, ?_⟩))
    go_meet
    case rel => exact ⟨_, (decide ((a1.size : Int) > 70)), (by first | rfl | (simp; done) | (simp [*]; done)), H', ⟨by first | omega | exact Nat.le_refl _⟩, ⟨eG HB.out⟩⟩
   ·
    replace c8 := Bool.eq_false_iff.mpr c8; subst c8; have H1 : (spilelaw09_CaskChecks.j0 k l0 a1 true) = some r := by rw [if_neg (show ¬ (false = true) by decide)] at H; exact H
    clear H; have H := H1; clear H1; have H' := Aside0.mk H; clear H; go_wp2_with (first | ((with_reducible refine gate_callee (f := 11) rfl ?_); refine goesL_ (some 18) rfl rfl Tryd.func11 (by kernel_rfl) rfl #[.slice A0 l0.length c0] rfl (by (try simp only [List.map_toArray, List.map_cons, List.map_nil]); first | done | rfl | (simp only [List.length_drop, List.length_take]; rfl)) ?_; (with_reducible refine (spileref09_Few.calls k _ _ l0 false _ ?side1 ?side2 A7.out).mono ?_); (case side1 => repeat (first | exact (Kd.C_below HR0.out HB.out) | (with_reducible refine Kd.C_alloc ?_ _) | (with_reducible refine Kd.C_drewN ?_ _) | (with_reducible refine Kd.C_drew ?_))); (case side2 => exact HC0.out); rintro e w' ⟨rfl, ⟨nd, rfl⟩⟩; refine ⟨_, rfl, ?_⟩))
    go_meet
    case rel => exact ⟨_, (true), (by first | rfl | (simp; done) | (simp [*]; done)), H', ⟨by first | omega | exact Nat.le_refl _⟩, ⟨eG HB.out⟩⟩
  case rest =>
   clear HC5; try clear c1
   try clear p2
   try clear c3
   try clear c4
   try clear c8
   obtain ⟨kq, x24_4, rfl, HA, HJ4, HB⟩ := hcut
   cases kq with
   | zero => exact absurd HA.out (by simp [spilelaw09_CaskChecks.j0])
   | succ kj4 =>
    have H := HA.out; clear HA; simp only [spilelaw09_CaskChecks.j0] at H; by_cases c9 : x24_4 = true
    ·
     subst c9; have H1 : (some true) = some r := by rw [if_pos rfl] at H; exact H
     clear H; have H := H1; clear H1; obtain rfl := Option.some.inj H; go_wp2; go_ret
     exact ⟨by first | rfl | (simp [errW_none, errW_some] <;> rfl) | (simp [*, errW_none, errW_some] <;> rfl), eG HB.out⟩
    ·
     replace c9 := Bool.eq_false_iff.mpr c9; subst c9; have H1 : ((spileref09_Copy.f kj4 l0).bind fun t237 => ((cask_Find.f kj4 t237 a1).bind fun bt240 => ((spileref09_Find.f kj4 l0 a1).bind fun bt248 => ((spileref09_SameCask.f kj4 bt240.1 bt240.2.1 bt240.2.2.1 bt240.2.2.2.1 bt248.1 bt248.2.1 bt248.2.2.1 bt248.2.2.2.1).bind fun t256 => (if t256 = true then (if bt240.2.2.2.2 = bt248.2.2.2.2 then ((spileref09_Copy.f kj4 l0).bind fun t257 => ((cask_List.f kj4 t257).bind fun t260 => ((spileref09_List.f kj4 l0).bind fun t261 => (spilelaw09_CaskChecks.j1 kj4 l0 (t260 != t261))))) else (spilelaw09_CaskChecks.j1 kj4 l0 true)) else (spilelaw09_CaskChecks.j1 kj4 l0 true)))))) = some r := by rw [if_neg (show ¬ (false = true) by decide)] at H; exact H
     clear H; have H := H1; clear H1; replace H := Option.bind_eq_some_iff.mp H; obtain ⟨t237, A100, H⟩ := H; replace H : ((cask_Find.f kj4 t237 a1).bind fun bt240 => ((spileref09_Find.f kj4 l0 a1).bind fun bt248 => ((spileref09_SameCask.f kj4 bt240.1 bt240.2.1 bt240.2.2.1 bt240.2.2.2.1 bt248.1 bt248.2.1 bt248.2.2.1 bt248.2.2.2.1).bind fun t256 => (if t256 = true then (if bt240.2.2.2.2 = bt248.2.2.2.2 then ((spileref09_Copy.f kj4 l0).bind fun t257 => ((cask_List.f kj4 t257).bind fun t260 => ((spileref09_List.f kj4 l0).bind fun t261 => (spilelaw09_CaskChecks.j1 kj4 l0 (t260 != t261))))) else (spilelaw09_CaskChecks.j1 kj4 l0 true)) else (spilelaw09_CaskChecks.j1 kj4 l0 true))))) = some r := H; have A10 := Aside0.mk A100; clear A100; replace H := Option.bind_eq_some_iff.mp H; obtain ⟨⟨t240, t241, t242, t245, t246⟩, A110, H⟩ := H; replace H : ((spileref09_Find.f kj4 l0 a1).bind fun bt248 => ((spileref09_SameCask.f kj4 t240 t241 t242 t245 bt248.1 bt248.2.1 bt248.2.2.1 bt248.2.2.2.1).bind fun t256 => (if t256 = true then (if t246 = bt248.2.2.2.2 then ((spileref09_Copy.f kj4 l0).bind fun t257 => ((cask_List.f kj4 t257).bind fun t260 => ((spileref09_List.f kj4 l0).bind fun t261 => (spilelaw09_CaskChecks.j1 kj4 l0 (t260 != t261))))) else (spilelaw09_CaskChecks.j1 kj4 l0 true)) else (spilelaw09_CaskChecks.j1 kj4 l0 true)))) = some r := H; have A11 := Aside0.mk A110; clear A110; replace H := Option.bind_eq_some_iff.mp H; obtain ⟨⟨t248, t249, t250, t253, t254⟩, A120, H⟩ := H; replace H : ((spileref09_SameCask.f kj4 t240 t241 t242 t245 t248 t249 t250 t253).bind fun t256 => (if t256 = true then (if t246 = t254 then ((spileref09_Copy.f kj4 l0).bind fun t257 => ((cask_List.f kj4 t257).bind fun t260 => ((spileref09_List.f kj4 l0).bind fun t261 => (spilelaw09_CaskChecks.j1 kj4 l0 (t260 != t261))))) else (spilelaw09_CaskChecks.j1 kj4 l0 true)) else (spilelaw09_CaskChecks.j1 kj4 l0 true))) = some r := H; have A12 := Aside0.mk A120; clear A120; have HC13 := Aside0.mk H; clear H; go_upto_region 7 with (first | ((with_reducible refine gate_callee (f := 13) rfl ?_); refine goesL_ (some 27) rfl rfl Tryd.func13 (by kernel_rfl) rfl #[.slice A0 l0.length c0] rfl (by (try simp only [List.map_toArray, List.map_cons, List.map_nil]); first | done | rfl | (simp only [List.length_drop, List.length_take]; rfl)) ?_; (with_reducible refine (spileref09_Copy.calls kj4 _ _ l0 t237 _ ?side1 ?side2 A10.out).mono ?_); (case side1 => repeat (first | exact (Kd.C_below HR0.out HB.out) | (with_reducible refine Kd.C_alloc ?_ _) | (with_reducible refine Kd.C_drewN ?_ _) | (with_reducible refine Kd.C_drew ?_))); (case side2 => exact HC0.out); rintro e w14 ⟨v238, rfl, ho0, hb⟩; refine ⟨_, rfl, ?_⟩; have n0_ := Aside0.mk (Kd.S_lower ho0 (below_size (eG HB.out))); have n1_ := Aside0.mk (below_step (eG HB.out) hb); clear HB; have HO239 := n0_; have HB := n1_; clear n0_ n1_; (try clear hb); (try clear hb2); (try clear hk); (try clear hi); (try clear ho0); obtain ⟨Ao15, co15, eo15⟩ := Kd.S_slice HO239.out; subst eo15) | ((with_reducible refine gate_callee (f := 12) rfl ?_); refine goesL_ (some 29) rfl rfl Tryd.func12 (by kernel_rfl) rfl #[.slice Ao15 t237.length co15, .string a1] rfl (by (try simp only [List.map_toArray, List.map_cons, List.map_nil]); first | done | rfl | (simp only [List.length_drop, List.length_take]; rfl)) ?_; (with_reducible refine (cask_Find.calls kj4 _ _ t237 a1 t240 t241 t242 t245 t246 _ ?side1 ?side2 A11.out).mono ?_); (case side1 => repeat (first | exact (Kd.S_reads' HO239.out).2.2 | (with_reducible refine Kd.C_alloc ?_ _) | (with_reducible refine Kd.C_drewN ?_ _) | (with_reducible refine Kd.C_drew ?_))); (case side2 => exact (Kd.S_reads' HO239.out).2.1); rintro e w16 ⟨v243, rfl, ho0, hb⟩; refine ⟨_, rfl, ?_⟩; have n0_ := Aside0.mk (Kd.S_elder' (by (with_reducible repeat (first | apply Kd.S_alloc | apply Kd.S_drewN | apply Kd.S_drew)); exact HO239.out) (Kd.R_base ho0) hb); have n1_ := Aside0.mk (Kd.R_lower ho0 (below_size (eG HB.out))); have n2_ := Aside0.mk (below_step (eG HB.out) hb); clear HO239; clear HB; have HO239 := n0_; have HO244 := n1_; have HB := n2_; clear n0_ n1_ n2_; (try clear hb); (try clear hb2); (try clear hk); (try clear hi); (try clear ho0)) | ((with_reducible refine gate_dst (N := 5) rfl ?_); (try (refine gate_guard (by rfl) ?_; dsimp only)); refine box_event ?hg (N := 5) ?hd (cs := #[.string (⟨#[]⟩ : ByteArray), .int .i64 0, .slice none 0 0, .int .i64 0]) (t := 27) ?hr ?_; (case hd => rfl); (case hg => rfl); (case hr => first | (go_simp; done) | (go_simp; rfl)); intro gb247 hg w17 hbox hb; have n0_ := Aside0.mk (Kd.S_below (Kd.S_elderB (by (with_reducible repeat (first | apply Kd.S_alloc | apply Kd.S_drewN | apply Kd.S_drew)); exact HO239.out) gb247 (Nat.le_of_eq hg.symm)) hb); have n1_ := Aside0.mk (Kd.R_below (rG HO244.out) hb); have n2_ := Aside0.mk (below_step (eG HB.out) hb); have n3_ := Aside0.mk (hbox); have n4_ := Aside0.mk ((by rw [hg]; exact (below_size (eG HB.out)) : w.heap.size ≤ gb247)); have n5_ := Aside0.mk ((by rw [hg]; exact (below_size (eG HB.out)) : w.heap.size ≤ gb247)); clear HO239; clear HO244; clear HB; have HO239 := n0_; have HO244 := n1_; have HB := n2_; have BK247 := n3_; have GW247 := n4_; have GE247 := n5_; have ig247_ := geI GE247; clear n0_ n1_ n2_ n3_ n4_ n5_; clear hb hbox hg; have hcz18_0 : w17.cell? ⟨gb247, 0, none⟩ = some (.string (⟨#[]⟩ : ByteArray)) := (blk_cell BK247.out 0).trans rfl; have hcz18_1 : w17.cell? ⟨gb247, 1, none⟩ = some (.int .i64 0) := (blk_cell BK247.out 1).trans rfl; have hcz18_2 : w17.cell? ⟨gb247, 2, none⟩ = some (.slice none 0 0) := (blk_cell BK247.out 2).trans rfl; have hcz18_3 : w17.cell? ⟨gb247, 3, none⟩ = some (.int .i64 0) := (blk_cell BK247.out 3).trans rfl; have hfz18_0 := blk_frozen BK247.out 0; have hfz18_1 := blk_frozen BK247.out 1; have hfz18_2 := blk_frozen BK247.out 2; have hfz18_3 := blk_frozen BK247.out 3; obtain ⟨Ao19, co19, eo19⟩ := Kd.R_slice HO244.out; subst eo19) | ((with_reducible refine gate_callee (f := 14) rfl ?_); refine goesL_ (some 35) rfl rfl Tryd.func14 (by kernel_rfl) rfl #[.slice A0 l0.length c0, .string a1] rfl (by (try simp only [List.map_toArray, List.map_cons, List.map_nil]); first | done | rfl | (simp only [List.length_drop, List.length_take]; rfl)) ?_; (with_reducible refine (spileref09_Find.calls kj4 _ _ l0 a1 t248 t249 t250 t253 t254 _ ?side1 ?side2 A12.out).mono ?_); (case side1 => exact Kd.C_below HR0.out (eG HB.out)); (case side2 => exact HC0.out); rintro e w20 ⟨v251, rfl, ho0, hb⟩; refine ⟨_, rfl, ?_⟩; have n0_ := Aside0.mk (Kd.S_elder' (by (with_reducible repeat (first | apply Kd.S_alloc | apply Kd.S_drewN | apply Kd.S_drew)); exact (Kd.S_mono (Kd.S_far (p := ⟨gb247, 3, none⟩) (Kd.S_far (p := ⟨gb247, 2, none⟩) (Kd.S_far (p := ⟨gb247, 1, none⟩) (Kd.S_far (p := ⟨gb247, 0, none⟩) (Kd.S_mono HO239.out (fun k_ hk => (⟨hk, hk.2⟩ : _ ∧ k_ ≠ gb247))) (fun _ hk => hk.2) (.string t240)) (fun _ hk => hk.2) (.int .i64 t241)) (fun _ hk => hk.2) (.slice Ao19 t242.length co19)) (fun _ hk => hk.2) (.int .i64 t245)) (fun _ h_ => h_.1))) (Kd.R_base ho0) hb); have n1_ := Aside0.mk (Kd.R_elder' (by (with_reducible repeat (first | apply Kd.R_alloc | apply Kd.R_drewN | apply Kd.R_drew)); exact (Kd.R_mono (Kd.R_far (p := ⟨gb247, 3, none⟩) (Kd.R_far (p := ⟨gb247, 2, none⟩) (Kd.R_far (p := ⟨gb247, 1, none⟩) (Kd.R_far (p := ⟨gb247, 0, none⟩) (Kd.R_types HO244.out BK247.out (by decide)) (fun _ hk => hk.2) (.string t240)) (fun _ hk => hk.2) (.int .i64 t241)) (fun _ hk => hk.2) (.slice Ao19 t242.length co19)) (fun _ hk => hk.2) (.int .i64 t245)) (fun _ h_ => h_.1))) (Kd.R_base ho0) hb); have n2_ := Aside0.mk (Kd.R_lower (Kd.R_new' ho0 (Kd.R_lt (by (with_reducible repeat (first | apply Kd.R_alloc | apply Kd.R_drewN | apply Kd.R_drew)); exact (Kd.R_mono (Kd.R_far (p := ⟨gb247, 3, none⟩) (Kd.R_far (p := ⟨gb247, 2, none⟩) (Kd.R_far (p := ⟨gb247, 1, none⟩) (Kd.R_far (p := ⟨gb247, 0, none⟩) (Kd.R_types HO244.out BK247.out (by decide)) (fun _ hk => hk.2) (.string t240)) (fun _ hk => hk.2) (.int .i64 t241)) (fun _ hk => hk.2) (.slice Ao19 t242.length co19)) (fun _ hk => hk.2) (.int .i64 t245)) (fun _ h_ => h_.1))))) (below_size (eG HB.out))); have n3_ := Aside0.mk (blk_below (g := gb247) (o := .cells #[.string t240, .int .i64 t241, .slice Ao19 t242.length co19, .int .i64 t245] 27 (0, 0)) (by (with_reducible repeat first | apply bN | apply bD | apply bA); refine blk_put (cs := #[.string t240, .int .i64 t241, .slice Ao19 t242.length co19, .int .i64 0]) ?_ 3 _ rfl; (with_reducible repeat first | apply bN | apply bD | apply bA); refine blk_put (cs := #[.string t240, .int .i64 t241, .slice none 0 0, .int .i64 0]) ?_ 2 _ rfl; (with_reducible repeat first | apply bN | apply bD | apply bA); refine blk_put (cs := #[.string t240, .int .i64 0, .slice none 0 0, .int .i64 0]) ?_ 1 _ rfl; (with_reducible repeat first | apply bN | apply bD | apply bA); refine blk_put (cs := #[.string (⟨#[]⟩ : ByteArray), .int .i64 0, .slice none 0 0, .int .i64 0]) ?_ 0 _ rfl; (with_reducible repeat first | apply bN | apply bD | apply bA); exact BK247.out) hb); have n4_ := Aside0.mk (below_step (eG HB.out) hb); clear HO239; clear HO244; clear BK247; clear HB; have HO239 := n0_; have HO244 := n1_; have HO252 := n2_; have BK247 := n3_; have HB := n4_; clear n0_ n1_ n2_ n3_ n4_; (try clear hb); (try clear hb2); (try clear hk); (try clear hi); (try clear ho0)) | ((with_reducible refine gate_dst (N := 7) rfl ?_); (try (refine gate_guard (by rfl) ?_; dsimp only)); refine box_event ?hg (N := 7) ?hd (cs := #[.string (⟨#[]⟩ : ByteArray), .int .i64 0, .slice none 0 0, .int .i64 0]) (t := 27) ?hr ?_; (case hd => rfl); (case hg => rfl); (case hr => first | (go_simp; done) | (go_simp; rfl)); intro gb255 hg w21 hbox hb; have n0_ := Aside0.mk (Kd.S_below (Kd.S_elderB (by (with_reducible repeat (first | apply Kd.S_alloc | apply Kd.S_drewN | apply Kd.S_drew)); exact HO239.out) gb255 (Nat.le_of_eq hg.symm)) hb); have n1_ := Aside0.mk (Kd.R_below (rG HO244.out) hb); have n2_ := Aside0.mk (Kd.R_below (rG HO252.out) hb); have n3_ := Aside0.mk (blk_below (bG BK247.out) hb); have n4_ := Aside0.mk (below_step (eG HB.out) hb); have n5_ := Aside0.mk (hbox); have n6_ := Aside0.mk ((by rw [hg]; exact (below_size (eG HB.out)) : w.heap.size ≤ gb255)); have n7_ := Aside0.mk ((by rw [hg]; exact (below_size (eG HB.out)) : w.heap.size ≤ gb255)); have n8_ := Aside0.mk ((by rw [hg]; exact Nat.ne_of_lt (blk_lt (bG BK247.out)) : gb247 ≠ gb255)); have n9_ := Aside0.mk ((by rw [hg]; exact Nat.ne_of_gt (blk_lt (bG BK247.out)) : gb255 ≠ gb247)); clear HO239; clear HO244; clear HO252; clear BK247; clear HB; have HO239 := n0_; have HO244 := n1_; have HO252 := n2_; have BK247 := n3_; have HB := n4_; have BK255 := n5_; have GW255 := n6_; have GE255 := n7_; have ig255_ := geI GE255; have NB247_255 := n8_; have NB255_247 := n9_; clear n0_ n1_ n2_ n3_ n4_ n5_ n6_ n7_ n8_ n9_; clear hb hbox hg; have hnb22 := NB255_247.out; have hnc22 := NB247_255.out; have hcz23_0 : w21.cell? ⟨gb255, 0, none⟩ = some (.string (⟨#[]⟩ : ByteArray)) := (blk_cell BK255.out 0).trans rfl; have hcz23_1 : w21.cell? ⟨gb255, 1, none⟩ = some (.int .i64 0) := (blk_cell BK255.out 1).trans rfl; have hcz23_2 : w21.cell? ⟨gb255, 2, none⟩ = some (.slice none 0 0) := (blk_cell BK255.out 2).trans rfl; have hcz23_3 : w21.cell? ⟨gb255, 3, none⟩ = some (.int .i64 0) := (blk_cell BK255.out 3).trans rfl; have hfz23_0 := blk_frozen BK255.out 0; have hfz23_1 := blk_frozen BK255.out 1; have hfz23_2 := blk_frozen BK255.out 2; have hfz23_3 := blk_frozen BK255.out 3; obtain ⟨Ao24, co24, eo24⟩ := Kd.R_slice HO252.out; subst eo24))
     (try simp only [Act.put, sIA, sC0, sCS])
     go_cut [54] (fun v54 wc => ∃ (kq : Nat) (x54_12 : Bool), v54 = .bool x54_12 ∧ Aside0 (spilelaw09_CaskChecks.j1 kq l0 x54_12 = some r) ∧ Aside0 (kq ≤ kj4) ∧ Aside0 (Kd.R k46 46 wc w.heap.size (fun k_ => some k_ ≠ ((.slice Ao24 t250.length co24) : Value).ownBlock) (.slice Ao19 t242.length co19) t242) ∧ Aside0 (Kd.R k46 46 wc w.heap.size (fun k_ => some k_ ≠ ((.slice Ao19 t242.length co19) : Value).ownBlock) (.slice Ao24 t250.length co24) t250) ∧ Aside0 (wc.heap[gb247]? = some (.cells #[.string t240, .int .i64 t241, (.slice Ao19 t242.length co19), .int .i64 t245] 27 (0, 0))) ∧ Aside0 (wc.heap[gb255]? = some (.cells #[.string t248, .int .i64 t249, (.slice Ao24 t250.length co24), .int .i64 t253] 27 (0, 0))) ∧ Aside0 (Below w.heap.size w wc))
     case first =>
      have H := HC13.out; clear HC13; replace H := Option.bind_eq_some_iff.mp H; obtain ⟨t256, A250, H⟩ := H; replace H : (if t256 = true then (if t246 = t254 then ((spileref09_Copy.f kj4 l0).bind fun t257 => ((cask_List.f kj4 t257).bind fun t260 => ((spileref09_List.f kj4 l0).bind fun t261 => (spilelaw09_CaskChecks.j1 kj4 l0 (t260 != t261))))) else (spilelaw09_CaskChecks.j1 kj4 l0 true)) else (spilelaw09_CaskChecks.j1 kj4 l0 true)) = some r := H; have A25 := Aside0.mk A250; clear A250; by_cases c26 : t256 = true
      ·
       subst c26; have H1 : (if t246 = t254 then ((spileref09_Copy.f kj4 l0).bind fun t257 => ((cask_List.f kj4 t257).bind fun t260 => ((spileref09_List.f kj4 l0).bind fun t261 => (spilelaw09_CaskChecks.j1 kj4 l0 (t260 != t261))))) else (spilelaw09_CaskChecks.j1 kj4 l0 true)) = some r := by rw [if_pos rfl] at H; exact H
       clear H; have H := H1; clear H1; by_cases c27 : t246 = t254
       ·
        rw [if_pos c27] at H; have c27b0 : (t246 == t254) = true := beq_iff_eq.mpr c27; have c27b1 : (t246 != t254) = false := bne_eq_false_iff_eq.mpr c27; clear c27; (first | rw [c27b0] | (simp only [i64_w, i32_w]; rw [c27b0]) | skip)
        replace H := Option.bind_eq_some_iff.mp H; obtain ⟨t257, A280, H⟩ := H; replace H : ((cask_List.f kj4 t257).bind fun t260 => ((spileref09_List.f kj4 l0).bind fun t261 => (spilelaw09_CaskChecks.j1 kj4 l0 (t260 != t261)))) = some r := H; have A28 := Aside0.mk A280; clear A280; replace H := Option.bind_eq_some_iff.mp H; obtain ⟨t260, A290, H⟩ := H; replace H : ((spileref09_List.f kj4 l0).bind fun t261 => (spilelaw09_CaskChecks.j1 kj4 l0 (t260 != t261))) = some r := H; have A29 := Aside0.mk A290; clear A290; replace H := Option.bind_eq_some_iff.mp H; obtain ⟨t261, A300, H⟩ := H; replace H : (spilelaw09_CaskChecks.j1 kj4 l0 (t260 != t261)) = some r := H; have A30 := Aside0.mk A300; clear A300; have H' := Aside0.mk H; clear H; have hnb31 := NB247_255.out; have hnc31 := NB255_247.out; have hcz32_0 : w21.cell? ⟨gb247, 0, none⟩ = some (.string t240) := (blk_cell BK247.out 0).trans rfl; have hcz32_1 : w21.cell? ⟨gb247, 1, none⟩ = some (.int .i64 t241) := (blk_cell BK247.out 1).trans rfl; have hcz32_2 : w21.cell? ⟨gb247, 2, none⟩ = some (.slice Ao19 t242.length co19) := (blk_cell BK247.out 2).trans rfl; have hcz32_3 : w21.cell? ⟨gb247, 3, none⟩ = some (.int .i64 t245) := (blk_cell BK247.out 3).trans rfl; have hfz32_0 := blk_frozen BK247.out 0; have hfz32_1 := blk_frozen BK247.out 1; have hfz32_2 := blk_frozen BK247.out 2; have hfz32_3 := blk_frozen BK247.out 3; have hcz33_0 : w21.cell? ⟨gb255, 0, none⟩ = some (.string (⟨#[]⟩ : ByteArray)) := (blk_cell BK255.out 0).trans rfl; have hcz33_1 : w21.cell? ⟨gb255, 1, none⟩ = some (.int .i64 0) := (blk_cell BK255.out 1).trans rfl; have hcz33_2 : w21.cell? ⟨gb255, 2, none⟩ = some (.slice none 0 0) := (blk_cell BK255.out 2).trans rfl; have hcz33_3 : w21.cell? ⟨gb255, 3, none⟩ = some (.int .i64 0) := (blk_cell BK255.out 3).trans rfl; have hfz33_0 := blk_frozen BK255.out 0; have hfz33_1 := blk_frozen BK255.out 1; have hfz33_2 := blk_frozen BK255.out 2; have hfz33_3 := blk_frozen BK255.out 3; go_wp2_with (first | ((with_reducible refine gate_callee (f := 15) rfl ?_); refine goesL_ (some 40) rfl rfl Tryd.func15 (by kernel_rfl) rfl #[.agg #[.string t240, .int .i64 t241, .slice Ao19 t242.length co19, .int .i64 t245], .agg #[.string t248, .int .i64 t249, .slice Ao24 t250.length co24, .int .i64 t253]] rfl (by (try simp only [List.map_toArray, List.map_cons, List.map_nil]); first | done | rfl | (simp only [List.length_drop, List.length_take]; rfl)) ?_; (with_reducible refine (spileref09_SameCask.calls kj4 t240 t241 _ _ t242 t245 t248 t249 _ _ t250 t253 true _ ?side1 ?side2 ?side3 ?side4 A25.out).mono ?_); (case side1 => refine (Kd.R_reads' (e := 46) (base := w.heap.size) (ok := fun k_ => (True ∧ some k_ ≠ (.slice Ao24 t250.length co24 : Value).ownBlock)) (n := t242.length) (c := co19) ?_).2.2; exact (by (with_reducible repeat (first | apply Kd.R_alloc | apply Kd.R_drewN | apply Kd.R_drew)); exact (Kd.R_mono (Kd.R_far (p := ⟨gb255, 3, none⟩) (Kd.R_far (p := ⟨gb255, 2, none⟩) (Kd.R_far (p := ⟨gb255, 1, none⟩) (Kd.R_far (p := ⟨gb255, 0, none⟩) (Kd.R_types HO244.out BK255.out (by decide)) (fun _ hk => hk.2) (.string t248)) (fun _ hk => hk.2) (.int .i64 t249)) (fun _ hk => hk.2) (.slice Ao24 t250.length co24)) (fun _ hk => hk.2) (.int .i64 t253)) (fun _ h_ => h_.1)))); (case side2 => exact (Kd.R_reads' HO244.out).2.1); (case side3 => refine (Kd.R_reads' (e := 46) (base := w.heap.size) (ok := fun k_ => (True ∧ some k_ ≠ (.slice Ao19 t242.length co19 : Value).ownBlock)) (n := t250.length) (c := co24) ?_).2.2; exact (by (with_reducible repeat (first | apply Kd.R_alloc | apply Kd.R_drewN | apply Kd.R_drew)); exact (Kd.R_mono (Kd.R_far (p := ⟨gb255, 3, none⟩) (Kd.R_far (p := ⟨gb255, 2, none⟩) (Kd.R_far (p := ⟨gb255, 1, none⟩) (Kd.R_far (p := ⟨gb255, 0, none⟩) (Kd.R_types HO252.out BK255.out (by decide)) (fun _ hk => hk.2) (.string t248)) (fun _ hk => hk.2) (.int .i64 t249)) (fun _ hk => hk.2) (.slice Ao24 t250.length co24)) (fun _ hk => hk.2) (.int .i64 t253)) (fun _ h_ => h_.1)))); (case side4 => exact (Kd.R_reads' HO252.out).2.1); rintro e w34 ⟨rfl, hb⟩; refine ⟨_, rfl, ?_⟩; have n0_ := Aside0.mk (Kd.S_below (by (with_reducible repeat (first | apply Kd.S_alloc | apply Kd.S_drewN | apply Kd.S_drew)); exact (Kd.S_mono (Kd.S_far (p := ⟨gb255, 3, none⟩) (Kd.S_far (p := ⟨gb255, 2, none⟩) (Kd.S_far (p := ⟨gb255, 1, none⟩) (Kd.S_far (p := ⟨gb255, 0, none⟩) (Kd.S_mono HO239.out (fun k_ hk => (⟨hk, hk.2⟩ : _ ∧ k_ ≠ gb255))) (fun _ hk => hk.2) (.string t248)) (fun _ hk => hk.2) (.int .i64 t249)) (fun _ hk => hk.2) (.slice Ao24 t250.length co24)) (fun _ hk => hk.2) (.int .i64 t253)) (fun _ h_ => h_.1))) hb); have n1_ := Aside0.mk (Kd.R_below (by (with_reducible repeat (first | apply Kd.R_alloc | apply Kd.R_drewN | apply Kd.R_drew)); exact (Kd.R_mono (Kd.R_far (p := ⟨gb255, 3, none⟩) (Kd.R_far (p := ⟨gb255, 2, none⟩) (Kd.R_far (p := ⟨gb255, 1, none⟩) (Kd.R_far (p := ⟨gb255, 0, none⟩) (Kd.R_types HO244.out BK255.out (by decide)) (fun _ hk => hk.2) (.string t248)) (fun _ hk => hk.2) (.int .i64 t249)) (fun _ hk => hk.2) (.slice Ao24 t250.length co24)) (fun _ hk => hk.2) (.int .i64 t253)) (fun _ h_ => h_.1))) hb); have n2_ := Aside0.mk (Kd.R_below (by (with_reducible repeat (first | apply Kd.R_alloc | apply Kd.R_drewN | apply Kd.R_drew)); exact (Kd.R_mono (Kd.R_far (p := ⟨gb255, 3, none⟩) (Kd.R_far (p := ⟨gb255, 2, none⟩) (Kd.R_far (p := ⟨gb255, 1, none⟩) (Kd.R_far (p := ⟨gb255, 0, none⟩) (Kd.R_types HO252.out BK255.out (by decide)) (fun _ hk => hk.2) (.string t248)) (fun _ hk => hk.2) (.int .i64 t249)) (fun _ hk => hk.2) (.slice Ao24 t250.length co24)) (fun _ hk => hk.2) (.int .i64 t253)) (fun _ h_ => h_.1))) hb); have n3_ := Aside0.mk (blk_below (g := gb247) (o := .cells #[.string t240, .int .i64 t241, .slice Ao19 t242.length co19, .int .i64 t245] 27 (0, 0)) (by (with_reducible repeat first | apply bN | apply bD | apply bA); refine blk_far ?_ NB247_255.out _; (with_reducible repeat first | apply bN | apply bD | apply bA); refine blk_far ?_ NB247_255.out _; (with_reducible repeat first | apply bN | apply bD | apply bA); refine blk_far ?_ NB247_255.out _; (with_reducible repeat first | apply bN | apply bD | apply bA); refine blk_far ?_ NB247_255.out _; (with_reducible repeat first | apply bN | apply bD | apply bA); exact BK247.out) hb); have n4_ := Aside0.mk (blk_below (g := gb255) (o := .cells #[.string t248, .int .i64 t249, .slice Ao24 t250.length co24, .int .i64 t253] 27 (0, 0)) (by (with_reducible repeat first | apply bN | apply bD | apply bA); refine blk_put (cs := #[.string t248, .int .i64 t249, .slice Ao24 t250.length co24, .int .i64 0]) ?_ 3 _ rfl; (with_reducible repeat first | apply bN | apply bD | apply bA); refine blk_put (cs := #[.string t248, .int .i64 t249, .slice none 0 0, .int .i64 0]) ?_ 2 _ rfl; (with_reducible repeat first | apply bN | apply bD | apply bA); refine blk_put (cs := #[.string t248, .int .i64 0, .slice none 0 0, .int .i64 0]) ?_ 1 _ rfl; (with_reducible repeat first | apply bN | apply bD | apply bA); refine blk_put (cs := #[.string (⟨#[]⟩ : ByteArray), .int .i64 0, .slice none 0 0, .int .i64 0]) ?_ 0 _ rfl; (with_reducible repeat first | apply bN | apply bD | apply bA); exact BK255.out) hb); have n5_ := Aside0.mk (below_step (eG HB.out) hb); clear HO239; clear HO244; clear HO252; clear BK247; clear BK255; clear HB; have HO239 := n0_; have HO244 := n1_; have HO252 := n2_; have BK247 := n3_; have BK255 := n4_; have HB := n5_; clear n0_ n1_ n2_ n3_ n4_ n5_; (try clear hb); (try clear hb2); (try clear hk); (try clear hi)) | (go_at_call 13; (with_reducible refine (spileref09_Copy.calls kj4 _ _ l0 t257 _ ?side1 ?side2 A28.out).mono ?_); (case side1 => repeat (first | exact (Kd.C_below HR0.out HB.out) | (with_reducible refine Kd.C_alloc ?_ _) | (with_reducible refine Kd.C_drewN ?_ _) | (with_reducible refine Kd.C_drew ?_))); (case side2 => exact HC0.out); rintro e w35 ⟨v258, rfl, ho0, hb⟩; have n0_ := Aside0.mk (Kd.S_elder' (by (with_reducible repeat (first | apply Kd.S_alloc | apply Kd.S_drewN | apply Kd.S_drew)); exact HO239.out) (Kd.S_base ho0) hb); have n1_ := Aside0.mk (Kd.R_below (rG HO244.out) hb); have n2_ := Aside0.mk (Kd.R_below (rG HO252.out) hb); have n3_ := Aside0.mk (Kd.S_lower (Kd.S_newB (Kd.S_newB (Kd.S_new' (Kd.S_new' (Kd.S_new' ho0 (Kd.S_lt (by (with_reducible repeat (first | apply Kd.S_alloc | apply Kd.S_drewN | apply Kd.S_drew)); exact HO239.out))) (Kd.R_lt (rG HO244.out))) (Kd.R_lt (rG HO252.out))) (bG BK247.out)) (bG BK255.out)) (below_size (eG HB.out))); have n4_ := Aside0.mk (blk_below (bG BK247.out) hb); have n5_ := Aside0.mk (blk_below (bG BK255.out) hb); have n6_ := Aside0.mk (below_step (eG HB.out) hb); clear HO239; clear HO244; clear HO252; clear BK247; clear BK255; clear HB; have HO239 := n0_; have HO244 := n1_; have HO252 := n2_; have HO259 := n3_; have BK247 := n4_; have BK255 := n5_; have HB := n6_; clear n0_ n1_ n2_ n3_ n4_ n5_ n6_; (try clear hb); (try clear hb2); (try clear hk); (try clear hi); (try clear ho0); obtain ⟨Ao36, co36, eo36⟩ := Kd.S_slice HO259.out; subst eo36) | (go_at_call 16; (with_reducible refine (cask_List.calls kj4 _ _ t257 t260 _ ?side1 ?side2 A29.out).mono ?_); (case side1 => repeat (first | exact (Kd.S_reads' HO259.out).2.2 | (with_reducible refine Kd.C_alloc ?_ _) | (with_reducible refine Kd.C_drewN ?_ _) | (with_reducible refine Kd.C_drew ?_))); (case side2 => exact (Kd.S_reads' HO259.out).2.1); rintro e w37 ⟨rfl, hb⟩; have n0_ := Aside0.mk (Kd.S_below (by (with_reducible repeat (first | apply Kd.S_alloc | apply Kd.S_drewN | apply Kd.S_drew)); exact HO239.out) hb); have n1_ := Aside0.mk (Kd.R_below (rG HO244.out) hb); have n2_ := Aside0.mk (Kd.R_below (rG HO252.out) hb); have n3_ := Aside0.mk (Kd.S_below (by (with_reducible repeat (first | apply Kd.S_alloc | apply Kd.S_drewN | apply Kd.S_drew)); exact HO259.out) hb); have n4_ := Aside0.mk (blk_below (bG BK247.out) hb); have n5_ := Aside0.mk (blk_below (bG BK255.out) hb); have n6_ := Aside0.mk (below_step (eG HB.out) hb); clear HO239; clear HO244; clear HO252; clear HO259; clear BK247; clear BK255; clear HB; have HO239 := n0_; have HO244 := n1_; have HO252 := n2_; have HO259 := n3_; have BK247 := n4_; have BK255 := n5_; have HB := n6_; clear n0_ n1_ n2_ n3_ n4_ n5_ n6_; (try clear hb); (try clear hb2); (try clear hk); (try clear hi)) | (go_at_call 17; (with_reducible refine (spileref09_List.calls kj4 _ _ l0 t261 _ ?side1 ?side2 A30.out).mono ?_); (case side1 => repeat (first | exact (Kd.C_below HR0.out HB.out) | (with_reducible refine Kd.C_alloc ?_ _) | (with_reducible refine Kd.C_drewN ?_ _) | (with_reducible refine Kd.C_drew ?_))); (case side2 => exact HC0.out); rintro e w38 ⟨rfl, hb⟩; have n0_ := Aside0.mk (Kd.S_below (by (with_reducible repeat (first | apply Kd.S_alloc | apply Kd.S_drewN | apply Kd.S_drew)); exact HO239.out) hb); have n1_ := Aside0.mk (Kd.R_below (rG HO244.out) hb); have n2_ := Aside0.mk (Kd.R_below (rG HO252.out) hb); have n3_ := Aside0.mk (Kd.S_below (by (with_reducible repeat (first | apply Kd.S_alloc | apply Kd.S_drewN | apply Kd.S_drew)); exact HO259.out) hb); have n4_ := Aside0.mk (blk_below (bG BK247.out) hb); have n5_ := Aside0.mk (blk_below (bG BK255.out) hb); have n6_ := Aside0.mk (below_step (eG HB.out) hb); clear HO239; clear HO244; clear HO252; clear HO259; clear BK247; clear BK255; clear HB; have HO239 := n0_; have HO244 := n1_; have HO252 := n2_; have HO259 := n3_; have BK247 := n4_; have BK255 := n5_; have HB := n6_; clear n0_ n1_ n2_ n3_ n4_ n5_ n6_; (try clear hb); (try clear hb2); (try clear hk); (try clear hi)))
        go_meet
        case rel => exact ⟨_, ((t260 != t261)), (by first | rfl | (simp; done) | (simp [*]; done)), H', ⟨by have := HJ4.out; first | omega | exact Nat.le_refl _⟩, ⟨by (with_reducible repeat (first | apply Kd.R_alloc | apply Kd.R_drewN | apply Kd.R_drew)); exact Kd.R_mono HO244.out (fun _ hk => hk.2)⟩, ⟨by (with_reducible repeat (first | apply Kd.R_alloc | apply Kd.R_drewN | apply Kd.R_drew)); exact Kd.R_mono HO252.out (fun _ hk => hk.2)⟩, ⟨by (with_reducible repeat first | apply bN | apply bD | apply bA); exact BK247.out⟩, ⟨by (with_reducible repeat first | apply bN | apply bD | apply bA); exact BK255.out⟩, ⟨eG HB.out⟩⟩
       ·
        rw [if_neg c27] at H; have c27b0 : (t246 == t254) = false := beq_eq_false_iff_ne.mpr c27; have c27b1 : (t246 != t254) = true := bne_iff_ne.mpr c27; (first | rw [c27b0] | (simp only [i64_w, i32_w]; rw [c27b0]) | skip)
        have H' := Aside0.mk H; clear H; have hnb39 := NB247_255.out; have hnc39 := NB255_247.out; have hcz40_0 : w21.cell? ⟨gb247, 0, none⟩ = some (.string t240) := (blk_cell BK247.out 0).trans rfl; have hcz40_1 : w21.cell? ⟨gb247, 1, none⟩ = some (.int .i64 t241) := (blk_cell BK247.out 1).trans rfl; have hcz40_2 : w21.cell? ⟨gb247, 2, none⟩ = some (.slice Ao19 t242.length co19) := (blk_cell BK247.out 2).trans rfl; have hcz40_3 : w21.cell? ⟨gb247, 3, none⟩ = some (.int .i64 t245) := (blk_cell BK247.out 3).trans rfl; have hfz40_0 := blk_frozen BK247.out 0; have hfz40_1 := blk_frozen BK247.out 1; have hfz40_2 := blk_frozen BK247.out 2; have hfz40_3 := blk_frozen BK247.out 3; have hcz41_0 : w21.cell? ⟨gb255, 0, none⟩ = some (.string (⟨#[]⟩ : ByteArray)) := (blk_cell BK255.out 0).trans rfl; have hcz41_1 : w21.cell? ⟨gb255, 1, none⟩ = some (.int .i64 0) := (blk_cell BK255.out 1).trans rfl; have hcz41_2 : w21.cell? ⟨gb255, 2, none⟩ = some (.slice none 0 0) := (blk_cell BK255.out 2).trans rfl; have hcz41_3 : w21.cell? ⟨gb255, 3, none⟩ = some (.int .i64 0) := (blk_cell BK255.out 3).trans rfl; have hfz41_0 := blk_frozen BK255.out 0; have hfz41_1 := blk_frozen BK255.out 1; have hfz41_2 := blk_frozen BK255.out 2; have hfz41_3 := blk_frozen BK255.out 3; go_wp2_with (first | ((with_reducible refine gate_callee (f := 15) rfl ?_); refine goesL_ (some 40) rfl rfl Tryd.func15 (by kernel_rfl) rfl #[.agg #[.string t240, .int .i64 t241, .slice Ao19 t242.length co19, .int .i64 t245], .agg #[.string t248, .int .i64 t249, .slice Ao24 t250.length co24, .int .i64 t253]] rfl (by (try simp only [List.map_toArray, List.map_cons, List.map_nil]); first | done | rfl | (simp only [List.length_drop, List.length_take]; rfl)) ?_; (with_reducible refine (spileref09_SameCask.calls kj4 t240 t241 _ _ t242 t245 t248 t249 _ _ t250 t253 true _ ?side1 ?side2 ?side3 ?side4 A25.out).mono ?_); (case side1 => refine (Kd.R_reads' (e := 46) (base := w.heap.size) (ok := fun k_ => (True ∧ some k_ ≠ (.slice Ao24 t250.length co24 : Value).ownBlock)) (n := t242.length) (c := co19) ?_).2.2; exact (by (with_reducible repeat (first | apply Kd.R_alloc | apply Kd.R_drewN | apply Kd.R_drew)); exact (Kd.R_mono (Kd.R_far (p := ⟨gb255, 3, none⟩) (Kd.R_far (p := ⟨gb255, 2, none⟩) (Kd.R_far (p := ⟨gb255, 1, none⟩) (Kd.R_far (p := ⟨gb255, 0, none⟩) (Kd.R_types HO244.out BK255.out (by decide)) (fun _ hk => hk.2) (.string t248)) (fun _ hk => hk.2) (.int .i64 t249)) (fun _ hk => hk.2) (.slice Ao24 t250.length co24)) (fun _ hk => hk.2) (.int .i64 t253)) (fun _ h_ => h_.1)))); (case side2 => exact (Kd.R_reads' HO244.out).2.1); (case side3 => refine (Kd.R_reads' (e := 46) (base := w.heap.size) (ok := fun k_ => (True ∧ some k_ ≠ (.slice Ao19 t242.length co19 : Value).ownBlock)) (n := t250.length) (c := co24) ?_).2.2; exact (by (with_reducible repeat (first | apply Kd.R_alloc | apply Kd.R_drewN | apply Kd.R_drew)); exact (Kd.R_mono (Kd.R_far (p := ⟨gb255, 3, none⟩) (Kd.R_far (p := ⟨gb255, 2, none⟩) (Kd.R_far (p := ⟨gb255, 1, none⟩) (Kd.R_far (p := ⟨gb255, 0, none⟩) (Kd.R_types HO252.out BK255.out (by decide)) (fun _ hk => hk.2) (.string t248)) (fun _ hk => hk.2) (.int .i64 t249)) (fun _ hk => hk.2) (.slice Ao24 t250.length co24)) (fun _ hk => hk.2) (.int .i64 t253)) (fun _ h_ => h_.1)))); (case side4 => exact (Kd.R_reads' HO252.out).2.1); rintro e w42 ⟨rfl, hb⟩; refine ⟨_, rfl, ?_⟩; have n0_ := Aside0.mk (Kd.S_below (by (with_reducible repeat (first | apply Kd.S_alloc | apply Kd.S_drewN | apply Kd.S_drew)); exact (Kd.S_mono (Kd.S_far (p := ⟨gb255, 3, none⟩) (Kd.S_far (p := ⟨gb255, 2, none⟩) (Kd.S_far (p := ⟨gb255, 1, none⟩) (Kd.S_far (p := ⟨gb255, 0, none⟩) (Kd.S_mono HO239.out (fun k_ hk => (⟨hk, hk.2⟩ : _ ∧ k_ ≠ gb255))) (fun _ hk => hk.2) (.string t248)) (fun _ hk => hk.2) (.int .i64 t249)) (fun _ hk => hk.2) (.slice Ao24 t250.length co24)) (fun _ hk => hk.2) (.int .i64 t253)) (fun _ h_ => h_.1))) hb); have n1_ := Aside0.mk (Kd.R_below (by (with_reducible repeat (first | apply Kd.R_alloc | apply Kd.R_drewN | apply Kd.R_drew)); exact (Kd.R_mono (Kd.R_far (p := ⟨gb255, 3, none⟩) (Kd.R_far (p := ⟨gb255, 2, none⟩) (Kd.R_far (p := ⟨gb255, 1, none⟩) (Kd.R_far (p := ⟨gb255, 0, none⟩) (Kd.R_types HO244.out BK255.out (by decide)) (fun _ hk => hk.2) (.string t248)) (fun _ hk => hk.2) (.int .i64 t249)) (fun _ hk => hk.2) (.slice Ao24 t250.length co24)) (fun _ hk => hk.2) (.int .i64 t253)) (fun _ h_ => h_.1))) hb); have n2_ := Aside0.mk (Kd.R_below (by (with_reducible repeat (first | apply Kd.R_alloc | apply Kd.R_drewN | apply Kd.R_drew)); exact (Kd.R_mono (Kd.R_far (p := ⟨gb255, 3, none⟩) (Kd.R_far (p := ⟨gb255, 2, none⟩) (Kd.R_far (p := ⟨gb255, 1, none⟩) (Kd.R_far (p := ⟨gb255, 0, none⟩) (Kd.R_types HO252.out BK255.out (by decide)) (fun _ hk => hk.2) (.string t248)) (fun _ hk => hk.2) (.int .i64 t249)) (fun _ hk => hk.2) (.slice Ao24 t250.length co24)) (fun _ hk => hk.2) (.int .i64 t253)) (fun _ h_ => h_.1))) hb); have n3_ := Aside0.mk (blk_below (g := gb247) (o := .cells #[.string t240, .int .i64 t241, .slice Ao19 t242.length co19, .int .i64 t245] 27 (0, 0)) (by (with_reducible repeat first | apply bN | apply bD | apply bA); refine blk_far ?_ NB247_255.out _; (with_reducible repeat first | apply bN | apply bD | apply bA); refine blk_far ?_ NB247_255.out _; (with_reducible repeat first | apply bN | apply bD | apply bA); refine blk_far ?_ NB247_255.out _; (with_reducible repeat first | apply bN | apply bD | apply bA); refine blk_far ?_ NB247_255.out _; (with_reducible repeat first | apply bN | apply bD | apply bA); exact BK247.out) hb); have n4_ := Aside0.mk (blk_below (g := gb255) (o := .cells #[.string t248, .int .i64 t249, .slice Ao24 t250.length co24, .int .i64 t253] 27 (0, 0)) (by (with_reducible repeat first | apply bN | apply bD | apply bA); refine blk_put (cs := #[.string t248, .int .i64 t249, .slice Ao24 t250.length co24, .int .i64 0]) ?_ 3 _ rfl; (with_reducible repeat first | apply bN | apply bD | apply bA); refine blk_put (cs := #[.string t248, .int .i64 t249, .slice none 0 0, .int .i64 0]) ?_ 2 _ rfl; (with_reducible repeat first | apply bN | apply bD | apply bA); refine blk_put (cs := #[.string t248, .int .i64 0, .slice none 0 0, .int .i64 0]) ?_ 1 _ rfl; (with_reducible repeat first | apply bN | apply bD | apply bA); refine blk_put (cs := #[.string (⟨#[]⟩ : ByteArray), .int .i64 0, .slice none 0 0, .int .i64 0]) ?_ 0 _ rfl; (with_reducible repeat first | apply bN | apply bD | apply bA); exact BK255.out) hb); have n5_ := Aside0.mk (below_step (eG HB.out) hb); clear HO239; clear HO244; clear HO252; clear BK247; clear BK255; clear HB; have HO239 := n0_; have HO244 := n1_; have HO252 := n2_; have BK247 := n3_; have BK255 := n4_; have HB := n5_; clear n0_ n1_ n2_ n3_ n4_ n5_; (try clear hb); (try clear hb2); (try clear hk); (try clear hi)))
        go_meet
        case rel => exact ⟨_, (true), (by first | rfl | (simp; done) | (simp [*]; done)), H', ⟨by have := HJ4.out; first | omega | exact Nat.le_refl _⟩, ⟨by (with_reducible repeat (first | apply Kd.R_alloc | apply Kd.R_drewN | apply Kd.R_drew)); exact Kd.R_mono HO244.out (fun _ hk => hk.2)⟩, ⟨by (with_reducible repeat (first | apply Kd.R_alloc | apply Kd.R_drewN | apply Kd.R_drew)); exact Kd.R_mono HO252.out (fun _ hk => hk.2)⟩, ⟨by (with_reducible repeat first | apply bN | apply bD | apply bA); exact BK247.out⟩, ⟨by (with_reducible repeat first | apply bN | apply bD | apply bA); exact BK255.out⟩, ⟨eG HB.out⟩⟩
      ·
       replace c26 := Bool.eq_false_iff.mpr c26; subst c26; have H1 : (spilelaw09_CaskChecks.j1 kj4 l0 true) = some r := by rw [if_neg (show ¬ (false = true) by decide)] at H; exact H
       clear H; have H := H1; clear H1; have H' := Aside0.mk H; clear H; have hnb43 := NB247_255.out; have hnc43 := NB255_247.out; have hcz44_0 : w21.cell? ⟨gb247, 0, none⟩ = some (.string t240) := (blk_cell BK247.out 0).trans rfl; have hcz44_1 : w21.cell? ⟨gb247, 1, none⟩ = some (.int .i64 t241) := (blk_cell BK247.out 1).trans rfl; have hcz44_2 : w21.cell? ⟨gb247, 2, none⟩ = some (.slice Ao19 t242.length co19) := (blk_cell BK247.out 2).trans rfl; have hcz44_3 : w21.cell? ⟨gb247, 3, none⟩ = some (.int .i64 t245) := (blk_cell BK247.out 3).trans rfl; have hfz44_0 := blk_frozen BK247.out 0; have hfz44_1 := blk_frozen BK247.out 1; have hfz44_2 := blk_frozen BK247.out 2; have hfz44_3 := blk_frozen BK247.out 3; have hcz45_0 : w21.cell? ⟨gb255, 0, none⟩ = some (.string (⟨#[]⟩ : ByteArray)) := (blk_cell BK255.out 0).trans rfl; have hcz45_1 : w21.cell? ⟨gb255, 1, none⟩ = some (.int .i64 0) := (blk_cell BK255.out 1).trans rfl; have hcz45_2 : w21.cell? ⟨gb255, 2, none⟩ = some (.slice none 0 0) := (blk_cell BK255.out 2).trans rfl; have hcz45_3 : w21.cell? ⟨gb255, 3, none⟩ = some (.int .i64 0) := (blk_cell BK255.out 3).trans rfl; have hfz45_0 := blk_frozen BK255.out 0; have hfz45_1 := blk_frozen BK255.out 1; have hfz45_2 := blk_frozen BK255.out 2; have hfz45_3 := blk_frozen BK255.out 3; go_wp2_with (first | ((with_reducible refine gate_callee (f := 15) rfl ?_); refine goesL_ (some 40) rfl rfl Tryd.func15 (by kernel_rfl) rfl #[.agg #[.string t240, .int .i64 t241, .slice Ao19 t242.length co19, .int .i64 t245], .agg #[.string t248, .int .i64 t249, .slice Ao24 t250.length co24, .int .i64 t253]] rfl (by (try simp only [List.map_toArray, List.map_cons, List.map_nil]); first | done | rfl | (simp only [List.length_drop, List.length_take]; rfl)) ?_; (with_reducible refine (spileref09_SameCask.calls kj4 t240 t241 _ _ t242 t245 t248 t249 _ _ t250 t253 false _ ?side1 ?side2 ?side3 ?side4 A25.out).mono ?_); (case side1 => refine (Kd.R_reads' (e := 46) (base := w.heap.size) (ok := fun k_ => (True ∧ some k_ ≠ (.slice Ao24 t250.length co24 : Value).ownBlock)) (n := t242.length) (c := co19) ?_).2.2; exact (by (with_reducible repeat (first | apply Kd.R_alloc | apply Kd.R_drewN | apply Kd.R_drew)); exact (Kd.R_mono (Kd.R_far (p := ⟨gb255, 3, none⟩) (Kd.R_far (p := ⟨gb255, 2, none⟩) (Kd.R_far (p := ⟨gb255, 1, none⟩) (Kd.R_far (p := ⟨gb255, 0, none⟩) (Kd.R_types HO244.out BK255.out (by decide)) (fun _ hk => hk.2) (.string t248)) (fun _ hk => hk.2) (.int .i64 t249)) (fun _ hk => hk.2) (.slice Ao24 t250.length co24)) (fun _ hk => hk.2) (.int .i64 t253)) (fun _ h_ => h_.1)))); (case side2 => exact (Kd.R_reads' HO244.out).2.1); (case side3 => refine (Kd.R_reads' (e := 46) (base := w.heap.size) (ok := fun k_ => (True ∧ some k_ ≠ (.slice Ao19 t242.length co19 : Value).ownBlock)) (n := t250.length) (c := co24) ?_).2.2; exact (by (with_reducible repeat (first | apply Kd.R_alloc | apply Kd.R_drewN | apply Kd.R_drew)); exact (Kd.R_mono (Kd.R_far (p := ⟨gb255, 3, none⟩) (Kd.R_far (p := ⟨gb255, 2, none⟩) (Kd.R_far (p := ⟨gb255, 1, none⟩) (Kd.R_far (p := ⟨gb255, 0, none⟩) (Kd.R_types HO252.out BK255.out (by decide)) (fun _ hk => hk.2) (.string t248)) (fun _ hk => hk.2) (.int .i64 t249)) (fun _ hk => hk.2) (.slice Ao24 t250.length co24)) (fun _ hk => hk.2) (.int .i64 t253)) (fun _ h_ => h_.1)))); (case side4 => exact (Kd.R_reads' HO252.out).2.1); rintro e w46 ⟨rfl, hb⟩; refine ⟨_, rfl, ?_⟩; have n0_ := Aside0.mk (Kd.S_below (by (with_reducible repeat (first | apply Kd.S_alloc | apply Kd.S_drewN | apply Kd.S_drew)); exact (Kd.S_mono (Kd.S_far (p := ⟨gb255, 3, none⟩) (Kd.S_far (p := ⟨gb255, 2, none⟩) (Kd.S_far (p := ⟨gb255, 1, none⟩) (Kd.S_far (p := ⟨gb255, 0, none⟩) (Kd.S_mono HO239.out (fun k_ hk => (⟨hk, hk.2⟩ : _ ∧ k_ ≠ gb255))) (fun _ hk => hk.2) (.string t248)) (fun _ hk => hk.2) (.int .i64 t249)) (fun _ hk => hk.2) (.slice Ao24 t250.length co24)) (fun _ hk => hk.2) (.int .i64 t253)) (fun _ h_ => h_.1))) hb); have n1_ := Aside0.mk (Kd.R_below (by (with_reducible repeat (first | apply Kd.R_alloc | apply Kd.R_drewN | apply Kd.R_drew)); exact (Kd.R_mono (Kd.R_far (p := ⟨gb255, 3, none⟩) (Kd.R_far (p := ⟨gb255, 2, none⟩) (Kd.R_far (p := ⟨gb255, 1, none⟩) (Kd.R_far (p := ⟨gb255, 0, none⟩) (Kd.R_types HO244.out BK255.out (by decide)) (fun _ hk => hk.2) (.string t248)) (fun _ hk => hk.2) (.int .i64 t249)) (fun _ hk => hk.2) (.slice Ao24 t250.length co24)) (fun _ hk => hk.2) (.int .i64 t253)) (fun _ h_ => h_.1))) hb); have n2_ := Aside0.mk (Kd.R_below (by (with_reducible repeat (first | apply Kd.R_alloc | apply Kd.R_drewN | apply Kd.R_drew)); exact (Kd.R_mono (Kd.R_far (p := ⟨gb255, 3, none⟩) (Kd.R_far (p := ⟨gb255, 2, none⟩) (Kd.R_far (p := ⟨gb255, 1, none⟩) (Kd.R_far (p := ⟨gb255, 0, none⟩) (Kd.R_types HO252.out BK255.out (by decide)) (fun _ hk => hk.2) (.string t248)) (fun _ hk => hk.2) (.int .i64 t249)) (fun _ hk => hk.2) (.slice Ao24 t250.length co24)) (fun _ hk => hk.2) (.int .i64 t253)) (fun _ h_ => h_.1))) hb); have n3_ := Aside0.mk (blk_below (g := gb247) (o := .cells #[.string t240, .int .i64 t241, .slice Ao19 t242.length co19, .int .i64 t245] 27 (0, 0)) (by (with_reducible repeat first | apply bN | apply bD | apply bA); refine blk_far ?_ NB247_255.out _; (with_reducible repeat first | apply bN | apply bD | apply bA); refine blk_far ?_ NB247_255.out _; (with_reducible repeat first | apply bN | apply bD | apply bA); refine blk_far ?_ NB247_255.out _; (with_reducible repeat first | apply bN | apply bD | apply bA); refine blk_far ?_ NB247_255.out _; (with_reducible repeat first | apply bN | apply bD | apply bA); exact BK247.out) hb); have n4_ := Aside0.mk (blk_below (g := gb255) (o := .cells #[.string t248, .int .i64 t249, .slice Ao24 t250.length co24, .int .i64 t253] 27 (0, 0)) (by (with_reducible repeat first | apply bN | apply bD | apply bA); refine blk_put (cs := #[.string t248, .int .i64 t249, .slice Ao24 t250.length co24, .int .i64 0]) ?_ 3 _ rfl; (with_reducible repeat first | apply bN | apply bD | apply bA); refine blk_put (cs := #[.string t248, .int .i64 t249, .slice none 0 0, .int .i64 0]) ?_ 2 _ rfl; (with_reducible repeat first | apply bN | apply bD | apply bA); refine blk_put (cs := #[.string t248, .int .i64 0, .slice none 0 0, .int .i64 0]) ?_ 1 _ rfl; (with_reducible repeat first | apply bN | apply bD | apply bA); refine blk_put (cs := #[.string (⟨#[]⟩ : ByteArray), .int .i64 0, .slice none 0 0, .int .i64 0]) ?_ 0 _ rfl; (with_reducible repeat first | apply bN | apply bD | apply bA); exact BK255.out) hb); have n5_ := Aside0.mk (below_step (eG HB.out) hb); clear HO239; clear HO244; clear HO252; clear BK247; clear BK255; clear HB; have HO239 := n0_; have HO244 := n1_; have HO252 := n2_; have BK247 := n3_; have BK255 := n4_; have HB := n5_; clear n0_ n1_ n2_ n3_ n4_ n5_; (try clear hb); (try clear hb2); (try clear hk); (try clear hi)))
       go_meet
       case rel => exact ⟨_, (true), (by first | rfl | (simp; done) | (simp [*]; done)), H', ⟨by have := HJ4.out; first | omega | exact Nat.le_refl _⟩, ⟨by (with_reducible repeat (first | apply Kd.R_alloc | apply Kd.R_drewN | apply Kd.R_drew)); exact Kd.R_mono HO244.out (fun _ hk => hk.2)⟩, ⟨by (with_reducible repeat (first | apply Kd.R_alloc | apply Kd.R_drewN | apply Kd.R_drew)); exact Kd.R_mono HO252.out (fun _ hk => hk.2)⟩, ⟨by (with_reducible repeat first | apply bN | apply bD | apply bA); exact BK247.out⟩, ⟨by (with_reducible repeat first | apply bN | apply bD | apply bA); exact BK255.out⟩, ⟨eG HB.out⟩⟩
     case rest =>
      clear HC13; try clear c1
      try clear c2
      try clear p2
      try clear c3
      try clear c4
      try clear c8
      try clear c9
      try clear c10
      try clear c11
      try clear c12
      try clear c13
      try clear c14
      try clear c15
      try clear c22
      try clear c26
      try clear c27
      try clear c27b0
      try clear c27b1
      try clear c31
      try clear c39
      try clear c43
      try clear hcz18_0
      try clear hcz18_1
      try clear hcz18_2
      try clear hcz18_3
      try clear hcz23_0
      try clear hcz23_1
      try clear hcz23_2
      try clear hcz23_3
      try clear hcz32_0
      try clear hcz32_1
      try clear hcz32_2
      try clear hcz32_3
      try clear hcz33_0
      try clear hcz33_1
      try clear hcz33_2
      try clear hcz33_3
      try clear hcz40_0
      try clear hcz40_1
      try clear hcz40_2
      try clear hcz40_3
      try clear hcz41_0
      try clear hcz41_1
      try clear hcz41_2
      try clear hcz41_3
      try clear hcz44_0
      try clear hcz44_1
      try clear hcz44_2
      try clear hcz44_3
      try clear hcz45_0
      try clear hcz45_1
      try clear hcz45_2
      try clear hcz45_3
      try clear hfz18_0
      try clear hfz18_1
      try clear hfz18_2
      try clear hfz18_3
      try clear hfz23_0
      try clear hfz23_1
      try clear hfz23_2
      try clear hfz23_3
      try clear hfz32_0
      try clear hfz32_1
      try clear hfz32_2
      try clear hfz32_3
      try clear hfz33_0
      try clear hfz33_1
      try clear hfz33_2
      try clear hfz33_3
      try clear hfz40_0
      try clear hfz40_1
      try clear hfz40_2
      try clear hfz40_3
      try clear hfz41_0
      try clear hfz41_1
      try clear hfz41_2
      try clear hfz41_3
      try clear hfz44_0
      try clear hfz44_1
      try clear hfz44_2
      try clear hfz44_3
      try clear hfz45_0
      try clear hfz45_1
      try clear hfz45_2
      try clear hfz45_3
      try clear p2
      obtain ⟨kq, x54_12, rfl, HA, HJ12, HO_248002, HO_256002, BK247, BK255, HB⟩ := hcut
      cases kq with
      | zero => exact absurd HA.out (by simp [spilelaw09_CaskChecks.j1])
      | succ kj12 =>
       have H := HA.out; clear HA; simp only [spilelaw09_CaskChecks.j1] at H; by_cases c47 : x54_12 = true
       ·
        subst c47; have H1 : (none) = some r := by rw [if_pos rfl] at H; exact H
        clear H; have H := H1; clear H1; subst hr_; exact absurd H (by simp)
       ·
        replace c47 := Bool.eq_false_iff.mpr c47; subst c47; have H1 : ((spileref09_Copy.f kj12 l0).bind fun t262 => (spilelaw09_CaskChecks.l0 kj12 t262 (t262.length : Int) 0)) = some r := by rw [if_neg (show ¬ (false = true) by decide)] at H; exact H
        clear H; have H := H1; clear H1; replace H := Option.bind_eq_some_iff.mp H; obtain ⟨t262, A480, H⟩ := H; replace H : (spilelaw09_CaskChecks.l0 kj12 t262 (t262.length : Int) 0) = some r := H; have A48 := Aside0.mk A480; clear A480; have H' := Aside0.mk H; clear H; go_wp2_with (first | ((with_reducible refine gate_callee (f := 13) rfl ?_); refine goesL_ (some 56) rfl rfl Tryd.func13 (by kernel_rfl) rfl #[.slice A0 l0.length c0] rfl (by (try simp only [List.map_toArray, List.map_cons, List.map_nil]); first | done | rfl | (simp only [List.length_drop, List.length_take]; rfl)) ?_; (with_reducible refine (spileref09_Copy.calls kj12 _ _ l0 t262 _ ?side1 ?side2 A48.out).mono ?_); (case side1 => repeat (first | exact (Kd.C_below HR0.out HB.out) | (with_reducible refine Kd.C_alloc ?_ _) | (with_reducible refine Kd.C_drewN ?_ _) | (with_reducible refine Kd.C_drew ?_))); (case side2 => exact HC0.out); rintro e w49 ⟨v263, rfl, ho0, hb⟩; refine ⟨_, rfl, ?_⟩; have n0_ := Aside0.mk (Kd.R_below (by (with_reducible repeat (first | apply Kd.R_alloc | apply Kd.R_drewN | apply Kd.R_drew)); exact HO_248002.out) hb); have n1_ := Aside0.mk (Kd.R_below (by (with_reducible repeat (first | apply Kd.R_alloc | apply Kd.R_drewN | apply Kd.R_drew)); exact HO_256002.out) hb); have n2_ := Aside0.mk (Kd.S_lower (Kd.S_newB (Kd.S_newB (Kd.S_new' (Kd.S_new' ho0 (Kd.R_lt (by (with_reducible repeat (first | apply Kd.R_alloc | apply Kd.R_drewN | apply Kd.R_drew)); exact HO_248002.out))) (Kd.R_lt (by (with_reducible repeat (first | apply Kd.R_alloc | apply Kd.R_drewN | apply Kd.R_drew)); exact HO_256002.out))) (bG BK247.out)) (bG BK255.out)) (below_size (eG HB.out))); have n3_ := Aside0.mk (blk_below (bG BK247.out) hb); have n4_ := Aside0.mk (blk_below (bG BK255.out) hb); have n5_ := Aside0.mk (below_step (eG HB.out) hb); clear HO_248002; clear HO_256002; clear BK247; clear BK255; clear HB; have HO_248002 := n0_; have HO_256002 := n1_; have HO264 := n2_; have BK247 := n3_; have BK255 := n4_; have HB := n5_; clear n0_ n1_ n2_ n3_ n4_ n5_; (try clear hb); (try clear hb2); (try clear hk); (try clear hi); (try clear ho0); obtain ⟨Ao50, co50, eo50⟩ := Kd.S_slice HO264.out; subst eo50))
        go_loopg [58] kj12 (fun kq v58 w' => ∃ (x58_3 : Int), v58 = .int .i64 x58_3 ∧ Aside0 (spilelaw09_CaskChecks.l0 kq t262 (t262.length : Int) x58_3 = some r) ∧ Aside0 (kq ≤ kj12) ∧ Aside0 (Kd.S k27 27 w' w.heap.size (fun k_ => some k_ ≠ ((.slice Ao19 t242.length co19) : Value).ownBlock ∧ some k_ ≠ ((.slice Ao24 t250.length co24) : Value).ownBlock ∧ k_ ≠ gb247 ∧ k_ ≠ gb255) (.slice Ao50 t262.length co50) t262) ∧ Aside0 (Kd.R k46 46 w' w.heap.size (fun k_ => some k_ ≠ ((.slice Ao24 t250.length co24) : Value).ownBlock) (.slice Ao19 t242.length co19) t242) ∧ Aside0 (Kd.R k46 46 w' w.heap.size (fun k_ => some k_ ≠ ((.slice Ao19 t242.length co19) : Value).ownBlock) (.slice Ao24 t250.length co24) t250) ∧ Aside0 (w'.heap[gb247]? = some (.cells #[.string t240, .int .i64 t241, (.slice Ao19 t242.length co19), .int .i64 t245] 27 (0, 0))) ∧ Aside0 (w'.heap[gb255]? = some (.cells #[.string t248, .int .i64 t249, (.slice Ao24 t250.length co24), .int .i64 t253] 27 (0, 0))) ∧ Aside0 (Below w.heap.size w w'))
        case atStart => exact ⟨(0), (by first | rfl | (simp; done) | (simp [*]; done)), H', ⟨Nat.le_refl _⟩, ⟨by (with_reducible repeat (first | apply Kd.S_alloc | apply Kd.S_drewN | apply Kd.S_drew)); exact Kd.S_mono HO264.out (fun _ hk => ⟨hk.1.1.1.2, ⟨hk.1.1.2, ⟨hk.1.2, hk.2⟩⟩⟩)⟩, ⟨by (with_reducible repeat (first | apply Kd.R_alloc | apply Kd.R_drewN | apply Kd.R_drew)); exact HO_248002.out⟩, ⟨by (with_reducible repeat (first | apply Kd.R_alloc | apply Kd.R_drewN | apply Kd.R_drew)); exact HO_256002.out⟩, ⟨by (with_reducible repeat first | apply bN | apply bD | apply bA); exact BK247.out⟩, ⟨by (with_reducible repeat first | apply bN | apply bD | apply bA); exact BK255.out⟩, ⟨eG HB.out⟩⟩
        case round =>
         clear H'; try clear c1
         try clear c2
         try clear p2
         try clear c3
         try clear c4
         try clear c8
         try clear c9
         try clear c10
         try clear c11
         try clear c12
         try clear c13
         try clear c14
         try clear c15
         try clear c22
         try clear c26
         try clear c27
         try clear c27b0
         try clear c27b1
         try clear c31
         try clear c39
         try clear c43
         try clear c47
         try clear hcz18_0
         try clear hcz18_1
         try clear hcz18_2
         try clear hcz18_3
         try clear hcz23_0
         try clear hcz23_1
         try clear hcz23_2
         try clear hcz23_3
         try clear hcz32_0
         try clear hcz32_1
         try clear hcz32_2
         try clear hcz32_3
         try clear hcz33_0
         try clear hcz33_1
         try clear hcz33_2
         try clear hcz33_3
         try clear hcz40_0
         try clear hcz40_1
         try clear hcz40_2
         try clear hcz40_3
         try clear hcz41_0
         try clear hcz41_1
         try clear hcz41_2
         try clear hcz41_3
         try clear hcz44_0
         try clear hcz44_1
         try clear hcz44_2
         try clear hcz44_3
         try clear hcz45_0
         try clear hcz45_1
         try clear hcz45_2
         try clear hcz45_3
         try clear hfz18_0
         try clear hfz18_1
         try clear hfz18_2
         try clear hfz18_3
         try clear hfz23_0
         try clear hfz23_1
         try clear hfz23_2
         try clear hfz23_3
         try clear hfz32_0
         try clear hfz32_1
         try clear hfz32_2
         try clear hfz32_3
         try clear hfz33_0
         try clear hfz33_1
         try clear hfz33_2
         try clear hfz33_3
         try clear hfz40_0
         try clear hfz40_1
         try clear hfz40_2
         try clear hfz40_3
         try clear hfz41_0
         try clear hfz41_1
         try clear hfz41_2
         try clear hfz41_3
         try clear hfz44_0
         try clear hfz44_1
         try clear hfz44_2
         try clear hfz44_3
         try clear hfz45_0
         try clear hfz45_1
         try clear hfz45_2
         try clear hfz45_3
         try clear p2
         obtain ⟨x58_3, rfl, HA, HK3, HO_56, HO_248002, HO_256002, BK247, BK255, HB⟩ := hrel
         cases gk with
         | zero => exact absurd HA.out (by simp [spilelaw09_CaskChecks.l0])
         | succ k3 =>
          have H := HA.out; clear HA; simp only [spilelaw09_CaskChecks.l0] at H; by_cases c51 : x58_3 < (t262.length : Int)
          ·
           rw [if_pos c51] at H; have c51b0 : decide (x58_3 < (t262.length : Int)) = true := decide_eq_true c51; clear c51; by_cases c52 : 0 ≤ x58_3
           ·
            rw [if_pos c52] at H; have c52b0 : decide (0 ≤ x58_3) = true := decide_eq_true c52; clear c52; by_cases c53 : x58_3 < (t262.length : Int)
            ·
             rw [if_pos c53] at H; have c53b0 : decide (x58_3 < (t262.length : Int)) = true := decide_eq_true c53; clear c53; replace H := Option.bind_eq_some_iff.mp H; obtain ⟨⟨t267, t268⟩, A540, H⟩ := H; replace H : ((spileref09_Depth.f k3 ((rd_T27 t262 x58_3).f0) ((rd_T27 t262 x58_3).f1) ((rd_T27 t262 x58_3).f2) ((rd_T27 t262 x58_3).f3)).bind fun bt269 => (if t267 = bt269.1 then (if t268 = bt269.2 then ((cask_Check.f k3 ((rd_T27 t262 x58_3).f0) ((rd_T27 t262 x58_3).f1) ((rd_T27 t262 x58_3).f2) ((rd_T27 t262 x58_3).f3)).bind fun t271 => ((spileref09_Check.f k3 ((rd_T27 t262 x58_3).f0) ((rd_T27 t262 x58_3).f1) ((rd_T27 t262 x58_3).f2) ((rd_T27 t262 x58_3).f3)).bind fun t272 => (if t271 = t272 then (spilelaw09_CaskChecks.l0 k3 t262 (t262.length : Int) (wrap64 (x58_3 + 1))) else (none)))) else (none)) else (none))) = some r := H; have A54 := Aside0.mk A540; clear A540; replace H := Option.bind_eq_some_iff.mp H; obtain ⟨⟨t269, t270⟩, A550, H⟩ := H; replace H : (if t267 = t269 then (if t268 = t270 then ((cask_Check.f k3 ((rd_T27 t262 x58_3).f0) ((rd_T27 t262 x58_3).f1) ((rd_T27 t262 x58_3).f2) ((rd_T27 t262 x58_3).f3)).bind fun t271 => ((spileref09_Check.f k3 ((rd_T27 t262 x58_3).f0) ((rd_T27 t262 x58_3).f1) ((rd_T27 t262 x58_3).f2) ((rd_T27 t262 x58_3).f3)).bind fun t272 => (if t271 = t272 then (spilelaw09_CaskChecks.l0 k3 t262 (t262.length : Int) (wrap64 (x58_3 + 1))) else (none)))) else (none)) else (none)) = some r := H; have A55 := Aside0.mk A550; clear A550; by_cases c56 : t267 = t269
             ·
              rw [if_pos c56] at H; have c56b0 : (t267 == t269) = true := beq_iff_eq.mpr c56; have c56b1 : (t267 != t269) = false := bne_eq_false_iff_eq.mpr c56; clear c56; by_cases c57 : t268 = t270
              ·
               rw [if_pos c57] at H; have c57b0 : (t268 == t270) = true := beq_iff_eq.mpr c57; have c57b1 : (t268 != t270) = false := bne_eq_false_iff_eq.mpr c57; clear c57; replace H := Option.bind_eq_some_iff.mp H; obtain ⟨t271, A580, H⟩ := H; replace H : ((spileref09_Check.f k3 ((rd_T27 t262 x58_3).f0) ((rd_T27 t262 x58_3).f1) ((rd_T27 t262 x58_3).f2) ((rd_T27 t262 x58_3).f3)).bind fun t272 => (if t271 = t272 then (spilelaw09_CaskChecks.l0 k3 t262 (t262.length : Int) (wrap64 (x58_3 + 1))) else (none))) = some r := H; have A58 := Aside0.mk A580; clear A580; replace H := Option.bind_eq_some_iff.mp H; obtain ⟨t272, A590, H⟩ := H; replace H : (if t271 = t272 then (spilelaw09_CaskChecks.l0 k3 t262 (t262.length : Int) (wrap64 (x58_3 + 1))) else (none)) = some r := H; have A59 := Aside0.mk A590; clear A590; by_cases c60 : t271 = t272
               ·
                rw [if_pos c60] at H; have c60b0 : (t271 == t272) = true := beq_iff_eq.mpr c60; have c60b1 : (t271 != t272) = false := bne_eq_false_iff_eq.mpr c60; clear c60; have H' := Aside0.mk H; clear H; have p265 : 0 ≤ (x58_3 : Int) := of_decide_eq_true (by first | (with_reducible assumption) | assumption); have q265 : x58_3 < (t262.length : Int) := of_decide_eq_true (by first | (with_reducible assumption) | assumption); obtain ⟨ad265, A265_2, c265_2, e265, hx265_0, hx265_1, hx265_2, hx265_3, hl265_2, hi265_2⟩ := at_T27 (Kd.S_reads' HO_56.out).2.2 x58_3 p265 q265; cases e265; obtain ⟨ce265, hce265, hMe265, hcc265⟩ := Kd.S_get HO_56.out z27 x58_3 p265 (by first | exact q265 | exact of_decide_eq_true (by first | (with_reducible assumption) | assumption) | (have e_ := (Kd.S_reads' HO_56.out).1; omega)); obtain ⟨ve265_2, rfl, ge265_2⟩ := k27_openM hMe265; have hv265_2 := hcc265 2 _ rfl; rw [add_field _ _ 2 (by omega)] at hv265_2; replace hv265_2 := Option.some.inj (hv265_2.symm.trans hx265_2); rw [hv265_2] at ge265_2; have HL265_2 := Aside0.mk (show Kd.R k46 46 _ _ _ _ ((rd_T27 t262 x58_3).f2) from ge265_2); clear hv265_2 ge265_2; clear hcc265 hce265; have HR265_2 := Aside0.mk hi265_2; have HC265_2 := Aside0.mk hl265_2; clear hi265_2 hl265_2; replace p265 := eq_true p265; replace q265 := eq_true q265; try go_wp2_with (first | ((with_reducible refine gate_dst (N := 10) rfl ?_); (try (refine gate_guard (by rfl) ?_; dsimp only)); refine box_event ?hg (N := 10) ?hd (cs := #[.string (⟨#[]⟩ : ByteArray), .int .i64 0, .slice none 0 0, .int .i64 0]) (t := 27) ?hr ?_; (case hd => rfl); (case hg => rfl); (case hr => first | (go_simp; done) | (go_simp; rfl)); intro gb266 hg w61 hbox hb; have n0_ := Aside0.mk (Kd.S_below (Kd.S_elderB (by (with_reducible repeat (first | apply Kd.S_alloc | apply Kd.S_drewN | apply Kd.S_drew)); exact HO_56.out) gb266 (Nat.le_of_eq hg.symm)) hb); have n1_ := Aside0.mk (Kd.R_below (by (with_reducible repeat (first | apply Kd.R_alloc | apply Kd.R_drewN | apply Kd.R_drew)); exact HO_248002.out) hb); have n2_ := Aside0.mk (Kd.R_below (by (with_reducible repeat (first | apply Kd.R_alloc | apply Kd.R_drewN | apply Kd.R_drew)); exact HO_256002.out) hb); have n3_ := Aside0.mk (Kd.R_below (by (with_reducible repeat (first | apply Kd.R_alloc | apply Kd.R_drewN | apply Kd.R_drew)); exact HL265_2.out) hb); have n4_ := Aside0.mk (blk_below (bG BK247.out) hb); have n5_ := Aside0.mk (blk_below (bG BK255.out) hb); have n6_ := Aside0.mk (Kd.C_below (by repeat (first | (with_reducible exact HR265_2.out) | (with_reducible refine Kd.C_alloc ?_ _) | (with_reducible refine Kd.C_drewN ?_ _) | (with_reducible refine Kd.C_drew ?_) | exact HR265_2.out)) hb); have n7_ := Aside0.mk (below_step (eG HB.out) hb); have n8_ := Aside0.mk (hbox); have n9_ := Aside0.mk ((by rw [hg]; exact (below_size (eG HB.out)) : w.heap.size ≤ gb266)); have n10_ := Aside0.mk ((by rw [hg]; exact (below_size (eG HB.out)) : w.heap.size ≤ gb266)); have n11_ := Aside0.mk ((by rw [hg]; exact Nat.ne_of_lt (blk_lt (bG BK247.out)) : gb247 ≠ gb266)); have n12_ := Aside0.mk ((by rw [hg]; exact Nat.ne_of_gt (blk_lt (bG BK247.out)) : gb266 ≠ gb247)); have n13_ := Aside0.mk ((by rw [hg]; exact Nat.ne_of_lt (blk_lt (bG BK255.out)) : gb255 ≠ gb266)); have n14_ := Aside0.mk ((by rw [hg]; exact Nat.ne_of_gt (blk_lt (bG BK255.out)) : gb266 ≠ gb255)); clear HO_56; clear HO_248002; clear HO_256002; clear HL265_2; clear BK247; clear BK255; clear HR265_2; clear HB; have HO_56 := n0_; have HO_248002 := n1_; have HO_256002 := n2_; have HL265_2 := n3_; have BK247 := n4_; have BK255 := n5_; have HR265_2 := n6_; have HB := n7_; have BK266 := n8_; have GW266 := n9_; have GE266 := n10_; have ig266_ := geI GE266; have NB247_266 := n11_; have NB266_247 := n12_; have NB255_266 := n13_; have NB266_255 := n14_; clear n0_ n1_ n2_ n3_ n4_ n5_ n6_ n7_ n8_ n9_ n10_ n11_ n12_ n13_ n14_; clear hb hbox hg; have hnb62 := NB266_247.out; have hnc62 := NB247_266.out; have hnb63 := NB266_255.out; have hnc63 := NB255_266.out; have hcz64_0 : w61.cell? ⟨gb266, 0, none⟩ = some (.string (⟨#[]⟩ : ByteArray)) := (blk_cell BK266.out 0).trans rfl; have hcz64_1 : w61.cell? ⟨gb266, 1, none⟩ = some (.int .i64 0) := (blk_cell BK266.out 1).trans rfl; have hcz64_2 : w61.cell? ⟨gb266, 2, none⟩ = some (.slice none 0 0) := (blk_cell BK266.out 2).trans rfl; have hcz64_3 : w61.cell? ⟨gb266, 3, none⟩ = some (.int .i64 0) := (blk_cell BK266.out 3).trans rfl; have hfz64_0 := blk_frozen BK266.out 0; have hfz64_1 := blk_frozen BK266.out 1; have hfz64_2 := blk_frozen BK266.out 2; have hfz64_3 := blk_frozen BK266.out 3) | ((with_reducible refine gate_callee (f := 18) rfl ?_); refine goesL_ (some 64) rfl rfl Tryd.func18 (by kernel_rfl) rfl #[.agg #[.string ((rd_T27 t262 x58_3).f0), .int .i64 ((rd_T27 t262 x58_3).f1), .slice A265_2 ((rd_T27 t262 x58_3).f2).length c265_2, .int .i64 ((rd_T27 t262 x58_3).f3)]] rfl (by (try simp only [List.map_toArray, List.map_cons, List.map_nil]); first | done | rfl | (simp only [List.length_drop, List.length_take]; rfl)) ?_; (with_reducible refine (cask_Depth.calls k3 ((rd_T27 t262 x58_3).f0) ((rd_T27 t262 x58_3).f1) _ _ ((rd_T27 t262 x58_3).f2) ((rd_T27 t262 x58_3).f3) t267 t268 _ ?side1 ?side2 A54.out).mono ?_); (case side1 => repeat (first | exact ((Kd.R_reads' (by (with_reducible repeat (first | apply Kd.R_alloc | apply Kd.R_drewN | apply Kd.R_drew)); exact (Kd.R_mono (Kd.R_far (p := ⟨gb266, 3, none⟩) (Kd.R_far (p := ⟨gb266, 2, none⟩) (Kd.R_far (p := ⟨gb266, 1, none⟩) (Kd.R_far (p := ⟨gb266, 0, none⟩) (Kd.R_types HL265_2.out BK266.out (by decide)) (fun _ hk => hk.2) (.string ((rd_T27 t262 x58_3).f0))) (fun _ hk => hk.2) (.int .i64 ((rd_T27 t262 x58_3).f1))) (fun _ hk => hk.2) (.slice A265_2 ((rd_T27 t262 x58_3).f2).length c265_2)) (fun _ hk => hk.2) (.int .i64 ((rd_T27 t262 x58_3).f3))) (fun _ h_ => h_.1)))).2.2) | (with_reducible refine Kd.C_alloc ?_ _) | (with_reducible refine Kd.C_drewN ?_ _) | (with_reducible refine Kd.C_drew ?_))); (case side2 => exact HC265_2.out); rintro e w65 ⟨rfl, hb⟩; refine ⟨_, rfl, ?_⟩; have n0_ := Aside0.mk (Kd.S_below (by (with_reducible repeat (first | apply Kd.S_alloc | apply Kd.S_drewN | apply Kd.S_drew)); exact (Kd.S_mono (Kd.S_far (p := ⟨gb266, 3, none⟩) (Kd.S_far (p := ⟨gb266, 2, none⟩) (Kd.S_far (p := ⟨gb266, 1, none⟩) (Kd.S_far (p := ⟨gb266, 0, none⟩) (Kd.S_mono HO_56.out (fun k_ hk => (⟨hk, hk.2⟩ : _ ∧ k_ ≠ gb266))) (fun _ hk => hk.2) (.string ((rd_T27 t262 x58_3).f0))) (fun _ hk => hk.2) (.int .i64 ((rd_T27 t262 x58_3).f1))) (fun _ hk => hk.2) (.slice A265_2 ((rd_T27 t262 x58_3).f2).length c265_2)) (fun _ hk => hk.2) (.int .i64 ((rd_T27 t262 x58_3).f3))) (fun _ h_ => h_.1))) hb); have n1_ := Aside0.mk (Kd.R_below (by (with_reducible repeat (first | apply Kd.R_alloc | apply Kd.R_drewN | apply Kd.R_drew)); exact (Kd.R_mono (Kd.R_far (p := ⟨gb266, 3, none⟩) (Kd.R_far (p := ⟨gb266, 2, none⟩) (Kd.R_far (p := ⟨gb266, 1, none⟩) (Kd.R_far (p := ⟨gb266, 0, none⟩) (Kd.R_types HO_248002.out BK266.out (by decide)) (fun _ hk => hk.2) (.string ((rd_T27 t262 x58_3).f0))) (fun _ hk => hk.2) (.int .i64 ((rd_T27 t262 x58_3).f1))) (fun _ hk => hk.2) (.slice A265_2 ((rd_T27 t262 x58_3).f2).length c265_2)) (fun _ hk => hk.2) (.int .i64 ((rd_T27 t262 x58_3).f3))) (fun _ h_ => h_.1))) hb); have n2_ := Aside0.mk (Kd.R_below (by (with_reducible repeat (first | apply Kd.R_alloc | apply Kd.R_drewN | apply Kd.R_drew)); exact (Kd.R_mono (Kd.R_far (p := ⟨gb266, 3, none⟩) (Kd.R_far (p := ⟨gb266, 2, none⟩) (Kd.R_far (p := ⟨gb266, 1, none⟩) (Kd.R_far (p := ⟨gb266, 0, none⟩) (Kd.R_types HO_256002.out BK266.out (by decide)) (fun _ hk => hk.2) (.string ((rd_T27 t262 x58_3).f0))) (fun _ hk => hk.2) (.int .i64 ((rd_T27 t262 x58_3).f1))) (fun _ hk => hk.2) (.slice A265_2 ((rd_T27 t262 x58_3).f2).length c265_2)) (fun _ hk => hk.2) (.int .i64 ((rd_T27 t262 x58_3).f3))) (fun _ h_ => h_.1))) hb); have n3_ := Aside0.mk (Kd.R_below (by (with_reducible repeat (first | apply Kd.R_alloc | apply Kd.R_drewN | apply Kd.R_drew)); exact (Kd.R_mono (Kd.R_far (p := ⟨gb266, 3, none⟩) (Kd.R_far (p := ⟨gb266, 2, none⟩) (Kd.R_far (p := ⟨gb266, 1, none⟩) (Kd.R_far (p := ⟨gb266, 0, none⟩) (Kd.R_types HL265_2.out BK266.out (by decide)) (fun _ hk => hk.2) (.string ((rd_T27 t262 x58_3).f0))) (fun _ hk => hk.2) (.int .i64 ((rd_T27 t262 x58_3).f1))) (fun _ hk => hk.2) (.slice A265_2 ((rd_T27 t262 x58_3).f2).length c265_2)) (fun _ hk => hk.2) (.int .i64 ((rd_T27 t262 x58_3).f3))) (fun _ h_ => h_.1))) hb); have n4_ := Aside0.mk (blk_below (g := gb247) (o := .cells #[.string t240, .int .i64 t241, .slice Ao19 t242.length co19, .int .i64 t245] 27 (0, 0)) (by (with_reducible repeat first | apply bN | apply bD | apply bA); refine blk_far ?_ NB247_266.out _; (with_reducible repeat first | apply bN | apply bD | apply bA); refine blk_far ?_ NB247_266.out _; (with_reducible repeat first | apply bN | apply bD | apply bA); refine blk_far ?_ NB247_266.out _; (with_reducible repeat first | apply bN | apply bD | apply bA); refine blk_far ?_ NB247_266.out _; (with_reducible repeat first | apply bN | apply bD | apply bA); exact BK247.out) hb); have n5_ := Aside0.mk (blk_below (g := gb255) (o := .cells #[.string t248, .int .i64 t249, .slice Ao24 t250.length co24, .int .i64 t253] 27 (0, 0)) (by (with_reducible repeat first | apply bN | apply bD | apply bA); refine blk_far ?_ NB255_266.out _; (with_reducible repeat first | apply bN | apply bD | apply bA); refine blk_far ?_ NB255_266.out _; (with_reducible repeat first | apply bN | apply bD | apply bA); refine blk_far ?_ NB255_266.out _; (with_reducible repeat first | apply bN | apply bD | apply bA); refine blk_far ?_ NB255_266.out _; (with_reducible repeat first | apply bN | apply bD | apply bA); exact BK255.out) hb); have n6_ := Aside0.mk (Kd.C_below ((Kd.R_reads' (by (with_reducible repeat (first | apply Kd.R_alloc | apply Kd.R_drewN | apply Kd.R_drew)); exact (Kd.R_mono (Kd.R_far (p := ⟨gb266, 3, none⟩) (Kd.R_far (p := ⟨gb266, 2, none⟩) (Kd.R_far (p := ⟨gb266, 1, none⟩) (Kd.R_far (p := ⟨gb266, 0, none⟩) (Kd.R_types HL265_2.out BK266.out (by decide)) (fun _ hk => hk.2) (.string ((rd_T27 t262 x58_3).f0))) (fun _ hk => hk.2) (.int .i64 ((rd_T27 t262 x58_3).f1))) (fun _ hk => hk.2) (.slice A265_2 ((rd_T27 t262 x58_3).f2).length c265_2)) (fun _ hk => hk.2) (.int .i64 ((rd_T27 t262 x58_3).f3))) (fun _ h_ => h_.1)))).2.2) hb); have n7_ := Aside0.mk (blk_below (g := gb266) (o := .cells #[.string ((rd_T27 t262 x58_3).f0), .int .i64 ((rd_T27 t262 x58_3).f1), .slice A265_2 ((rd_T27 t262 x58_3).f2).length c265_2, .int .i64 ((rd_T27 t262 x58_3).f3)] 27 (0, 0)) (by (with_reducible repeat first | apply bN | apply bD | apply bA); refine blk_put (cs := #[.string ((rd_T27 t262 x58_3).f0), .int .i64 ((rd_T27 t262 x58_3).f1), .slice A265_2 ((rd_T27 t262 x58_3).f2).length c265_2, .int .i64 0]) ?_ 3 _ rfl; (with_reducible repeat first | apply bN | apply bD | apply bA); refine blk_put (cs := #[.string ((rd_T27 t262 x58_3).f0), .int .i64 ((rd_T27 t262 x58_3).f1), .slice none 0 0, .int .i64 0]) ?_ 2 _ rfl; (with_reducible repeat first | apply bN | apply bD | apply bA); refine blk_put (cs := #[.string ((rd_T27 t262 x58_3).f0), .int .i64 0, .slice none 0 0, .int .i64 0]) ?_ 1 _ rfl; (with_reducible repeat first | apply bN | apply bD | apply bA); refine blk_put (cs := #[.string (⟨#[]⟩ : ByteArray), .int .i64 0, .slice none 0 0, .int .i64 0]) ?_ 0 _ rfl; (with_reducible repeat first | apply bN | apply bD | apply bA); exact BK266.out) hb); have n8_ := Aside0.mk (below_step (eG HB.out) hb); clear HO_56; clear HO_248002; clear HO_256002; clear HL265_2; clear BK247; clear BK255; clear HR265_2; clear BK266; clear HB; have HO_56 := n0_; have HO_248002 := n1_; have HO_256002 := n2_; have HL265_2 := n3_; have BK247 := n4_; have BK255 := n5_; have HR265_2 := n6_; have BK266 := n7_; have HB := n8_; clear n0_ n1_ n2_ n3_ n4_ n5_ n6_ n7_ n8_; (try clear hb); (try clear hb2); (try clear hk); (try clear hi); have hcz66_0 : w65.cell? ⟨gb266, 0, none⟩ = some (.string ((rd_T27 t262 x58_3).f0)) := (blk_cell BK266.out 0).trans rfl; have hcz66_1 : w65.cell? ⟨gb266, 1, none⟩ = some (.int .i64 ((rd_T27 t262 x58_3).f1)) := (blk_cell BK266.out 1).trans rfl; have hcz66_2 : w65.cell? ⟨gb266, 2, none⟩ = some (.slice A265_2 ((rd_T27 t262 x58_3).f2).length c265_2) := (blk_cell BK266.out 2).trans rfl; have hcz66_3 : w65.cell? ⟨gb266, 3, none⟩ = some (.int .i64 ((rd_T27 t262 x58_3).f3)) := (blk_cell BK266.out 3).trans rfl; have hfz66_0 := blk_frozen BK266.out 0; have hfz66_1 := blk_frozen BK266.out 1; have hfz66_2 := blk_frozen BK266.out 2; have hfz66_3 := blk_frozen BK266.out 3) | ((with_reducible refine gate_callee (f := 19) rfl ?_); refine goesL_ (some 69) rfl rfl Tryd.func19 (by kernel_rfl) rfl #[.agg #[.string ((rd_T27 t262 x58_3).f0), .int .i64 ((rd_T27 t262 x58_3).f1), .slice A265_2 ((rd_T27 t262 x58_3).f2).length c265_2, .int .i64 ((rd_T27 t262 x58_3).f3)]] rfl (by (try simp only [List.map_toArray, List.map_cons, List.map_nil]); first | done | rfl | (simp only [List.length_drop, List.length_take]; rfl)) ?_; (with_reducible refine (spileref09_Depth.calls k3 ((rd_T27 t262 x58_3).f0) ((rd_T27 t262 x58_3).f1) _ _ ((rd_T27 t262 x58_3).f2) ((rd_T27 t262 x58_3).f3) t269 t270 _ ?side1 ?side2 A55.out).mono ?_); (case side1 => repeat (first | exact (by repeat (first | (with_reducible exact HR265_2.out) | (with_reducible refine Kd.C_alloc ?_ _) | (with_reducible refine Kd.C_drewN ?_ _) | (with_reducible refine Kd.C_drew ?_) | exact HR265_2.out)) | (with_reducible refine Kd.C_alloc ?_ _) | (with_reducible refine Kd.C_drewN ?_ _) | (with_reducible refine Kd.C_drew ?_))); (case side2 => exact HC265_2.out); rintro e w67 ⟨rfl, hb⟩; refine ⟨_, rfl, ?_⟩; have n0_ := Aside0.mk (Kd.S_below (by (with_reducible repeat (first | apply Kd.S_alloc | apply Kd.S_drewN | apply Kd.S_drew)); exact HO_56.out) hb); have n1_ := Aside0.mk (Kd.R_below (by (with_reducible repeat (first | apply Kd.R_alloc | apply Kd.R_drewN | apply Kd.R_drew)); exact HO_248002.out) hb); have n2_ := Aside0.mk (Kd.R_below (by (with_reducible repeat (first | apply Kd.R_alloc | apply Kd.R_drewN | apply Kd.R_drew)); exact HO_256002.out) hb); have n3_ := Aside0.mk (Kd.R_below (by (with_reducible repeat (first | apply Kd.R_alloc | apply Kd.R_drewN | apply Kd.R_drew)); exact HL265_2.out) hb); have n4_ := Aside0.mk (blk_below (bG BK247.out) hb); have n5_ := Aside0.mk (blk_below (bG BK255.out) hb); have n6_ := Aside0.mk (Kd.C_below (by repeat (first | (with_reducible exact HR265_2.out) | (with_reducible refine Kd.C_alloc ?_ _) | (with_reducible refine Kd.C_drewN ?_ _) | (with_reducible refine Kd.C_drew ?_) | exact HR265_2.out)) hb); have n7_ := Aside0.mk (blk_below (bG BK266.out) hb); have n8_ := Aside0.mk (below_step (eG HB.out) hb); clear HO_56; clear HO_248002; clear HO_256002; clear HL265_2; clear BK247; clear BK255; clear HR265_2; clear BK266; clear HB; have HO_56 := n0_; have HO_248002 := n1_; have HO_256002 := n2_; have HL265_2 := n3_; have BK247 := n4_; have BK255 := n5_; have HR265_2 := n6_; have BK266 := n7_; have HB := n8_; clear n0_ n1_ n2_ n3_ n4_ n5_ n6_ n7_ n8_; (try clear hb); (try clear hb2); (try clear hk); (try clear hi)))
                have n0_ := Aside0.mk (Kd.S_drew HO_56.out); have n1_ := Aside0.mk (Kd.R_drew HO_248002.out); have n2_ := Aside0.mk (Kd.R_drew HO_256002.out); have n3_ := Aside0.mk (Kd.R_drew HL265_2.out); have n4_ := Aside0.mk (blk_drew BK247.out); have n5_ := Aside0.mk (blk_drew BK255.out); have n6_ := Aside0.mk (blk_drew BK266.out); have n7_ := Aside0.mk (Kd.C_drew HR265_2.out); have n8_ := Aside0.mk (below_drew1 HB.out); clear HO_56; clear HO_248002; clear HO_256002; clear HL265_2; clear BK247; clear BK255; clear BK266; clear HR265_2; clear HB; have HO_56 := n0_; have HO_248002 := n1_; have HO_256002 := n2_; have HL265_2 := n3_; have BK247 := n4_; have BK255 := n5_; have BK266 := n6_; have HR265_2 := n7_; have HB := n8_; clear n0_ n1_ n2_ n3_ n4_ n5_ n6_ n7_ n8_; refine start_ (n := 15) (S := fun w' => w'.cell? ⟨gb266, 0, none⟩ = some (.string ((rd_T27 t262 x58_3).f0)) ∧ w'.cell? ⟨gb266, 1, none⟩ = some (.int .i64 ((rd_T27 t262 x58_3).f1)) ∧ w'.cell? ⟨gb266, 2, none⟩ = some (.slice A265_2 ((rd_T27 t262 x58_3).f2).length c265_2) ∧ w'.cell? ⟨gb266, 3, none⟩ = some (.int .i64 ((rd_T27 t262 x58_3).f3))) (ds := []) #[false, false, false, false, false, false, false, false, false, false, false, false, false, false, false] (by kernel_rfl) rfl rfl ⟨(blk_cell BK266.out 0).trans rfl, (blk_cell BK266.out 1).trans rfl, (blk_cell BK266.out 2).trans rfl, (blk_cell BK266.out 3).trans rfl⟩ (fun hHeld => ?_); refine with_tabW spilelaw09_CaskChecks.tab14 spilelaw09_CaskChecks.bits14 (fun HT_ HW_ => ?_)
                generalize w67.drew = w68 at HO_56 HO_248002 HO_256002 HL265_2 BK247 BK255 BK266 HR265_2 HB hHeld ⊢; refine pure_ (i := 0) (N := some 72) (v := ?_) (a' := ?_) #[true, false, false, false, false, false, false, false, false, false, false, false, false, false, false] rfl rfl (any_of HT_.out (by kernel_rfl)) (fun _ _ _ h => h) (Or.inl ⟨by rfl, ?_⟩) ?_ ?_; rotate_left
                · intro w'; go_simp; with_reducible rfl
                rotate_left
                · simp only [Act.put, sIA, sC0, sCS, i64_w, i32_w]; rfl
                refine pure_ (i := 1) (N := some 73) (v := ?_) (a' := ?_) #[true, true, false, false, false, false, false, false, false, false, false, false, false, false, false] rfl rfl (any_of HT_.out (by kernel_rfl)) (fun _ _ _ h => h) (Or.inl ⟨by rfl, ?_⟩) ?_ ?_; rotate_left
                · intro w'; go_simp; with_reducible rfl
                rotate_left
                · simp only [Act.put, sIA, sC0, sCS, i64_w, i32_w]; rfl
                refine pure_ (i := 2) (N := some 74) (v := ?_) (a' := ?_) #[true, true, true, false, false, false, false, false, false, false, false, false, false, false, false] rfl rfl (any_of HT_.out (by kernel_rfl)) (fun _ _ _ h => h) (Or.inl ⟨by rfl, ?_⟩) ?_ ?_; rotate_left
                · intro w'; go_simp; with_reducible rfl
                rotate_left
                · simp only [Act.put, sIA, sC0, sCS, i64_w, i32_w]; rfl
                refine pure_ (i := 3) (N := some 75) (v := ?_) (a' := ?_) #[true, true, true, true, false, false, false, false, false, false, false, false, false, false, false] rfl rfl (any_of HT_.out (by kernel_rfl)) (fun _ _ _ h => h) (Or.inl ⟨by rfl, ?_⟩) ?_ ?_; rotate_left
                · intro w'; go_simp; with_reducible rfl
                rotate_left
                · simp only [Act.put, sIA, sC0, sCS, i64_w, i32_w]; rfl
                refine pure_ (i := 4) (N := some 76) (v := ?_) (a' := ?_) #[true, true, true, true, true, false, false, false, false, false, false, false, false, false, false] rfl rfl (any_of HT_.out (by kernel_rfl)) (fun _ _ _ h => h) (Or.inl ⟨by rfl, ?_⟩) ?_ ?_; rotate_left
                · intro w'; go_simp; with_reducible rfl
                rotate_left
                · simp only [Act.put, sIA, sC0, sCS, i64_w, i32_w]; rfl
                refine pure_ (i := 5) (N := some 77) (v := ?_) (a' := ?_) #[true, true, true, true, true, true, false, false, false, false, false, false, false, false, false] rfl rfl (any_of HT_.out (by kernel_rfl)) (fun _ _ _ h => h) (Or.inl ⟨by rfl, ?_⟩) ?_ ?_; rotate_left
                · intro w'; go_simp; with_reducible rfl
                rotate_left
                · simp only [Act.put, sIA, sC0, sCS, i64_w, i32_w]; rfl
                refine pure_ (i := 6) (N := some 78) (v := ?_) (a' := ?_) #[true, true, true, true, true, true, true, false, false, false, false, false, false, false, false] rfl rfl (any_of HT_.out (by kernel_rfl)) (fun _ _ _ h => h) (Or.inl ⟨by rfl, ?_⟩) ?_ ?_; rotate_left
                · intro w'; go_simp; with_reducible rfl
                rotate_left
                · simp only [Act.put, sIA, sC0, sCS, i64_w, i32_w]; rfl
                refine pure_ (i := 7) (N := some 79) (v := ?_) (a' := ?_) #[true, true, true, true, true, true, true, true, false, false, false, false, false, false, false] rfl rfl (any_of HT_.out (by kernel_rfl)) (fun _ _ _ h => h) (Or.inl ⟨by rfl, ?_⟩) ?_ ?_; rotate_left
                · intro w'; go_simp; with_reducible rfl
                rotate_left
                · simp only [Act.put, sIA, sC0, sCS, i64_w, i32_w]; rfl
                refine pure_ (i := 8) (N := some 80) (v := ?_) (a' := ?_) #[true, true, true, true, true, true, true, true, true, false, false, false, false, false, false] rfl rfl (any_of HT_.out (by kernel_rfl)) (fun _ _ _ h => h) (Or.inl ⟨by rfl, ?_⟩) ?_ ?_; rotate_left
                · intro w'; go_simp; with_reducible rfl
                rotate_left
                · simp only [Act.put, sIA, sC0, sCS, i64_w, i32_w]; rfl
                refine take_ (i := 9) (N := some 81) (v := ?_) (a' := ?_) #[true, true, true, true, true, true, true, true, true, true, false, false, false, false, false] rfl rfl (take_ofW HT_.out HW_.out (by kernel_rfl)) (fun _ _ _ h => h) (Or.inl ⟨by rfl, ?_⟩) hHeld ?_ ?_; rotate_left
                · rintro w' ⟨s0, s1, s2, s3⟩; go_simp; with_reducible rfl
                rotate_left
                · simp only [Act.put, sIA, sC0, sCS, i64_w, i32_w]; rfl
                refine take_ (i := 11) (N := some 83) (v := ?_) (a' := ?_) #[true, true, true, true, true, true, true, true, true, true, false, true, false, false, false] rfl rfl (take_ofW HT_.out HW_.out (by kernel_rfl)) (fun _ _ _ h => h) (Or.inl ⟨by rfl, ?_⟩) hHeld ?_ ?_; rotate_left
                · rintro w' ⟨s0, s1, s2, s3⟩; go_simp; with_reducible rfl
                rotate_left
                · simp only [Act.put, sIA, sC0, sCS, i64_w, i32_w]; rfl
                refine one_ (i := 10) (N := some 82) #[true, true, true, true, true, true, true, true, true, true, true, true, false, false, false] rfl rfl (one_of HT_.out (by kernel_rfl)) (by decide) (fun K hK => ?_); refine goes_ Tryd.func20 (by kernel_rfl) rfl #[.agg #[.string ((rd_T27 t262 x58_3).f0), .int .i64 ((rd_T27 t262 x58_3).f1), .slice A265_2 ((rd_T27 t262 x58_3).f2).length c265_2, .int .i64 ((rd_T27 t262 x58_3).f3)]] (by rfl) rfl rfl (by (try simp only [List.map_toArray, List.map_cons, List.map_nil]); first | done | rfl | (simp only [List.length_drop, List.length_take]; rfl)) ?_; with_reducible refine (cask_Check.calls k3 ((rd_T27 t262 x58_3).f0) ((rd_T27 t262 x58_3).f1) _ _ ((rd_T27 t262 x58_3).f2) ((rd_T27 t262 x58_3).f3) t271 _ ?side1 ?side2 A58.out).mono ?_
                (case side1 => repeat (first | exact (by repeat (first | (with_reducible exact HR265_2.out) | (with_reducible refine Kd.C_alloc ?_ _) | (with_reducible refine Kd.C_drewN ?_ _) | (with_reducible refine Kd.C_drew ?_) | exact HR265_2.out)) | (with_reducible refine Kd.C_alloc ?_ _) | (with_reducible refine Kd.C_drewN ?_ _) | (with_reducible refine Kd.C_drew ?_)))
                (case side2 => exact HC265_2.out)
                rintro e w69 ⟨rfl, hb⟩; refine ⟨_, rfl, ?_⟩; have n0_ := Aside0.mk (Kd.S_below (by (with_reducible repeat (first | apply Kd.S_alloc | apply Kd.S_drewN | apply Kd.S_drew)); exact HO_56.out) hb); have n1_ := Aside0.mk (Kd.R_below (by (with_reducible repeat (first | apply Kd.R_alloc | apply Kd.R_drewN | apply Kd.R_drew)); exact HO_248002.out) hb); have n2_ := Aside0.mk (Kd.R_below (by (with_reducible repeat (first | apply Kd.R_alloc | apply Kd.R_drewN | apply Kd.R_drew)); exact HO_256002.out) hb); have n3_ := Aside0.mk (Kd.R_below (by (with_reducible repeat (first | apply Kd.R_alloc | apply Kd.R_drewN | apply Kd.R_drew)); exact HL265_2.out) hb); have n4_ := Aside0.mk (blk_below (bG BK247.out) hb); have n5_ := Aside0.mk (blk_below (bG BK255.out) hb); have n6_ := Aside0.mk (Kd.C_below (by repeat (first | (with_reducible exact HR265_2.out) | (with_reducible refine Kd.C_alloc ?_ _) | (with_reducible refine Kd.C_drewN ?_ _) | (with_reducible refine Kd.C_drew ?_) | exact HR265_2.out)) hb); have n7_ := Aside0.mk (blk_below (bG BK266.out) hb); have n8_ := Aside0.mk (below_step (eG HB.out) hb); clear HO_56; clear HO_248002; clear HO_256002; clear HL265_2; clear BK247; clear BK255; clear HR265_2; clear BK266; clear HB; have HO_56 := n0_; have HO_248002 := n1_; have HO_256002 := n2_; have HL265_2 := n3_; have BK247 := n4_; have BK255 := n5_; have HR265_2 := n6_; have BK266 := n7_; have HB := n8_; clear n0_ n1_ n2_ n3_ n4_ n5_ n6_ n7_ n8_; (try clear hb)
                (try clear hb2)
                (try clear hk)
                (try clear hi)
                refine hK.out _ _ ⟨(blk_cell BK266.out 0).trans rfl, (blk_cell BK266.out 1).trans rfl, (blk_cell BK266.out 2).trans rfl, (blk_cell BK266.out 3).trans rfl⟩ (fun hHeld => ?_); clear hK K; refine norm_ (a' := ?_) ?_ ?_; rotate_left
                ·
                 show Act.put _ (some 82) _ = _
                 simp only [Act.put, sIA, sC0, sCS, i64_w, i32_w]; rfl
                refine one_ (i := 12) (N := some 84) #[true, true, true, true, true, true, true, true, true, true, true, true, true, false, false] rfl rfl (one_of HT_.out (by kernel_rfl)) (by decide) (fun K hK => ?_); refine goes_ Tryd.func21 (by kernel_rfl) rfl #[.agg #[.string ((rd_T27 t262 x58_3).f0), .int .i64 ((rd_T27 t262 x58_3).f1), .slice A265_2 ((rd_T27 t262 x58_3).f2).length c265_2, .int .i64 ((rd_T27 t262 x58_3).f3)]] (by rfl) rfl rfl (by (try simp only [List.map_toArray, List.map_cons, List.map_nil]); first | done | rfl | (simp only [List.length_drop, List.length_take]; rfl)) ?_; with_reducible refine (spileref09_Check.calls k3 ((rd_T27 t262 x58_3).f0) ((rd_T27 t262 x58_3).f1) _ _ ((rd_T27 t262 x58_3).f2) ((rd_T27 t262 x58_3).f3) t272 _ ?side1 ?side2 A59.out).mono ?_
                (case side1 => repeat (first | exact (by repeat (first | (with_reducible exact HR265_2.out) | (with_reducible refine Kd.C_alloc ?_ _) | (with_reducible refine Kd.C_drewN ?_ _) | (with_reducible refine Kd.C_drew ?_) | exact HR265_2.out)) | (with_reducible refine Kd.C_alloc ?_ _) | (with_reducible refine Kd.C_drewN ?_ _) | (with_reducible refine Kd.C_drew ?_)))
                (case side2 => exact HC265_2.out)
                rintro e w70 ⟨rfl, hb⟩; refine ⟨_, rfl, ?_⟩; have n0_ := Aside0.mk (Kd.S_below (by (with_reducible repeat (first | apply Kd.S_alloc | apply Kd.S_drewN | apply Kd.S_drew)); exact HO_56.out) hb); have n1_ := Aside0.mk (Kd.R_below (by (with_reducible repeat (first | apply Kd.R_alloc | apply Kd.R_drewN | apply Kd.R_drew)); exact HO_248002.out) hb); have n2_ := Aside0.mk (Kd.R_below (by (with_reducible repeat (first | apply Kd.R_alloc | apply Kd.R_drewN | apply Kd.R_drew)); exact HO_256002.out) hb); have n3_ := Aside0.mk (Kd.R_below (by (with_reducible repeat (first | apply Kd.R_alloc | apply Kd.R_drewN | apply Kd.R_drew)); exact HL265_2.out) hb); have n4_ := Aside0.mk (blk_below (bG BK247.out) hb); have n5_ := Aside0.mk (blk_below (bG BK255.out) hb); have n6_ := Aside0.mk (Kd.C_below (by repeat (first | (with_reducible exact HR265_2.out) | (with_reducible refine Kd.C_alloc ?_ _) | (with_reducible refine Kd.C_drewN ?_ _) | (with_reducible refine Kd.C_drew ?_) | exact HR265_2.out)) hb); have n7_ := Aside0.mk (blk_below (bG BK266.out) hb); have n8_ := Aside0.mk (below_step (eG HB.out) hb); clear HO_56; clear HO_248002; clear HO_256002; clear HL265_2; clear BK247; clear BK255; clear HR265_2; clear BK266; clear HB; have HO_56 := n0_; have HO_248002 := n1_; have HO_256002 := n2_; have HL265_2 := n3_; have BK247 := n4_; have BK255 := n5_; have HR265_2 := n6_; have BK266 := n7_; have HB := n8_; clear n0_ n1_ n2_ n3_ n4_ n5_ n6_ n7_ n8_; (try clear hb)
                (try clear hb2)
                (try clear hk)
                (try clear hi)
                refine hK.out _ _ ⟨(blk_cell BK266.out 0).trans rfl, (blk_cell BK266.out 1).trans rfl, (blk_cell BK266.out 2).trans rfl, (blk_cell BK266.out 3).trans rfl⟩ (fun hHeld => ?_); clear hK K; refine norm_ (a' := ?_) ?_ ?_; rotate_left
                ·
                 show Act.put _ (some 84) _ = _
                 simp only [Act.put, sIA, sC0, sCS, i64_w, i32_w]; rfl
                refine pure_ (i := 13) (N := some 85) (v := ?_) (a' := ?_) #[true, true, true, true, true, true, true, true, true, true, true, true, true, true, false] rfl rfl (any_of HT_.out (by kernel_rfl)) (fun _ _ _ h => h) (Or.inl ⟨by rfl, ?_⟩) ?_ ?_; rotate_left
                · intro w'; go_simp; with_reducible rfl
                rotate_left
                · simp only [Act.put, sIA, sC0, sCS, i64_w, i32_w]; rfl
                refine pure_ (i := 14) (N := some 86) (v := ?_) (a' := ?_) #[true, true, true, true, true, true, true, true, true, true, true, true, true, true, true] rfl rfl (any_of HT_.out (by kernel_rfl)) (fun _ _ _ h => h) (Or.inl ⟨by rfl, ?_⟩) ?_ ?_; rotate_left
                · intro w'; go_simp; with_reducible rfl
                rotate_left
                · simp only [Act.put, sIA, sC0, sCS, i64_w, i32_w]; rfl
                refine done_ (done_of HT_.out (by kernel_rfl)) ?_; try go_wp2
                go_roundg k3
                case measure => have := HJ4.out; have := HJ12.out; have := HK3.out; omega
                case rel => exact ⟨(wrap64 (x58_3 + 1)), (by first | rfl | (simp; done) | (simp [*]; done)), H', ⟨by have := HJ4.out; have := HJ12.out; have := HK3.out; omega⟩, ⟨by (with_reducible repeat (first | apply Kd.S_alloc | apply Kd.S_drewN | apply Kd.S_drew)); exact Kd.S_mono HO_56.out (fun _ hk => ⟨hk.1.1, ⟨hk.1.2.1, ⟨hk.1.2.2.1, hk.1.2.2.2⟩⟩⟩)⟩, ⟨by (with_reducible repeat (first | apply Kd.R_alloc | apply Kd.R_drewN | apply Kd.R_drew)); exact HO_248002.out⟩, ⟨by (with_reducible repeat (first | apply Kd.R_alloc | apply Kd.R_drewN | apply Kd.R_drew)); exact HO_256002.out⟩, ⟨by (with_reducible repeat first | apply bN | apply bD | apply bA); exact BK247.out⟩, ⟨by (with_reducible repeat first | apply bN | apply bD | apply bA); exact BK255.out⟩, ⟨eG HB.out⟩⟩
               · rw [if_neg c60] at H; have c60b0 : (t271 == t272) = false := beq_eq_false_iff_ne.mpr c60; have c60b1 : (t271 != t272) = true := bne_iff_ne.mpr c60; subst hr_; exact absurd H (by simp)
              · rw [if_neg c57] at H; have c57b0 : (t268 == t270) = false := beq_eq_false_iff_ne.mpr c57; have c57b1 : (t268 != t270) = true := bne_iff_ne.mpr c57; subst hr_; exact absurd H (by simp)
             · rw [if_neg c56] at H; have c56b0 : (t267 == t269) = false := beq_eq_false_iff_ne.mpr c56; have c56b1 : (t267 != t269) = true := bne_iff_ne.mpr c56; subst hr_; exact absurd H (by simp)
            · rw [if_neg c53] at H; exact absurd H (by simp)
           · rw [if_neg c52] at H; exact absurd H (by simp)
          ·
           rw [if_neg c51] at H; have c51b0 : decide (x58_3 < (t262.length : Int)) = false := decide_eq_false c51; clear c51; obtain rfl := Option.some.inj H; go_wp2; go_ret
           exact ⟨by first | rfl | (simp [errW_none, errW_some] <;> rfl) | (simp [*, errW_none, errW_some] <;> rfl), eG HB.out⟩
 ·
  replace c4 := Bool.eq_false_iff.mpr c4; subst c4; have H1 : (none) = some r := by rw [if_neg (show ¬ (false = true) by decide)] at H; exact H
  clear H; have H := H1; clear H1; subst hr_; exact absurd H (by simp)
end Go.Proofs.YtnhmlneebnkjcaaDoor.Pr
namespace Go.Proofs.YtnhmlneebnkjcaaDoor.Opn
open Go Go.RowKit Go.Proofs.YtnhmlneebnkjcaaDoorW.PrintWords Go.Proofs.YtnhmlneebnkjcaaDoor.O Go.Proofs.YtnhmlneebnkjcaaDoor.Pr
theorem opens9 : Opens Tryd.prog 9 Kd.string (fun x => x.size ≤ maxLen) := opens_string Tryd.underlying9 (by kernel_rfl)
theorem opens3 : Opens Tryd.prog 3 (Kd.int .i64) (fun x => (Lit.int .i64 x).wf = true) := opens_int Tryd.underlying3 (by kernel_rfl)
def ok46 (x : S46) : Prop := (Lit.int .i64 x.f0).wf = true ∧ (Lit.int .i64 x.f1).wf = true
theorem opens46 : Opens Tryd.prog 46 k46 ok46 :=
  ⟨by kernel_rfl, fun H enc w base sp held fuel cs x h => by
    obtain ⟨xs, n, _, _, hl, hx, hf⟩ := DataW.trod_struct Tryd.underlying46 h
    have hc_ : Tryd.prog.cellsOf 46 = 2 := by kernel_rfl
    rw [hc_] at hl
    obtain ⟨c0, c1, rfl⟩ : ∃ c0 c1, cs = [c0, c1] := by
      clear h hf hx
      rcases cs with _ | ⟨c0, _ | ⟨c1, _ | ⟨_, _⟩⟩⟩
      all_goals first | exact ⟨_, _, rfl⟩ | (simp at hl)
    obtain ⟨y0, hy0⟩ : ∃ y, xs[0]? = some y := ⟨xs[0]'(by rw [hx]; decide), List.getElem?_eq_getElem _⟩
    have e0 : DataW.trod enc Tryd.prog w base sp held n 3 ((List.drop 0 [c0, c1]).take (Tryd.prog.cellsOf 3)) = xs[0]? := hf 0 _ rfl
    rw [hy0, show Tryd.prog.cellsOf 3 = 1 from by kernel_rfl] at e0
    obtain ⟨v0, K0, o0⟩ := opens3.2 H enc w base sp held n _ _ e0
    replace K0 : (Kd.int .i64).K w v0 [c0] := K0
    obtain ⟨y1, hy1⟩ : ∃ y, xs[1]? = some y := ⟨xs[1]'(by rw [hx]; decide), List.getElem?_eq_getElem _⟩
    have e1 : DataW.trod enc Tryd.prog w base sp held n 3 ((List.drop 1 [c0, c1]).take (Tryd.prog.cellsOf 3)) = xs[1]? := hf 1 _ rfl
    rw [hy1, show Tryd.prog.cellsOf 3 = 1 from by kernel_rfl] at e1
    obtain ⟨v1, K1, o1⟩ := opens3.2 H enc w base sp held n _ _ e1
    replace K1 : (Kd.int .i64).K w v1 [c1] := K1
    obtain rfl : c0 = _ := List.singleton_inj.1 K0
    obtain rfl : c1 = _ := List.singleton_inj.1 K1
    refine ⟨⟨v0, v1⟩, ?_, o0, o1⟩
    exact k46_mk w ⟨v0, v1⟩ ⟩
theorem opens25 : Opens Tryd.prog 25 (Kd.slice 46 k46) (fun x => (x.length ≤ maxLen ∧ ∀ x0_, x0_ ∈ x → ok46 x0_)) := opens_slice (P := Tryd.prog) (t := 25) (e := 46) Tryd.underlying25 (by kernel_rfl) opens46
def ok27 (x : S27) : Prop := x.f0.size ≤ maxLen ∧ (Lit.int .i64 x.f1).wf = true ∧ (x.f2.length ≤ maxLen ∧ ∀ x0_, x0_ ∈ x.f2 → ok46 x0_) ∧ (Lit.int .i64 x.f3).wf = true
theorem opens27 : Opens Tryd.prog 27 k27 ok27 :=
  ⟨by kernel_rfl, fun H enc w base sp held fuel cs x h => by
    obtain ⟨xs, n, _, _, hl, hx, hf⟩ := DataW.trod_struct Tryd.underlying27 h
    have hc_ : Tryd.prog.cellsOf 27 = 4 := by kernel_rfl
    rw [hc_] at hl
    obtain ⟨c0, c1, c2, c3, rfl⟩ : ∃ c0 c1 c2 c3, cs = [c0, c1, c2, c3] := by
      clear h hf hx
      rcases cs with _ | ⟨c0, _ | ⟨c1, _ | ⟨c2, _ | ⟨c3, _ | ⟨_, _⟩⟩⟩⟩⟩
      all_goals first | exact ⟨_, _, _, _, rfl⟩ | (simp at hl)
    obtain ⟨y0, hy0⟩ : ∃ y, xs[0]? = some y := ⟨xs[0]'(by rw [hx]; decide), List.getElem?_eq_getElem _⟩
    have e0 : DataW.trod enc Tryd.prog w base sp held n 9 ((List.drop 0 [c0, c1, c2, c3]).take (Tryd.prog.cellsOf 9)) = xs[0]? := hf 0 _ rfl
    rw [hy0, show Tryd.prog.cellsOf 9 = 1 from by kernel_rfl] at e0
    obtain ⟨v0, K0, o0⟩ := opens9.2 H enc w base sp held n _ _ e0
    replace K0 : Kd.string.K w v0 [c0] := K0
    obtain ⟨y1, hy1⟩ : ∃ y, xs[1]? = some y := ⟨xs[1]'(by rw [hx]; decide), List.getElem?_eq_getElem _⟩
    have e1 : DataW.trod enc Tryd.prog w base sp held n 3 ((List.drop 1 [c0, c1, c2, c3]).take (Tryd.prog.cellsOf 3)) = xs[1]? := hf 1 _ rfl
    rw [hy1, show Tryd.prog.cellsOf 3 = 1 from by kernel_rfl] at e1
    obtain ⟨v1, K1, o1⟩ := opens3.2 H enc w base sp held n _ _ e1
    replace K1 : (Kd.int .i64).K w v1 [c1] := K1
    obtain ⟨y2, hy2⟩ : ∃ y, xs[2]? = some y := ⟨xs[2]'(by rw [hx]; decide), List.getElem?_eq_getElem _⟩
    have e2 : DataW.trod enc Tryd.prog w base sp held n 25 ((List.drop 2 [c0, c1, c2, c3]).take (Tryd.prog.cellsOf 25)) = xs[2]? := hf 2 _ rfl
    rw [hy2, show Tryd.prog.cellsOf 25 = 1 from by kernel_rfl] at e2
    obtain ⟨v2, K2, o2⟩ := opens25.2 H enc w base sp held n _ _ e2
    replace K2 : (Kd.slice 46 k46).K w v2 [c2] := K2
    obtain ⟨y3, hy3⟩ : ∃ y, xs[3]? = some y := ⟨xs[3]'(by rw [hx]; decide), List.getElem?_eq_getElem _⟩
    have e3 : DataW.trod enc Tryd.prog w base sp held n 3 ((List.drop 3 [c0, c1, c2, c3]).take (Tryd.prog.cellsOf 3)) = xs[3]? := hf 3 _ rfl
    rw [hy3, show Tryd.prog.cellsOf 3 = 1 from by kernel_rfl] at e3
    obtain ⟨v3, K3, o3⟩ := opens3.2 H enc w base sp held n _ _ e3
    replace K3 : (Kd.int .i64).K w v3 [c3] := K3
    obtain rfl : c0 = _ := List.singleton_inj.1 K0
    obtain rfl : c1 = _ := List.singleton_inj.1 K1
    obtain ⟨A2, q2, w2, m2, g2⟩ := K2
    obtain rfl : c2 = _ := List.singleton_inj.1 w2
    obtain rfl : c3 = _ := List.singleton_inj.1 K3
    refine ⟨⟨v0, v1, v2, v3⟩, ?_, o0, o1, o2, o3⟩
    exact k27_mk w ⟨v0, v1, v2, v3⟩ m2 g2⟩
theorem opens22 : Opens Tryd.prog 22 (Kd.slice 27 k27) (fun x => (x.length ≤ maxLen ∧ ∀ x0_, x0_ ∈ x → ok27 x0_)) := opens_slice (P := Tryd.prog) (t := 22) (e := 27) Tryd.underlying22 (by kernel_rfl) opens27
end Go.Proofs.YtnhmlneebnkjcaaDoor.Opn
namespace Go.Proofs.YtnhmlneebnkjcaaDoor.Pure
open Go Go.RowKit Go.Proofs.YtnhmlneebnkjcaaDoor.Pr Go.Proofs.YtnhmlneebnkjcaaDoor.Opn
def caskChecksPure : Prop := ∀ (l0 : (List S27)) (a1 : ByteArray), (l0.length ≤ maxLen ∧ ∀ x0_, x0_ ∈ l0 → ok27 x0_) → a1.size ≤ maxLen → ∃ k, spilelaw09_CaskChecks.f k l0 a1 = some true
end Go.Proofs.YtnhmlneebnkjcaaDoor.Pure
namespace Go.Proofs.YtnhmlneebnkjcaaDoor.PL
open Go Go.RowKit Go.Proofs.YtnhmlneebnkjcaaDoorW.PrintWords Go.Proofs.YtnhmlneebnkjcaaDoorW.PrintLast Go.Proofs.YtnhmlneebnkjcaaDoorW.PrintMore
theorem evp {α : Type} {c : Prop} [Decidable c] {g h : Nat → Option α} {r : α} (hc : c) (k : Ev g r) : Ev (fun n => if c then g n else h n) r :=
  Ev.congr (fun n => if_pos hc) k
theorem evn {α : Type} {c : Prop} [Decidable c] {g h : Nat → Option α} {r : α} (hc : ¬ c) (k : Ev h r) : Ev (fun n => if c then g n else h n) r :=
  Ev.congr (fun n => if_neg hc) k
theorem evb {α β : Type} {g : Nat → Option α} {f : Nat → α → Option β} {a : α} {r : β} (h : Ev g a) (k : Ev (fun n => f n a) r) : Ev (fun n => (g n).bind (f n)) r := Ev.bind h k
theorem evr {α : Type} {a r : α} (h : a = r) : Ev (fun _ => some a) r := by subst h; exact Ev.now _
theorem evc {α : Type} {g : Nat → Option α} {r : α} {o : Option α} (hg : ∀ n, g n = o) (h : o = some r) : Ev g r := by
  subst h
  exact Ev.congr hg (Ev.now _)
/-- A loop that counts upwards to n. -/
theorem count_up (a n : Int) (P : Int → Prop) (hend : P n) (hround : ∀ i, a ≤ i → i < n → P (i + 1) → P i) : ∀ i, a ≤ i → i ≤ n → P i := by
  intro i h0 h1
  obtain ⟨d, hd⟩ : ∃ d : Nat, n - i = d := ⟨(n - i).toNat, by omega⟩
  induction d generalizing i with
  | zero =>
    obtain rfl : i = n := by omega
    exact hend
  | succ d ih => exact hround i h0 (by omega) (ih (i + 1) (by omega) (by omega) (by omega))
theorem w64 {x : Int} (h0 : -9223372036854775808 ≤ x) (h1 : x ≤ 9223372036854775807) : wrap64 x = x := by
  unfold wrap64
  omega
theorem w64_succ {i n : Int} (h0 : 0 ≤ i) (h : i < n) (hn : n ≤ 9223372036854775807) : wrap64 (i + 1) = i + 1 := w64 (by omega) (by omega)
theorem len_le {α : Type} {l : List α} (h : l.length ≤ maxLen) : (l.length : Int) ≤ 9223372036854775807 := by
  have : l.length ≤ 9223372036854775807 := by simpa [maxLen] using h
  omega
/-- A test that comes to true where P holds, and else to false. -/
def EvB (g : Nat → Option Bool) (P : Prop) : Prop := (P → Ev g true) ∧ (¬ P → Ev g false)
theorem EvB.iff {g : Nat → Option Bool} {P Q : Prop} (h : EvB g P) (e : P ↔ Q) : EvB g Q := ⟨fun q => h.1 (e.2 q), fun q => h.2 (fun p => q (e.1 p))⟩
theorem EvB.get {g : Nat → Option Bool} {P : Prop} (h : EvB g P) : ∃ b, Ev g b ∧ (b = true ↔ P) := by
  by_cases hp : P
  · exact ⟨true, h.1 hp, by simp [hp]⟩
  · exact ⟨false, h.2 hp, by simp [hp]⟩
theorem EvB.map {g : Nat → Option Bool} {f : Nat → Bool → Option Bool} {P Q : Prop} (h : EvB g P) (ht : P → EvB (fun n => f n true) Q) (hf : ¬ P → EvB (fun n => f n false) Q) : EvB (fun n => (g n).bind (f n)) Q := by
  by_cases hp : P
  · exact ⟨fun q => Ev.bind (h.1 hp) ((ht hp).1 q), fun q => Ev.bind (h.1 hp) ((ht hp).2 q)⟩
  · exact ⟨fun q => Ev.bind (h.2 hp) ((hf hp).1 q), fun q => Ev.bind (h.2 hp) ((hf hp).2 q)⟩
theorem evB_all (a n : Int) (Q : Int → Prop) (L : Int → Nat → Option Bool) (hend : Ev (L n) true) (hno : ∀ i, a ≤ i → i < n → ¬ Q i → Ev (L i) false)
    (hyes : ∀ i, a ≤ i → i < n → Q i → ∀ b, Ev (L (i + 1)) b → Ev (L i) b) : ∀ i, a ≤ i → i ≤ n → EvB (L i) (∀ j, i ≤ j → j < n → Q j) := by
  refine count_up a n _ ⟨fun _ => hend, fun h => absurd (fun j h1 h2 => absurd h2 (by omega)) h⟩ ?_
  intro i h0 h1 ih
  by_cases hq : Q i
  · refine ⟨fun h => hyes i h0 h1 hq _ (ih.1 fun j hj hn => h j (by omega) hn), fun h => hyes i h0 h1 hq _ (ih.2 fun h2 => h fun j hj hn => ?_)⟩
    by_cases e : j = i
    · subst e; exact hq
    · exact h2 j (by omega) hn
  · exact ⟨fun h => absurd (h i (by omega) h1) hq, fun _ => hno i h0 h1 hq⟩
theorem index_ev (n : Int) (Q : Int → Prop) (L : Int → Nat → Option Int) (hend : Ev (L n) (-1)) (hyes : ∀ i, 0 ≤ i → i < n → Q i → Ev (L i) i)
    (hno : ∀ i, 0 ≤ i → i < n → ¬ Q i → ∀ r, Ev (L (i + 1)) r → Ev (L i) r) : ∀ i, 0 ≤ i → i ≤ n →
    ∃ r, Ev (L i) r ∧ ((0 ≤ r ∧ i ≤ r ∧ r < n ∧ Q r ∧ ∀ j, i ≤ j → j < r → ¬ Q j) ∨ (r = -1 ∧ ∀ j, i ≤ j → j < n → ¬ Q j)) := by
  refine count_up 0 n _ ⟨-1, hend, .inr ⟨rfl, fun j h1 h2 => absurd h2 (by omega)⟩⟩ ?_
  intro i h0 h1 ih
  by_cases hq : Q i
  · exact ⟨i, hyes i h0 h1 hq, .inl ⟨h0, by omega, h1, hq, fun j h2 h3 => absurd h3 (by omega)⟩⟩
  · obtain ⟨r, hr, h⟩ := ih
    refine ⟨r, hno i h0 h1 hq _ hr, ?_⟩
    have ext : ∀ b, (∀ j, i + 1 ≤ j → j < b → ¬ Q j) → ∀ j, i ≤ j → j < b → ¬ Q j := fun b h2 j hj hb => by
      by_cases e : j = i
      · subst e; exact hq
      · exact h2 j (by omega) hb
    rcases h with ⟨a, b, c, d, e⟩ | ⟨a, b⟩
    · exact .inl ⟨a, by omega, c, d, ext r e⟩
    · exact .inr ⟨a, ext n b⟩
end Go.Proofs.YtnhmlneebnkjcaaDoor.PL
namespace Go.Proofs.YtnhmlneebnkjcaaDoor.PL
open Go Go.RowKit Go.Proofs.YtnhmlneebnkjcaaDoorW.PrintWords Go.Proofs.YtnhmlneebnkjcaaDoorW.PrintLast Go.Proofs.YtnhmlneebnkjcaaDoorW.PrintMore Go.Proofs.YtnhmlneebnkjcaaDoor.Pr Go.Proofs.YtnhmlneebnkjcaaDoor.TX Go.Proofs.YtnhmlneebnkjcaaDoor.X
def ba (l : List UInt8) : ByteArray := ⟨l.toArray⟩
theorem ba_data (s : ByteArray) : ba s.data.toList = s := by obtain ⟨⟨l⟩⟩ := s; rfl
end Go.Proofs.YtnhmlneebnkjcaaDoor.PL
namespace Go.Proofs.YtnhmlneebnkjcaaDoor.PL
open Go Go.RowKit Go.Proofs.YtnhmlneebnkjcaaDoorW.PrintWords Go.Proofs.YtnhmlneebnkjcaaDoorW.PrintLast Go.Proofs.YtnhmlneebnkjcaaDoorW.PrintMore Go.Proofs.YtnhmlneebnkjcaaDoor.Pr Go.Proofs.YtnhmlneebnkjcaaDoor.Opn Go.Proofs.YtnhmlneebnkjcaaDoor.X
def okB (b : Int) : Prop := (97 ≤ b ∧ b ≤ 122) ∨ (65 ≤ b ∧ b ≤ 90) ∨ (48 ≤ b ∧ b ≤ 57) ∨ b = 45 ∨ b = 46
instance (b : Int) : Decidable (okB b) := by unfold okB; infer_instance
def NameP (s : ByteArray) : Prop := 1 ≤ s.size ∧ s.size ≤ 64 ∧ ∀ i, 0 ≤ i → i < (s.size : Int) → okB (bt s i)
theorem named_step (k : Nat) (s : ByteArray) {i : Int} (h0 : 0 ≤ i) (h1 : i < (s.size : Int)) : cask_named.l0 (k + 1) s (s.size : Int) i = if okB (bt s i) then cask_named.l0 k s (s.size : Int) (wrap64 (i + 1)) else some false := by
  rw [cask_named.l0.eq_2, if_pos h1, if_pos h0, if_pos h1]
  by_cases c : okB (bt s i)
  · rw [if_pos c]
    unfold okB at c
    (repeat' split) <;> first | rfl | (exfalso; omega)
  · rw [if_neg c]
    unfold okB at c
    (repeat' split) <;> first | rfl | (exfalso; omega)
theorem isname_step (k : Nat) (s : ByteArray) {i : Int} (h0 : 0 ≤ i) (h1 : i < (s.size : Int)) : spileref09_IsName.l0 (k + 1) s i = if okB (bt s i) then spileref09_IsName.l0 k s (wrap64 (i + 1)) else some false := by
  rw [spileref09_IsName.l0.eq_2, if_pos h1, if_pos h0]
  by_cases c : okB (bt s i)
  · rw [if_pos c]
    unfold okB at c
    (repeat' split) <;> first | rfl | (exfalso; omega)
  · rw [if_neg c]
    unfold okB at c
    (repeat' split) <;> first | rfl | (exfalso; omega)
theorem name_both (s : ByteArray) (hs : (s.size : Int) ≤ 9223372036854775807) : ∃ b, Ev (fun k => cask_named.f k s) b ∧ Ev (fun k => spileref09_IsName.f k s) b ∧ (b = true ↔ NameP s) := by
  have L1 : ∀ i, 0 ≤ i → i ≤ (s.size : Int) → EvB (fun k => cask_named.l0 k s (s.size : Int) i) (∀ j, i ≤ j → j < (s.size : Int) → okB (bt s j)) := by
    refine evB_all 0 (s.size : Int) (fun j => okB (bt s j)) (fun i k => cask_named.l0 k s (s.size : Int) i) ?_ ?_ ?_
    · exact Ev.step (fun k => cask_named.l0.eq_2 ..) (evn (by omega) (Ev.now _))
    · intro i h0 h1 hq
      exact Ev.step (fun k => named_step k s h0 h1) (evn hq (Ev.now _))
    · intro i h0 h1 hq b hb
      rw [← w64_succ h0 h1 hs] at hb
      exact Ev.step (fun k => named_step k s h0 h1) (evp hq hb)
  have L2 : ∀ i, 0 ≤ i → i ≤ (s.size : Int) → ∃ b, Ev (fun k => spileref09_IsName.l0 k s i) b ∧ (b = true ↔ (1 ≤ s.size ∧ s.size ≤ 64 ∧ ∀ j, i ≤ j → j < (s.size : Int) → okB (bt s j))) := by
    refine count_up 0 (s.size : Int) _ ?_ ?_
    · by_cases c : (s.size : Int) ≥ 1
      · exact ⟨_, Ev.step (fun k => spileref09_IsName.l0.eq_2 ..) (evn (by omega) (evp c (Ev.now _))), by rw [decide_eq_true_eq]; exact ⟨fun h => ⟨by omega, by omega, fun j _ _ => by omega⟩, fun h => by omega⟩⟩
      · exact ⟨_, Ev.step (fun k => spileref09_IsName.l0.eq_2 ..) (evn (by omega) (evn c (Ev.now _))), by simp; omega⟩
    · intro i h0 h1 ih
      by_cases hq : okB (bt s i)
      · obtain ⟨b, hb, hi⟩ := ih
        rw [← w64_succ h0 h1 hs] at hb
        refine ⟨b, Ev.step (fun k => isname_step k s h0 h1) (evp hq hb), hi.trans ⟨fun h => ⟨h.1, h.2.1, fun j h2 h3 => ?_⟩, fun h => ⟨h.1, h.2.1, fun j h2 h3 => h.2.2 j (by omega) h3⟩⟩⟩
        by_cases e : j = i
        · rw [e]; exact hq
        · exact h.2.2 j (by omega) h3
      · exact ⟨false, Ev.step (fun k => isname_step k s h0 h1) (evn hq (Ev.now _)), by simp only [Bool.false_eq_true, false_iff]; exact fun h => hq (h.2.2 i (Int.le_refl _) h1)⟩
  obtain ⟨b2, hb2, hi2⟩ := L2 0 (by omega) (by omega)
  have N2 : b2 = true ↔ NameP s := hi2
  by_cases c1 : (s.size : Int) < 1
  · have hb : b2 = false := by
      rw [Bool.eq_false_iff]
      intro q
      have := (N2.1 q).1
      omega
    subst hb
    exact ⟨false, evp c1 (Ev.step (fun k => cask_named.j0.eq_2 ..) (evp rfl (Ev.now _))), hb2, N2⟩
  by_cases c2 : (s.size : Int) > 64
  · have hb : b2 = false := by
      rw [Bool.eq_false_iff]
      intro q
      have := (N2.1 q).2.1
      omega
    subst hb
    exact ⟨false, evn c1 (Ev.step (fun k => cask_named.j0.eq_2 ..) (evp (decide_eq_true c2) (Ev.now _))), hb2, N2⟩
  obtain ⟨b, hb, hi⟩ := (L1 0 (by omega) (by omega)).get
  have e : b = b2 := by
    have : b = true ↔ b2 = true := hi.trans ⟨fun h => N2.2 ⟨by omega, by omega, h⟩, fun h => (N2.1 h).2.2⟩
    cases b <;> cases b2 <;> simp_all
  subst e
  exact ⟨b, evn c1 (Ev.step (fun k => cask_named.j0.eq_2 ..) (evn (by simp; omega) hb)), hb2, N2⟩
def LenP (x : Int) : Prop := 0 ≤ x ∧ x ≤ 100000
instance (x : Int) : Decidable (LenP x) := by unfold LenP; infer_instance
theorem measure_f (x : Int) : profile_measure.f x = some (decide (LenP x)) := by
  unfold profile_measure.f LenP
  by_cases c : x ≥ 0
  · rw [if_pos c]
    exact congrArg some (decide_eq_decide.2 ⟨fun h => ⟨c, h⟩, fun h => h.2⟩)
  · rw [if_neg c]
    exact congrArg some (decide_eq_false (fun h => c h.1)).symm
theorem isLength_f (x : Int) : spileref08_isLength.f x = some (decide (LenP x)) := by
  unfold spileref08_isLength.f LenP
  by_cases c : x ≥ 0
  · rw [if_pos c]
    exact congrArg some (decide_eq_decide.2 ⟨fun h => ⟨c, h⟩, fun h => h.2⟩)
  · rw [if_neg c]
    exact congrArg some (decide_eq_false (fun h => c h.1)).symm
def PtP (p : S46) : Prop := LenP p.f0 ∧ LenP p.f1
theorem check1_f (p : S46) : ∃ b, profile_Check_1.f p.f0 p.f1 = some b ∧ (b = true ↔ ¬ PtP p) := by
  unfold profile_Check_1.f PtP
  rw [measure_f, measure_f]
  by_cases c : LenP p.f0
  · refine ⟨_, by rw [Option.bind_some, if_pos (decide_eq_true c)]; rfl, ?_⟩
    by_cases d : LenP p.f1 <;> simp [c, d]
  · exact ⟨true, by rw [Option.bind_some, if_neg (by simp [c])], by simp [c]⟩
def AllP (l : List S46) : Prop := ∀ j, 0 ≤ j → j < (l.length : Int) → PtP (rd_T46 l j)
def NonZ (l : List S46) : Prop := ∀ j, 0 ≤ j → j < (l.length : Int) → (rd_T46 l j).f1 ≠ 0
theorem contains56 (l : List S46) (hl : (l.length : Int) ≤ 9223372036854775807) : ∃ b, Ev (fun k => api_Point_55_at_56.f k l) b ∧ (b = true ↔ ¬ AllP l) := by
  obtain ⟨r, hr, h⟩ := index_ev (l.length : Int) (fun i => ¬ PtP (rd_T46 l i)) (fun i k => api_Point_70_at_56.l0 k l (l.length : Int) i)
    (Ev.step (fun k => api_Point_70_at_56.l0.eq_2 ..) (evn (by omega) (Ev.now _)))
    (fun i h0 h1 hq => by
      obtain ⟨b, e, hb⟩ := check1_f (rd_T46 l i)
      exact Ev.step (fun k => api_Point_70_at_56.l0.eq_2 ..) (evp h1 (evp h0 (evp h1 (evb (evc (fun _ => rfl) e) (evp (hb.2 hq) (Ev.now _)))))))
    (fun i h0 h1 hq r hr => by
      obtain ⟨b, e, hb⟩ := check1_f (rd_T46 l i)
      rw [← w64_succ h0 h1 hl] at hr
      exact Ev.step (fun k => api_Point_70_at_56.l0.eq_2 ..) (evp h1 (evp h0 (evp h1 (evb (evc (fun _ => rfl) e) (evn (fun q => hq (hb.1 q)) hr)))))) 0 (by omega) (by omega)
  refine ⟨decide (r ≥ 0), evb hr (Ev.now _), ?_⟩
  rw [decide_eq_true_eq]
  rcases h with ⟨a, _, c, d, _⟩ | ⟨a, b⟩
  · exact ⟨fun _ q => d (q r a c), fun _ => a⟩
  · exact ⟨fun q => by omega, fun q => absurd (fun j h0 h1 => Classical.byContradiction (fun z => b j h0 h1 z)) q⟩
theorem contains59 (l : List S46) (hl : (l.length : Int) ≤ 9223372036854775807) : ∃ b, Ev (fun k => api_Point_55_at_59.f k l) b ∧ (b = true ↔ ¬ NonZ l) := by
  obtain ⟨r, hr, h⟩ := index_ev (l.length : Int) (fun i => (rd_T46 l i).f1 = 0) (fun i k => api_Point_70_at_59.l0 k l (l.length : Int) i)
    (Ev.step (fun k => api_Point_70_at_59.l0.eq_2 ..) (evn (by omega) (Ev.now _)))
    (fun i h0 h1 hq => Ev.step (fun k => api_Point_70_at_59.l0.eq_2 ..) (evp h1 (evp h0 (evp h1 (evb (evc (fun _ => rfl) (show profile_Check_2.f (rd_T46 l i).f0 (rd_T46 l i).f1 = some ((rd_T46 l i).f1 == 0) from rfl)) (evp (beq_iff_eq.2 hq) (Ev.now _)))))))
    (fun i h0 h1 hq r hr => by
      rw [← w64_succ h0 h1 hl] at hr
      exact Ev.step (fun k => api_Point_70_at_59.l0.eq_2 ..) (evp h1 (evp h0 (evp h1 (evb (evc (fun _ => rfl) (show profile_Check_2.f (rd_T46 l i).f0 (rd_T46 l i).f1 = some ((rd_T46 l i).f1 == 0) from rfl)) (evn (by simpa using hq) hr)))))) 0 (by omega) (by omega)
  refine ⟨decide (r ≥ 0), evb hr (Ev.now _), ?_⟩
  rw [decide_eq_true_eq]
  rcases h with ⟨a, _, c, d, _⟩ | ⟨a, b⟩
  · exact ⟨fun _ q => q r a c d, fun _ => a⟩
  · exact ⟨fun q => by omega, fun q => absurd (fun j h0 h1 => b j h0 h1) q⟩
theorem nbs_drop {l : List S46} {i : Int} (h0 : 1 ≤ i) (h1 : i < (l.length : Int)) : (nbs l).drop (i - 1).toNat = (rd_T46 l (i - 1), rd_T46 l i) :: (nbs l).drop i.toNat := by
  have h : (i - 1).toNat < (nbs l).length := by rw [nbs_len]; omega
  rw [List.drop_eq_getElem_cons h, show (i - 1).toNat + 1 = i.toNat from by omega]
  congr 1
  have g : (nbs l)[(i - 1).toNat]? = some (rd_T46 l (i - 1), rd_T46 l i) := by
    unfold nbs
    rw [List.getElem?_zip_eq_some]
    constructor
    · unfold rd_T46
      rw [List.getD_eq_getElem?_getD, List.getElem?_eq_getElem (show (i - 1).toNat < l.length by omega)]
      rfl
    · unfold rd_T46
      show l.tail[(i - 1).toNat]? = some (l.getD i.toNat z46)
      rw [List.getElem?_tail, List.getD_eq_getElem?_getD, show (i - 1).toNat + 1 = i.toNat from by omega, List.getElem?_eq_getElem (show i.toNat < l.length by omega)]
      rfl
  exact Option.some.inj ((List.getElem?_eq_getElem h).symm.trans g)
theorem nbs_end (l : List S46) {i : Int} (h : (l.length : Int) ≤ i) : (nbs l).drop (i - 1).toNat = [] := List.drop_eq_nil_of_le (by rw [nbs_len]; omega)
theorem falls_or : ∀ t l, profile_Check.falls t l = 0 ∨ profile_Check.falls t l = 10
  | _, [] => .inl rfl
  | t, x :: r => by
    unfold profile_Check.falls
    split
    · exact .inr rfl
    · exact falls_or _ r
theorem ref_falls (l : List S46) (hl : (l.length : Int) ≤ 9223372036854775807) : ∀ i, 1 ≤ i → ∀ t, (i ≤ (l.length : Int) ∨ l.length = 0) → Ev (fun k => spileref08_Check.l3 k l t i) (profile_Check.falls t ((nbs l).drop (i - 1).toNat)) := by
  intro i h0 t hi
  by_cases c : i ≤ (l.length : Int)
  case neg =>
    rw [nbs_end l (by omega)]
    exact Ev.step (fun k => spileref08_Check.l3.eq_2 ..) (evn (by omega) (Ev.now _))
  refine count_up 1 (l.length : Int) (fun i => ∀ t, Ev (fun k => spileref08_Check.l3 k l t i) (profile_Check.falls t ((nbs l).drop (i - 1).toNat))) ?_ ?_ i h0 c t
  · intro t
    rw [nbs_end l (Int.le_refl _)]
    exact Ev.step (fun k => spileref08_Check.l3.eq_2 ..) (evn (by omega) (Ev.now _))
  · intro i h0 h1 ih t
    have w0 : wrap64 (i - 1) = i - 1 := w64 (by omega) (by omega)
    have w1 : wrap64 (i + 1) = i + 1 := w64 (by omega) (by omega)
    rw [nbs_drop h0 h1]
    unfold profile_Check.falls
    rw [show i + 1 - 1 = i from by omega] at ih
    refine Ev.step (fun k => spileref08_Check.l3.eq_2 ..) (evp h1 ?_)
    rw [w0, w1]
    cases t with
    | true =>
      refine evp rfl (evp (by omega) (evp (by omega) (evp (by omega) ?_)))
      by_cases q : (rd_T46 l i).f1 > (rd_T46 l (i - 1)).f1
      · rw [if_pos ⟨rfl, q⟩]
        exact evp q (Ev.now _)
      · rw [if_neg (fun z => q z.2)]
        exact evn q (by simpa using ih true)
    | false =>
      rw [if_neg (fun z => by cases z.1)]
      exact evn (by decide) (evp (by omega) (evp (by omega) (evp (by omega) (by simpa using ih (decide ((rd_T46 l i).f1 < (rd_T46 l (i - 1)).f1))))))
theorem ref_zero (l : List S46) (hl : (l.length : Int) ≤ 9223372036854775807) (r3 : Int) (h3 : Ev (fun k => spileref08_Check.l3 k l false 1) r3) : ∀ i, 0 ≤ i → i ≤ (l.length : Int) → ∃ e, Ev (fun k => spileref08_Check.l2 k l i) e ∧ ((∀ j, i ≤ j → j < (l.length : Int) → (rd_T46 l j).f1 ≠ 0) → e = r3) ∧ (¬ (∀ j, i ≤ j → j < (l.length : Int) → (rd_T46 l j).f1 ≠ 0) → e = 16) := by
  refine count_up 0 (l.length : Int) _ ?_ ?_
  · exact ⟨r3, Ev.step (fun k => spileref08_Check.l2.eq_2 ..) (evn (by omega) h3), fun _ => rfl, fun h => absurd (fun j a b => by omega) h⟩
  · intro i h0 h1 ih
    by_cases c : (rd_T46 l i).f1 = 0
    · exact ⟨16, Ev.step (fun k => spileref08_Check.l2.eq_2 ..) (evp h1 (evp h0 (evp c (Ev.now _)))), fun h => absurd c (h i (Int.le_refl _) h1), fun _ => rfl⟩
    · obtain ⟨e, he, a, b⟩ := ih
      rw [← w64_succ h0 h1 hl] at he
      refine ⟨e, Ev.step (fun k => spileref08_Check.l2.eq_2 ..) (evp h1 (evp h0 (evn c he))), fun h => a (fun j x y => h j (by omega) y), fun h => b (fun z => h (fun j x y => ?_))⟩
      by_cases q : j = i
      · rw [q]; exact c
      · exact z j (by omega) y
theorem ref_steps (l : List S46) (hl : (l.length : Int) ≤ 9223372036854775807) (r2 : Int) (h2 : Ev (fun k => spileref08_Check.l2 k l 0) r2) : ∀ i, 1 ≤ i → i ≤ (l.length : Int) → Ev (fun k => spileref08_Check.l1 k l i) (if profile_Check.steps ((nbs l).drop (i - 1).toNat) = 0 then r2 else 5) := by
  refine count_up 1 (l.length : Int) _ ?_ ?_
  · rw [nbs_end l (Int.le_refl _)]
    exact Ev.step (fun k => spileref08_Check.l1.eq_2 ..) (evn (by omega) h2)
  · intro i h0 h1 ih
    have w0 : wrap64 (i - 1) = i - 1 := w64 (by omega) (by omega)
    have w1 : wrap64 (i + 1) = i + 1 := w64 (by omega) (by omega)
    rw [show i + 1 - 1 = i from by omega] at ih
    rw [nbs_drop h0 h1]
    unfold profile_Check.steps
    refine Ev.step (fun k => spileref08_Check.l1.eq_2 ..) (evp h1 ?_)
    rw [w0, w1]
    refine evn (by omega) (evp (by omega) (evp (by omega) (evp (by omega) (evp (by omega) ?_))))
    by_cases q : (rd_T46 l (i - 1)).f0 ≥ (rd_T46 l i).f0
    · rw [if_pos q, if_neg (by decide)]
      exact evp q (Ev.now _)
    · rw [if_neg q]
      exact evn q ih
theorem ref_all (l : List S46) (hl : (l.length : Int) ≤ 9223372036854775807) (r1 : Int) (h1 : Ev (fun k => spileref08_Check.l1 k l 0) r1) : ∀ i, 0 ≤ i → i ≤ (l.length : Int) → ∃ e, Ev (fun k => spileref08_Check.l0 k l i) e ∧ ((∀ j, i ≤ j → j < (l.length : Int) → PtP (rd_T46 l j)) → e = r1) ∧ (¬ (∀ j, i ≤ j → j < (l.length : Int) → PtP (rd_T46 l j)) → e = 2) := by
  refine count_up 0 (l.length : Int) _ ?_ ?_
  · exact ⟨r1, Ev.step (fun k => spileref08_Check.l0.eq_2 ..) (evn (by omega) h1), fun _ => rfl, fun h => absurd (fun j a b => by omega) h⟩
  · intro i h0 h1 ih
    by_cases c : LenP (rd_T46 l i).f0
    · by_cases d : LenP (rd_T46 l i).f1
      · obtain ⟨e, he, a, b⟩ := ih
        rw [← w64_succ h0 h1 hl] at he
        refine ⟨e, Ev.step (fun k => spileref08_Check.l0.eq_2 ..) (evp h1 (evp h0 (evb (evc (fun _ => rfl) (isLength_f _)) (evp (decide_eq_true c) (evb (evc (fun _ => rfl) (isLength_f _)) (evp (decide_eq_true d) he)))))), fun h => a (fun j x y => h j (by omega) y), fun h => b (fun z => h (fun j x y => ?_))⟩
        by_cases q : j = i
        · rw [q]; exact ⟨c, d⟩
        · exact z j (by omega) y
      · exact ⟨2, Ev.step (fun k => spileref08_Check.l0.eq_2 ..) (evp h1 (evp h0 (evb (evc (fun _ => rfl) (isLength_f _)) (evp (decide_eq_true c) (evb (evc (fun _ => rfl) (isLength_f _)) (evn (by simp [d]) (Ev.now _))))))), fun h => absurd (h i (Int.le_refl _) h1).2 d, fun _ => rfl⟩
    · exact ⟨2, Ev.step (fun k => spileref08_Check.l0.eq_2 ..) (evp h1 (evp h0 (evb (evc (fun _ => rfl) (isLength_f _)) (evn (by simp [c]) (Ev.now _))))), fun h => absurd (h i (Int.le_refl _) h1).1 c, fun _ => rfl⟩
def OKP (l : List S46) : Prop := 2 ≤ (l.length : Int) ∧ (l.length : Int) ≤ 32 ∧ AllP l ∧ (rd_T46 l 0).f0 = 0 ∧ profile_Check.steps (nbs l) = 0 ∧ NonZ l ∧ profile_Check.falls false (nbs l) = 0
theorem prof_both (l : List S46) (hl : (l.length : Int) ≤ 9223372036854775807) : ∃ e, Ev (fun k => profile_Check.f k l) e ∧ Ev (fun k => spileref08_Check.f k l) e ∧ (e = 0 ↔ OKP l) ∧ e ≠ 3 := by
  by_cases c1 : (l.length : Int) < 2
  · exact ⟨9, evp c1 (Ev.now _), evp c1 (Ev.now _), ⟨fun h => absurd h (by decide), fun h => by have := h.1; omega⟩, by decide⟩
  by_cases c2 : (l.length : Int) > 32
  · exact ⟨8, evn c1 (evp c2 (Ev.now _)), evn c1 (evp c2 (Ev.now _)), ⟨fun h => absurd h (by decide), fun h => by have := h.2.1; omega⟩, by decide⟩
  obtain ⟨b1, hb1, hi1⟩ := contains56 l hl
  obtain ⟨b2, hb2, hi2⟩ := contains59 l hl
  have h3 := ref_falls l hl 1 (by omega) false (.inl (by omega))
  rw [show ((1 : Int) - 1).toNat = 0 from rfl, List.drop_zero] at h3
  obtain ⟨r2, h2, a2, z2⟩ := ref_zero l hl _ h3 0 (by omega) (by omega)
  have h1 := ref_steps l hl r2 h2 1 (by omega) (by omega)
  rw [show ((1 : Int) - 1).toNat = 0 from rfl, List.drop_zero] at h1
  have h10 : Ev (fun k => spileref08_Check.l1 k l 0) (if (rd_T46 l 0).f0 = 0 then (if profile_Check.steps (nbs l) = 0 then r2 else 5) else 5) := by
    refine Ev.step (fun k => spileref08_Check.l1.eq_2 ..) (evp (by omega) (evp rfl (evp (by omega) ?_)))
    by_cases q : (rd_T46 l 0).f0 = 0
    · rw [if_pos q]
      exact evp q (evn (by omega) (by rw [show wrap64 ((0 : Int) + 1) = 1 from w64 (by omega) (by omega)]; exact h1))
    · rw [if_neg q]
      exact evn q (Ev.now _)
  obtain ⟨e, he, ea, ez⟩ := ref_all l hl _ h10 0 (by omega) (by omega)
  have hE2 : Ev (fun k => spileref08_Check.f k l) e := evn c1 (evn c2 he)
  by_cases ha : AllP l
  case neg =>
    obtain rfl := ez ha
    exact ⟨2, evn c1 (evn c2 (evb hb1 (evp (hi1.2 ha) (Ev.now _)))), hE2, ⟨fun h => absurd h (by decide), fun h => absurd h.2.2.1 ha⟩, by decide⟩
  have hb1f : ¬ b1 = true := fun q => hi1.1 q ha
  have he1 := ea ha
  by_cases h0 : (rd_T46 l 0).f0 = 0
  case neg =>
    rw [if_neg h0] at he1
    subst he1
    exact ⟨5, evn c1 (evn c2 (evb hb1 (evn hb1f (evn h0 (Ev.now _))))), hE2, ⟨fun h => absurd h (by decide), fun h => absurd h.2.2.2.1 h0⟩, by decide⟩
  rw [if_pos h0] at he1
  by_cases hs : profile_Check.steps (nbs l) = 0
  case neg =>
    rw [if_neg hs] at he1
    subst he1
    exact ⟨5, evn c1 (evn c2 (evb hb1 (evn hb1f (evp h0 (evn hs (Ev.now _)))))), hE2, ⟨fun h => absurd h (by decide), fun h => absurd h.2.2.2.2.1 hs⟩, by decide⟩
  rw [if_pos hs] at he1
  by_cases hz : NonZ l
  case neg =>
    have := z2 hz
    subst he1
    subst this
    exact ⟨16, evn c1 (evn c2 (evb hb1 (evn hb1f (evp h0 (evp hs (evb hb2 (evp (hi2.2 hz) (Ev.now _)))))))), hE2, ⟨fun h => absurd h (by decide), fun h => absurd h.2.2.2.2.2.1 hz⟩, by decide⟩
  have := a2 hz
  subst he1
  subst this
  refine ⟨_, evn c1 (evn c2 (evb hb1 (evn hb1f (evp h0 (evp hs (evb hb2 (evn (fun q => hi2.1 q hz) (Ev.now _)))))))), hE2, ⟨fun h => ⟨by omega, by omega, ha, h0, hs, hz, h⟩, fun h => h.2.2.2.2.2.2⟩, ?_⟩
  rcases falls_or false (nbs l) with q | q <;> rw [q] <;> decide
def OKC (x : S27) : Prop := NameP x.f0 ∧ (x.f1 = 1 ∨ x.f1 = 2) ∧ 0 ≤ x.f3 ∧ x.f3 ≤ 1073741824 ∧ OKP x.f2
/-- Of sizes that a machine can have. -/
def Sm (x : S27) : Prop := x.f0.size < 4294967296 ∧ x.f2.length < 4294967296
theorem check_both (x : S27) (hx : Sm x) : ∃ e, Ev (fun k => cask_Check.f k x.f0 x.f1 x.f2 x.f3) e ∧ Ev (fun k => spileref09_Check.f k x.f0 x.f1 x.f2 x.f3) e ∧ (e = 0 ↔ OKC x) ∧ e ≠ 3 := by
  obtain ⟨b, n1, n2, n3⟩ := name_both x.f0 (by have := hx.1; omega)
  obtain ⟨e, p1, p2, p3, p4⟩ := prof_both x.f2 (by have := hx.2; omega)
  cases b with
  | false =>
    exact ⟨4, evb n1 (evn (by decide) (Ev.now _)), evb n2 (evn (by decide) (Ev.now _)), ⟨fun h => absurd h (by decide), fun h => absurd (n3.2 h.1) (by decide)⟩, by decide⟩
  | true =>
    have hn := n3.1 rfl
    have fin : (x.f1 = 1 ∨ x.f1 = 2) → ∃ e, Ev (fun k => cask_Check.j0 k false x.f0 x.f1 x.f2 x.f3) e ∧ Ev (fun k => if x.f3 < 0 then some 2 else if x.f3 > 1073741824 then some 2 else (spileref08_Check.f k x.f2).bind fun t => some t) e ∧ (e = 0 ↔ OKC x) ∧ e ≠ 3 := by
      intro hpos
      by_cases d1 : x.f3 < 0
      · exact ⟨2, Ev.step (fun k => cask_Check.j0.eq_2 ..) (evn (by decide) (evp d1 (Ev.now _))), evp d1 (Ev.now _), ⟨fun h => absurd h (by decide), fun h => by have := h.2.2.1; omega⟩, by decide⟩
      by_cases d2 : x.f3 > 1073741824
      · exact ⟨2, Ev.step (fun k => cask_Check.j0.eq_2 ..) (evn (by decide) (evn d1 (evp d2 (Ev.now _)))), evn d1 (evp d2 (Ev.now _)), ⟨fun h => absurd h (by decide), fun h => by have := h.2.2.2.1; omega⟩, by decide⟩
      exact ⟨e, Ev.step (fun k => cask_Check.j0.eq_2 ..) (evn (by decide) (evn d1 (evn d2 (evb p1 (Ev.now _))))), evn d1 (evn d2 (evb p2 (Ev.now _))), p3.trans ⟨fun h => ⟨hn, hpos, by omega, by omega, h⟩, fun h => h.2.2.2.2⟩, p4⟩
    by_cases c1 : x.f1 = 1
    · obtain ⟨e, a, b, c, d⟩ := fin (.inl c1)
      exact ⟨e, evb n1 (evp rfl (evp c1 a)), evb n2 (evp rfl (evp c1 b)), c, d⟩
    · by_cases c2 : x.f1 = 2
      · obtain ⟨e, a, b, c, d⟩ := fin (.inr c2)
        exact ⟨e, evb n1 (evp rfl (evn c1 (by rw [show (x.f1 != 2) = false from by simp [c2]]; exact a))), evb n2 (evp rfl (evn c1 (evp c2 b))), c, d⟩
      · refine ⟨2, evb n1 (evp rfl (evn c1 (Ev.step (fun k => cask_Check.j0.eq_2 ..) (evp (by simp [c2]) (Ev.now _))))), evb n2 (evp rfl (evn c1 (evn c2 (Ev.now _)))), ⟨fun h => absurd h (by decide), fun h => ?_⟩, by decide⟩
        rcases h.2.1 with q | q
        · exact absurd q c1
        · exact absurd q c2
def SmL (l : List S27) : Prop := l.length < 4294967296 ∧ ∀ x, x ∈ l → Sm x
theorem rd27_mem {l : List S27} {i : Int} (h0 : 0 ≤ i) (h : i < (l.length : Int)) : rd_T27 l i ∈ l := by
  unfold rd_T27
  rw [List.getD_eq_getElem?_getD, List.getElem?_eq_getElem (by omega)]
  exact List.getElem_mem _
theorem drop27 {l : List S27} {i : Int} (h0 : 0 ≤ i) (h1 : i < (l.length : Int)) : l.drop i.toNat = rd_T27 l i :: l.drop (i + 1).toNat := by
  have hl : i.toNat < l.length := by omega
  have g : rd_T27 l i = l[i.toNat] := by
    unfold rd_T27
    simp [List.getD_eq_getElem?_getD, List.getElem?_eq_getElem hl]
  rw [g, show (i + 1).toNat = i.toNat + 1 from by omega, ← List.drop_eq_getElem_cons hl]
def nm (x : S27) : List UInt8 := x.f0.data.toList
/-- No name from i on stands ahead of itself. -/
def NoDup (l : List S27) (i : Int) : Prop := ∀ j, i ≤ j → j < (l.length : Int) → ∀ m, 0 ≤ m → m < j → nm (rd_T27 l j) ≠ nm (rd_T27 l m)
theorem tw_ev (l : List S27) (hl : SmL l) : ∀ i, 0 ≤ i → i ≤ (l.length : Int) → ∀ s, (∀ x, x ∈ s ↔ ∃ m, 0 ≤ m ∧ m < i ∧ nm (rd_T27 l m) = x) →
    ∃ e, cask_List.tw s (l.drop i.toNat) = some e ∧ (NoDup l i → e = 0) ∧ (¬ NoDup l i → e = 6) := by
  refine count_up 0 (l.length : Int) _ ?_ ?_
  · intro s hs
    rw [List.drop_eq_nil_of_le (by omega)]
    exact ⟨0, rfl, fun _ => rfl, fun h => absurd (fun j a b => by omega) h⟩
  · intro i h0 h1 ih s hs
    rw [drop27 h0 h1]
    unfold cask_List.tw
    rw [if_pos (hl.2 _ (rd27_mem h0 h1)).1]
    by_cases c : (rd_T27 l i).f0.data.toList ∈ s
    · refine ⟨6, by rw [if_pos c], fun h => ?_, fun _ => rfl⟩
      obtain ⟨m, m0, m1, m2⟩ := (hs _).1 c
      exact absurd m2.symm (h i (Int.le_refl _) h1 m m0 m1)
    · obtain ⟨e, e1, e2, e3⟩ := ih ((rd_T27 l i).f0.data.toList :: s) (fun x => by
        rw [List.mem_cons, hs]
        constructor
        · rintro (q | ⟨m, m0, m1, m2⟩)
          · exact ⟨i, h0, by omega, q.symm⟩
          · exact ⟨m, m0, by omega, m2⟩
        · rintro ⟨m, m0, m1, m2⟩
          by_cases q : m = i
          · subst q; exact .inl m2.symm
          · exact .inr ⟨m, m0, by omega, m2⟩)
      refine ⟨e, by rw [if_neg c]; exact e1, fun h => e2 (fun j a b => h j (by omega) b), fun h => e3 (fun z => h (fun j a b m m0 m1 => ?_))⟩
      by_cases q : j = i
      · subst q
        exact fun z2 => c ((hs _).2 ⟨m, m0, m1, z2.symm⟩)
      · exact z j (by omega) b m m0 m1
theorem toL (s : ByteArray) : s.toList = s.data.toList := Lib.toList_data s
theorem ref_dup (l : List S27) (hl : SmL l) : ∀ i, 0 ≤ i → i ≤ (l.length : Int) → ∃ e, Ev (fun k => spileref09_List.l1 k l i) e ∧ (NoDup l i → e = 0) ∧ (¬ NoDup l i → e = 6) := by
  have hz := hl.1
  refine count_up 0 (l.length : Int) _ ?_ ?_
  · exact ⟨0, Ev.step (fun k => spileref09_List.l1.eq_2 ..) (evn (by omega) (Ev.now _)), fun _ => rfl, fun h => absurd (fun j a b => by omega) h⟩
  · intro i h0 h1 ⟨e, e1, e2, e3⟩
    rw [← w64_succ h0 h1 (by omega)] at e1
    have key : ∀ m, 0 ≤ m → m ≤ i → ∃ e', Ev (fun k => spileref09_List.l2 k l i m) e' ∧ ((∀ q, m ≤ q → q < i → nm (rd_T27 l i) ≠ nm (rd_T27 l q)) → e' = e) ∧ (¬ (∀ q, m ≤ q → q < i → nm (rd_T27 l i) ≠ nm (rd_T27 l q)) → e' = 6) := by
      refine count_up 0 i _ ?_ ?_
      · exact ⟨e, Ev.step (fun k => spileref09_List.l2.eq_2 ..) (evn (by omega) e1), fun _ => rfl, fun h => absurd (fun q a b => by omega) h⟩
      · intro m m0 m1 ⟨f, f1, f2, f3⟩
        by_cases c : ((rd_T27 l i).f0).toList = ((rd_T27 l m).f0).toList
        · exact ⟨6, Ev.step (fun k => spileref09_List.l2.eq_2 ..) (evp m1 (evp h0 (evp h1 (evp m0 (evp (by omega) (evp c (Ev.now _))))))), fun h => absurd (by rw [toL, toL] at c; exact c) (h m (Int.le_refl _) m1), fun _ => rfl⟩
        · rw [← w64_succ m0 m1 (by omega)] at f1
          refine ⟨f, Ev.step (fun k => spileref09_List.l2.eq_2 ..) (evp m1 (evp h0 (evp h1 (evp m0 (evp (by omega) (evn c f1)))))), fun h => f2 (fun q a b => h q (by omega) b), fun h => f3 (fun z => h (fun q a b => ?_))⟩
          by_cases qe : q = m
          · subst qe
            exact fun z2 => c (by rw [toL, toL]; exact z2)
          · exact z q (by omega) b
    obtain ⟨f, f1, f2, f3⟩ := key 0 (by omega) h0
    refine ⟨f, Ev.step (fun k => spileref09_List.l1.eq_2 ..) (evp h1 f1), fun h => ?_, fun h => ?_⟩
    · rw [f2 (fun q a b => h i (Int.le_refl _) h1 q a b)]
      exact e2 (fun j a b => h j (by omega) b)
    · by_cases z : ∀ q, 0 ≤ q → q < i → nm (rd_T27 l i) ≠ nm (rd_T27 l q)
      · rw [f2 z]
        refine e3 (fun y => h (fun j a b m m0 m1 => ?_))
        by_cases q : j = i
        · subst q; exact z m m0 m1
        · exact y j (by omega) b m m0 m1
      · exact f3 z
def OKL (l : List S27) : Prop := (l.length : Int) ≤ 32 ∧ (∀ x, x ∈ l → OKC x) ∧ NoDup l 0
theorem ck_both (l : List S27) (hl : SmL l) (r1 : Int) (h1 : Ev (fun k => spileref09_List.l1 k l 0) r1) : ∀ i, 0 ≤ i → i ≤ (l.length : Int) → ∃ e f, Ev (fun k => cask_List.ck k (l.drop i.toNat)) e ∧ Ev (fun k => spileref09_List.l0 k l i) f ∧ e ≠ 3 ∧
    ((∀ x, x ∈ l.drop i.toNat → OKC x) → e = 0 ∧ f = r1) ∧ (¬ (∀ x, x ∈ l.drop i.toNat → OKC x) → e ≠ 0 ∧ f = e) := by
  have hz := hl.1
  refine count_up 0 (l.length : Int) _ ?_ ?_
  · rw [List.drop_eq_nil_of_le (by omega)]
    exact ⟨0, r1, evr rfl, Ev.step (fun k => spileref09_List.l0.eq_2 ..) (evn (by omega) h1), by decide, fun _ => ⟨rfl, rfl⟩, fun h => absurd (fun x hx => by cases hx) h⟩
  · intro i h0 h1 ⟨e, f, e1, f1, e3, a, b⟩
    obtain ⟨c, c1, c2, c3, c4⟩ := check_both (rd_T27 l i) (hl.2 _ (rd27_mem h0 h1))
    rw [← w64_succ h0 h1 (by omega)] at f1
    rw [drop27 h0 h1]
    by_cases z : c = 0
    · have hok := c3.1 z
      refine ⟨e, f, evb c1 (evp z e1), Ev.step (fun k => spileref09_List.l0.eq_2 ..) (evp h1 (evp h0 (evb c2 (evp z f1)))), e3, fun h => a (fun x hx => h x (List.mem_cons_of_mem _ hx)), fun h => b (fun y => h (fun x hx => ?_))⟩
      rcases List.mem_cons.1 hx with q | q
      · rw [q]; exact hok
      · exact y x q
    · exact ⟨c, c, evb c1 (evn z (Ev.now _)), Ev.step (fun k => spileref09_List.l0.eq_2 ..) (evp h1 (evp h0 (evb c2 (evn z (Ev.now _))))), c4, fun h => absurd (c3.2 (h _ (List.mem_cons_self ..))) z, fun _ => ⟨z, rfl⟩⟩
theorem list_both (l : List S27) (hl : SmL l) : ∃ e, Ev (fun k => cask_List.f k l) e ∧ Ev (fun k => spileref09_List.f k l) e ∧ (e = 0 ↔ OKL l) ∧ e ≠ 3 := by
  by_cases c : (l.length : Int) > 32
  · exact ⟨8, evp c (Ev.now _), evp c (Ev.now _), ⟨fun h => absurd h (by decide), fun h => by have := h.1; omega⟩, by decide⟩
  obtain ⟨t, t1, t2, t3⟩ := tw_ev l hl 0 (by omega) (by omega) [] (fun x => ⟨fun h => (by cases h), fun ⟨m, a, b, _⟩ => (by omega)⟩)
  obtain ⟨d, d1, d2, d3⟩ := ref_dup l hl 0 (by omega) (by omega)
  obtain ⟨e, f, e1, f1, e3, a, b⟩ := ck_both l hl d d1 0 (by omega) (by omega)
  rw [show (0 : Int).toNat = 0 from rfl, List.drop_zero] at t1 e1 a b
  have htd : t = d ∧ (t = 0 ↔ NoDup l 0) ∧ t ≠ 3 := by
    by_cases q : NoDup l 0
    · rw [t2 q, d2 q]; exact ⟨rfl, ⟨fun _ => q, fun _ => rfl⟩, by decide⟩
    · rw [t3 q, d3 q]; exact ⟨rfl, ⟨fun h => absurd h (by decide), fun h => absurd h q⟩, by decide⟩
  by_cases ok : ∀ x, x ∈ l → OKC x
  · obtain ⟨rfl, rfl⟩ := a ok
    refine ⟨t, evn c (evb e1 (evp rfl (evc (fun _ => rfl) t1))), evn c (by rw [htd.1]; exact f1), htd.2.1.trans ⟨fun h => ⟨by omega, ok, h⟩, fun h => h.2.2⟩, htd.2.2⟩
  · obtain ⟨z, rfl⟩ := b ok
    exact ⟨f, evn c (evb e1 (evn z (Ev.now _))), evn c f1, ⟨fun h => absurd h z, fun h => absurd h.2.1 ok⟩, e3⟩
end Go.Proofs.YtnhmlneebnkjcaaDoor.PL
namespace Go.Proofs.YtnhmlneebnkjcaaDoor.PL
open Go Go.RowKit Go.Proofs.YtnhmlneebnkjcaaDoorW.PrintWords Go.Proofs.YtnhmlneebnkjcaaDoorW.PrintLast Go.Proofs.YtnhmlneebnkjcaaDoorW.PrintMore Go.Proofs.YtnhmlneebnkjcaaDoor.Pr Go.Proofs.YtnhmlneebnkjcaaDoor.Opn Go.Proofs.YtnhmlneebnkjcaaDoor.X
def FewP (l : List S27) : Prop := (l.length : Int) ≤ 33 ∧ ∀ x, x ∈ l → x.f2.length ≤ 33 ∧ x.f0.size ≤ 70
theorem FewP.sm {l : List S27} (h : FewP l) : SmL l := ⟨by have := h.1; omega, fun x hx => ⟨by have := (h.2 x hx).2; omega, by have := (h.2 x hx).1; omega⟩⟩
theorem few_ev (l : List S27) (hl : (l.length : Int) ≤ 9223372036854775807) : ∃ b, Ev (fun k => spileref09_Few.f k l) b ∧ (b = true → FewP l) := by
  have key : ∀ i, 0 ≤ i → i ≤ (l.length : Int) → ∃ b, Ev (fun k => spileref09_Few.l0 k l i) b ∧ (b = true → (l.length : Int) ≤ 33 ∧ ∀ x, x ∈ l.drop i.toNat → x.f2.length ≤ 33 ∧ x.f0.size ≤ 70) := by
    refine count_up 0 (l.length : Int) _ ?_ ?_
    · refine ⟨_, Ev.step (fun k => spileref09_Few.l0.eq_2 ..) (evn (by omega) (Ev.now _)), fun h => ⟨of_decide_eq_true h, fun x hx => ?_⟩⟩
      rw [List.drop_eq_nil_of_le (by omega)] at hx
      cases hx
    · intro i h0 h1 ⟨b, hb, hi⟩
      have hf : Ev (fun _ : Nat => spileref08_Few.f (rd_T27 l i).f2) (decide (((rd_T27 l i).f2.length : Int) ≤ 33)) := Ev.now _
      by_cases c : ((rd_T27 l i).f2.length : Int) ≤ 33
      · by_cases d : ((rd_T27 l i).f0.size : Int) > 70
        · exact ⟨false, Ev.step (fun k => spileref09_Few.l0.eq_2 ..) (evp h1 (evp h0 (evb hf (evp (decide_eq_true c) (evp d (Ev.now _)))))), fun h => by cases h⟩
        · rw [← w64_succ h0 h1 hl] at hb
          refine ⟨b, Ev.step (fun k => spileref09_Few.l0.eq_2 ..) (evp h1 (evp h0 (evb hf (evp (decide_eq_true c) (evn d hb))))), fun h => ⟨(hi h).1, fun x hx => ?_⟩⟩
          rw [drop27 h0 h1] at hx
          rcases List.mem_cons.1 hx with q | q
          · rw [q]; exact ⟨by omega, by omega⟩
          · exact (hi h).2 x q
      · exact ⟨false, Ev.step (fun k => spileref09_Few.l0.eq_2 ..) (evp h1 (evp h0 (evb hf (evn (by simpa using c) (Ev.now _))))), fun h => by cases h⟩
  obtain ⟨b, hb, hi⟩ := key 0 (by omega) (by omega)
  exact ⟨b, hb, fun h => by have := hi h; rwa [show (0 : Int).toNat = 0 from rfl, List.drop_zero] at this⟩
theorem copy_ev (l : List S27) (hl : SmL l) : Ev (fun k => spileref09_Copy.f k l) l := by
  have hz := hl.1
  have key : ∀ i, 0 ≤ i → i ≤ (l.length : Int) → Ev (fun k => spileref09_Copy.l0 k l (l.take i.toNat) i) l := by
    refine count_up 0 (l.length : Int) _ ?_ ?_
    · rw [show ((l.length : Int)).toNat = l.length from by omega, List.take_length]
      exact Ev.step (fun k => spileref09_Copy.l0.eq_2 ..) (evn (by omega) (Ev.now _))
    · intro i h0 h1 ih
      have hs := (hl.2 _ (rd27_mem h0 h1)).2
      rw [← w64_succ h0 h1 (by omega)] at ih
      have e : l.take (wrap64 (i + 1)).toNat = l.take i.toNat ++ [(⟨(rd_T27 l i).f0, (rd_T27 l i).f1, ([] : List S46) ++ (rd_T27 l i).f2, (rd_T27 l i).f3⟩ : S27)] := by
        rw [w64_succ h0 h1 (by omega), show (i + 1).toNat = i.toNat + 1 from by omega, List.take_add_one, List.nil_append]
        congr 1
        rw [List.getElem?_eq_getElem (by omega)]
        unfold rd_T27
        rw [List.getD_eq_getElem?_getD, List.getElem?_eq_getElem (by omega)]
        rfl
      rw [e] at ih
      refine Ev.step (fun k => spileref09_Copy.l0.eq_2 ..) (evp h1 (evp h0 (evb (Ev.now ([] : List S46)) (evp (by simp; omega) (evp (by rw [List.length_take]; omega) ih)))))
  have := key 0 (by omega) (by omega)
  rwa [show (0 : Int).toNat = 0 from rfl, List.take_zero] at this
theorem toList_inj {a b : ByteArray} (h : a.toList = b.toList) : a = b := by
  rw [toL, toL] at h
  rw [← ba_data a, h, ba_data]
theorem ext46 {a b : List S46} (h : a.length = b.length) (e : ∀ i, 0 ≤ i → i < (a.length : Int) → rd_T46 a i = rd_T46 b i) : a = b := by
  refine List.ext_getElem h fun i h1 h2 => ?_
  have := e (i : Int) (by omega) (by omega)
  unfold rd_T46 at this
  rw [Int.toNat_natCast, List.getD_eq_getElem?_getD, List.getD_eq_getElem?_getD, List.getElem?_eq_getElem h1, List.getElem?_eq_getElem h2] at this
  exact this
theorem same46_ev (a b : List S46) (ha : (a.length : Int) ≤ 9223372036854775807) : EvB (fun k => spileref08_Same.f k a b) (a = b) := by
  by_cases c : (a.length : Int) = (b.length : Int)
  case neg => exact ⟨fun h => absurd (by rw [h]) c, fun _ => evn c (Ev.now _)⟩
  have L := evB_all 0 (a.length : Int) (fun j => rd_T46 a j = rd_T46 b j) (fun i k => spileref08_Same.l0 k a b i)
    (Ev.step (fun k => spileref08_Same.l0.eq_2 ..) (evn (by omega) (Ev.now _)))
    (fun i h0 h1 hq => Ev.step (fun k => spileref08_Same.l0.eq_2 ..) (evp h1 (evp h0 (evp (by omega) (evp (by
      by_cases q : (rd_T46 a i).f0 = (rd_T46 b i).f0
      · have : ¬ (rd_T46 a i).f1 = (rd_T46 b i).f1 := fun z => hq (by cases e : rd_T46 a i; cases e2 : rd_T46 b i; rw [e, e2] at q z; simp_all)
        simp [q, this]
      · simp [q]) (Ev.now _))))))
    (fun i h0 h1 hq r hr => by
      rw [← w64_succ h0 h1 ha] at hr
      exact Ev.step (fun k => spileref08_Same.l0.eq_2 ..) (evp h1 (evp h0 (evp (by omega) (evn (by rw [hq]; simp) hr))))) 0 (by omega) (by omega)
  have L' : EvB (fun k => spileref08_Same.f k a b) (∀ j, 0 ≤ j → j < (a.length : Int) → rd_T46 a j = rd_T46 b j) := ⟨fun h => evp c (L.1 h), fun h => evp c (L.2 h)⟩
  exact L'.iff ⟨fun h => ext46 (by omega) h, fun h => by rw [h]; exact fun _ _ _ => rfl⟩
theorem same27_ev (x y : S27) (hx : (x.f2.length : Int) ≤ 9223372036854775807) : EvB (fun k => spileref09_SameCask.f k x.f0 x.f1 x.f2 x.f3 y.f0 y.f1 y.f2 y.f3) (x = y) := by
  obtain ⟨x0, x1, x2, x3⟩ := x
  obtain ⟨y0, y1, y2, y3⟩ := y
  have h2 := same46_ev x2 y2 hx
  refine ⟨fun h => ?_, fun h => ?_⟩
  · cases h
    exact evp rfl (evp rfl (evp rfl (evb (h2.1 rfl) (Ev.now _))))
  · by_cases c0 : x0.toList = y0.toList
    · by_cases c1 : x1 = y1
      · by_cases c3 : x3 = y3
        · exact evp c0 (evp c1 (evp c3 (evb (h2.2 (fun c2 => h (by rw [toList_inj c0, c1, c2, c3]))) (Ev.now _))))
        · exact evp c0 (evp c1 (evn c3 (Ev.now _)))
      · exact evp c0 (evn c1 (Ev.now _))
    · exact evn c0 (Ev.now _)
theorem own_f (x : S27) (hx : Sm x) : cask_own.f x.f0 x.f1 x.f2 x.f3 = some (x.f0, x.f1, x.f2, x.f3) := by
  unfold cask_own.f
  rw [if_pos (by have := hx.2; simp; omega)]
  rfl
def tup (x : S27) (e : Int) : ByteArray × Int × List S46 × Int × Int := (x.f0, x.f1, x.f2, x.f3, e)
def none27 : S27 := ⟨⟨#[]⟩, 0, [], 0⟩
theorem find_both (l : List S27) (hl : SmL l) (a : ByteArray) : ∃ x e, Ev (fun k => cask_Find.f k l a) (tup x e) ∧ Ev (fun k => spileref09_Find.f k l a) (tup x e) ∧ (x.f2.length : Int) ≤ 9223372036854775807 ∧
    (OKL l → (∃ i, 0 ≤ i ∧ i < (l.length : Int) ∧ nm (rd_T27 l i) = a.data.toList ∧ x = rd_T27 l i ∧ e = 0) ∨ ((∀ i, 0 ≤ i → i < (l.length : Int) → nm (rd_T27 l i) ≠ a.data.toList) ∧ x = none27 ∧ e = 7)) := by
  have hz := hl.1
  obtain ⟨e, e1, e2, e3, _⟩ := list_both l hl
  by_cases c : e = 0
  case neg => exact ⟨none27, e, evb e1 (evn c (Ev.now _)), evb e2 (evn c (Ev.now _)), by simp [none27], fun h => absurd (e3.2 h) c⟩
  have key : ∀ i, 0 ≤ i → i ≤ (l.length : Int) → ∃ x e, Ev (fun k => cask_Find.l0 k a l (l.length : Int) i) (tup x e) ∧ Ev (fun k => spileref09_Find.l0 k l a i) (tup x e) ∧ (x.f2.length : Int) ≤ 9223372036854775807 ∧
      ((∃ j, i ≤ j ∧ j < (l.length : Int) ∧ nm (rd_T27 l j) = a.data.toList ∧ x = rd_T27 l j ∧ e = 0) ∨ ((∀ j, i ≤ j → j < (l.length : Int) → nm (rd_T27 l j) ≠ a.data.toList) ∧ x = none27 ∧ e = 7)) := by
    refine count_up 0 (l.length : Int) _ ?_ ?_
    · exact ⟨none27, 7, Ev.step (fun k => cask_Find.l0.eq_2 ..) (evn (by omega) (Ev.now _)), Ev.step (fun k => spileref09_Find.l0.eq_2 ..) (evn (by omega) (Ev.now _)), by simp [none27], .inr ⟨fun j a b => by omega, rfl, rfl⟩⟩
    · intro i h0 h1 ⟨x, e, x1, x2, x3, x4⟩
      have sm := hl.2 _ (rd27_mem h0 h1)
      by_cases q : (rd_T27 l i).f0.toList = a.toList
      · have one : (l.take (wrap64 (i + 1)).toNat).drop i.toNat = [rd_T27 l i] := by
          rw [w64_succ h0 h1 (by omega), show (i + 1).toNat = i.toNat + 1 from by omega, List.take_add_one, List.getElem?_eq_getElem (by omega)]
          rw [List.drop_append, List.drop_eq_nil_of_le (by rw [List.length_take]; omega), List.length_take, show i.toNat - min i.toNat l.length = 0 from by omega]
          unfold rd_T27
          rw [List.getD_eq_getElem?_getD, List.getElem?_eq_getElem (by omega)]
          rfl
        have hc := copy_ev [rd_T27 l i] ⟨by simp, fun y hy => by rw [List.mem_singleton.1 hy]; exact sm⟩
        rw [← one] at hc
        refine ⟨rd_T27 l i, 0, Ev.step (fun k => cask_Find.l0.eq_2 ..) (evp h1 (evp h0 (evp h1 (evp q (evb (evc (fun _ => rfl) (own_f _ sm)) (Ev.now _)))))), Ev.step (fun k => spileref09_Find.l0.eq_2 ..) (evp h1 (evp h0 (evp q (evp (by rw [w64_succ h0 h1 (by omega)]; omega) (evp (by rw [w64_succ h0 h1 (by omega)]; omega) (evb hc ?_)))))), by have := sm.2; omega, .inl ⟨i, Int.le_refl _, h1, by rw [toL, toL] at q; exact q, rfl, rfl⟩⟩
        rw [one]
        exact evp (by simp) (Ev.now _)
      · rw [← w64_succ h0 h1 (by omega)] at x1 x2
        refine ⟨x, e, Ev.step (fun k => cask_Find.l0.eq_2 ..) (evp h1 (evp h0 (evp h1 (evn q x1)))), Ev.step (fun k => spileref09_Find.l0.eq_2 ..) (evp h1 (evp h0 (evn q x2))), x3, ?_⟩
        rcases x4 with ⟨j, j0, j1, j2⟩ | ⟨n1, n2⟩
        · exact .inl ⟨j, by omega, j1, j2⟩
        · refine .inr ⟨fun j j0 j1 => ?_, n2⟩
          by_cases je : j = i
          · subst je
            exact fun z => q (by rw [toL, toL]; exact z)
          · exact n1 j (by omega) j1
  obtain ⟨x, f, x1, x2, x3, x4⟩ := key 0 (by omega) (by omega)
  exact ⟨x, f, evb e1 (evp c x1), evb e2 (evp c x2), x3, fun _ => x4⟩
def IsMax (v : Int) (l : List S46) : Prop := (∃ j, 0 ≤ j ∧ j < (l.length : Int) ∧ (rd_T46 l j).f1 = v) ∧ ∀ j, 0 ≤ j → j < (l.length : Int) → (rd_T46 l j).f1 ≤ v
theorem bung_both (l : List S46) (hl : (l.length : Int) ≤ 9223372036854775807) (hp : OKP l) : ∃ b, Ev (fun k => profile_Bung.f k l) (b, 0) ∧ Ev (fun k => spileref08_Bung.f k l) (b, 0) ∧ 0 ≤ b ∧ b < (l.length : Int) ∧ IsMax (rd_T46 l b).f1 l := by
  obtain ⟨e, e1, e2, e3, _⟩ := prof_both l hl
  obtain rfl := e3.2 hp
  have hn := hp.1
  have key : ∀ i, 0 ≤ i → i ≤ (l.length : Int) → ∀ b, 0 ≤ b → b < (l.length : Int) → (∀ j, 0 ≤ j → j < i → (rd_T46 l j).f1 ≤ (rd_T46 l b).f1) →
      ∃ r, Ev (fun k => profile_Bung.l0 k l b l (l.length : Int) i) (r, 0) ∧ Ev (fun k => spileref08_Bung.l0 k l b i) (r, 0) ∧ 0 ≤ r ∧ r < (l.length : Int) ∧ ∀ j, 0 ≤ j → j < (l.length : Int) → (rd_T46 l j).f1 ≤ (rd_T46 l r).f1 := by
    refine count_up 0 (l.length : Int) _ ?_ ?_
    · intro b b0 b1 hm
      exact ⟨b, Ev.step (fun k => profile_Bung.l0.eq_2 ..) (evn (by omega) (Ev.now _)), Ev.step (fun k => spileref08_Bung.l0.eq_2 ..) (evn (by omega) (Ev.now _)), b0, b1, hm⟩
    · intro i h0 h1 ih b b0 b1 hm
      by_cases q : (rd_T46 l i).f1 > (rd_T46 l b).f1
      · obtain ⟨r, r1, r2, r3⟩ := ih i h0 h1 (fun j j0 j1 => by
          by_cases je : j = i
          · rw [je]; exact Int.le_refl _
          · have := hm j j0 (by omega); omega)
        rw [← w64_succ h0 h1 hl] at r1 r2
        exact ⟨r, Ev.step (fun k => profile_Bung.l0.eq_2 ..) (evp h1 (evp h0 (evp h1 (evp b0 (evp b1 (evp q r1)))))), Ev.step (fun k => spileref08_Bung.l0.eq_2 ..) (evp h1 (evp h0 (evp b0 (evp b1 (evp q r2))))), r3⟩
      · obtain ⟨r, r1, r2, r3⟩ := ih b b0 b1 (fun j j0 j1 => by
          by_cases je : j = i
          · rw [je]; omega
          · exact hm j j0 (by omega))
        rw [← w64_succ h0 h1 hl] at r1 r2
        exact ⟨r, Ev.step (fun k => profile_Bung.l0.eq_2 ..) (evp h1 (evp h0 (evp h1 (evp b0 (evp b1 (evn q r1)))))), Ev.step (fun k => spileref08_Bung.l0.eq_2 ..) (evp h1 (evp h0 (evp b0 (evp b1 (evn q r2))))), r3⟩
  obtain ⟨r, r1, r2, r3, r4, r5⟩ := key 0 (by omega) (by omega) 0 (by omega) (by omega) (fun j a b => by omega)
  exact ⟨r, evb e1 (evp rfl r1), evb e2 (evp rfl r2), r3, r4, ⟨r, r3, r4, rfl⟩, r5⟩
theorem depth_both (x : S27) (hx : Sm x) : ∃ d e, Ev (fun k => cask_Depth.f k x.f0 x.f1 x.f2 x.f3) (d, e) ∧ Ev (fun k => spileref09_Depth.f k x.f0 x.f1 x.f2 x.f3) (d, e) ∧
    (OKC x → e = 0 ∧ (x.f1 = 1 → ∃ v, IsMax v x.f2 ∧ d = wrap64 (2 * v)) ∧ (x.f1 ≠ 1 → d = (rd_T46 x.f2 ((x.f2.length : Int) - 1)).f0)) := by
  have hz := hx.2
  obtain ⟨e, e1, e2, e3, _⟩ := check_both x hx
  by_cases c : e = 0
  case neg => exact ⟨0, e, evb e1 (evn c (Ev.now _)), evb e2 (evn c (Ev.now _)), fun h => absurd (e3.2 h) c⟩
  have ok := e3.1 c
  have hn := ok.2.2.2.2.1
  by_cases q : x.f1 = 1
  · obtain ⟨b, b1, b2, b3, b4, b5⟩ := bung_both x.f2 (by omega) ok.2.2.2.2
    refine ⟨wrap64 (2 * (rd_T46 x.f2 b).f1), 0, evb e1 (evp c (evp q (evb b1 (evp b3 (evp b4 (Ev.now _)))))), evb e2 (evp c (evp q (evb (show Ev (fun k => spileref09_Radius.f k x.f0 x.f1 x.f2 x.f3) (rd_T46 x.f2 b).f1 from evb b2 (evp b3 (evp b4 (Ev.now _)))) (Ev.now _)))), fun _ => ⟨rfl, fun _ => ⟨_, b5, rfl⟩, fun z => absurd q z⟩⟩
  · obtain ⟨f, f1, f2, f3, _⟩ := prof_both x.f2 (by omega)
    obtain rfl := f3.2 ok.2.2.2.2
    have w : wrap64 ((x.f2.length : Int) - 1) = (x.f2.length : Int) - 1 := w64 (by omega) (by omega)
    have hlen : profile_length.f x.f2 = some (rd_T46 x.f2 ((x.f2.length : Int) - 1)).f0 := by
      unfold profile_length.f
      rw [w, if_pos (by omega), if_pos (by omega)]
    refine ⟨(rd_T46 x.f2 ((x.f2.length : Int) - 1)).f0, 0, evb e1 (evp c (evn q (evb (show Ev (fun k => profile_Length.f k x.f2) ((rd_T46 x.f2 ((x.f2.length : Int) - 1)).f0, 0) from evb f1 (evp rfl (evb (evc (fun _ => rfl) hlen) (Ev.now _)))) (Ev.now _)))), evb e2 (evp c (evn q ?_)), fun _ => ⟨rfl, fun z => absurd z q, fun _ => rfl⟩⟩
    rw [w]
    exact evp (by omega) (evp (by omega) (Ev.now _))
end Go.Proofs.YtnhmlneebnkjcaaDoor.PL
namespace Go.Proofs.YtnhmlneebnkjcaaDoor.Pure
open Go Go.RowKit Go.Proofs.YtnhmlneebnkjcaaDoorW.PrintWords Go.Proofs.YtnhmlneebnkjcaaDoorW.PrintLast Go.Proofs.YtnhmlneebnkjcaaDoorW.PrintMore Go.Proofs.YtnhmlneebnkjcaaDoor.Pr Go.Proofs.YtnhmlneebnkjcaaDoor.Opn Go.Proofs.YtnhmlneebnkjcaaDoor.X Go.Proofs.YtnhmlneebnkjcaaDoor.PL
theorem CaskChecks : caskChecksPure := by
  intro l a hl ha
  refine Ev.rounds ?_
  obtain ⟨b, hb, hb2⟩ := few_ev l (len_le hl.1)
  have haw : Ev (fun _ : Nat => spilelaw09_awake.f) true := Ev.now _
  refine evb haw (evp rfl (evb hb ?_))
  have jt : Ev (fun k => spilelaw09_CaskChecks.j0 k l a true) true := Ev.step (fun k => spilelaw09_CaskChecks.j0.eq_2 ..) (evp rfl (Ev.now _))
  cases b with
  | false => exact evn (by decide) jt
  | true =>
    refine evp rfl ?_
    have sm := (hb2 rfl).sm
    have hz := sm.1
    by_cases c : (a.size : Int) > 70
    · rw [decide_eq_true c]
      exact jt
    · rw [decide_eq_false c]
      have hc := copy_ev l sm
      obtain ⟨x, e, x1, x2, x3, _⟩ := find_both l sm a
      obtain ⟨f, f1, f2, _⟩ := list_both l sm
      have hs := (same27_ev x x x3).1 rfl
      refine Ev.step (fun k => spilelaw09_CaskChecks.j0.eq_2 ..) (evn (by decide) (evb hc (evb x1 (evb x2 (evb hs (evp rfl (evp rfl (evb hc (evb f1 (evb f2 ?_))))))))))
      rw [show (f != f) = false from by simp]
      refine Ev.step (fun k => spilelaw09_CaskChecks.j1.eq_2 ..) (evn (by decide) (evb hc ?_))
      have key : ∀ i, 0 ≤ i → i ≤ (l.length : Int) → Ev (fun k => spilelaw09_CaskChecks.l0 k l (l.length : Int) i) true := by
        refine count_up 0 (l.length : Int) _ ?_ ?_
        · exact Ev.step (fun k => spilelaw09_CaskChecks.l0.eq_2 ..) (evn (by omega) (Ev.now _))
        · intro i h0 h1 ih
          have si := sm.2 _ (rd27_mem h0 h1)
          obtain ⟨d, g, d1, d2, _⟩ := depth_both _ si
          obtain ⟨q, q1, q2, _⟩ := check_both _ si
          rw [← w64_succ h0 h1 (by omega)] at ih
          exact Ev.step (fun k => spilelaw09_CaskChecks.l0.eq_2 ..) (evp h1 (evp h0 (evp h1 (evb d1 (evb d2 (evp rfl (evp rfl (evb q1 (evb q2 (evp rfl ih))))))))))
      exact key 0 (by omega) (by omega)
end Go.Proofs.YtnhmlneebnkjcaaDoor.Pure
namespace Go.Proofs.YtnhmlneebnkjcaaDoor.X
open Go
variable {H : Type} {enc : TypeId × Value → H}
theorem wrap_shaped {a : Assume} {C : Checked} {os : Os} {f : FuncId} {fn : Func} {s : ChangeSpec} {conds : List PathCond} {apart fresh handsOn again : Bool} {X : World → Array Value → Prop}
    (hX : ∀ (w w' : World) (args : Array Value), w.heap = w'.heap → X w args → X w' args)
    (own : ownKnob C.prog.godebug = none) (started : os.Started) (noInit : C.prog.inits.idxOf? f = none) (hfn : C.prog.funcs[f]? = some fn)
    (witness : ∃ (w : World) (tape : Tape) (i : Input), w.os = os ∧ (w.forCall tape i).Shaped C.prog ∧ i.vars = [] ∧ Input.okWide C.prog (w.forCall tape i) .any w.heap.size f i ∧
      ((s.pre enc C.prog fn conds apart (w.forCall tape i).memory i.args ∧ X (w.forCall tape i).memory i.args) ∧ sizedMet enc C.prog fn (OpenSpec.ofChange s) apart (w.forCall tape i).memory i.args) ∧ a.holds C.prog (lone (Frame.enter C.prog f i.args .normal) [] (w.forCall tape i)))
    (walk : ∀ (W : World) (base : Nat) (args : Array Value) (ds gs : List (DataW H)) (before : List MemPlace),
      (∀ (j : Nat) t v, fn.params[j]? = some t → args[j]? = some v → Value.okWide C.prog W .any base t v) →
      DataW.Whole enc C.prog fn.params.toList s.vars apart W args.toList ds gs before → X W args → W.ShapedOpen C.prog →
      Calls C.prog f args W fun e W' => ∃ v, e = .returned v ∧ s.post enc C.prog fn apart fresh handsOn again W args v W') :
    ReturnsInHanded a C os f .any (fun w args => (s.pre enc C.prog fn conds apart w args ∧ X w args) ∧ sizedMet enc C.prog fn (OpenSpec.ofChange s) apart w args) (s.post enc C.prog fn apart fresh handsOn again) := by
  refine returnsInHanded_of_calls own started noInit witness ?_
  intro w tape i _ hsh _ hok hpre _
  obtain ⟨_, _, _, fn', hfn', _, _, _, _, hval⟩ := hok
  obtain rfl : fn' = fn := Option.some.inj (hfn'.symm.trans hfn)
  obtain ⟨⟨⟨ds, gs, before, hw, _⟩, hx⟩, _⟩ := hpre
  refine (walk (w.forCall tape i) w.heap.size i.args ds gs before hval (DataW.Whole.of_heap (w' := w.forCall tape i) (by rfl) hw) (hX _ _ _ (by rfl) hx) hsh).mono fun e W' ⟨v, he, hp⟩ => ?_
  subst he
  exact ChangeSpec.post_blind hp
end Go.Proofs.YtnhmlneebnkjcaaDoor.X
namespace Go.Proofs.YtnhmlneebnkjcaaDoor.caskChecks
open Go Go.ChangeShapes Go.WideShapes Go.ChangeAt Go.RowKit
open Go.ChangeMaps (open_string shut_string)
open Go.Proofs.YtnhmlneebnkjcaaDoorW.PrintWords Go.Proofs.YtnhmlneebnkjcaaDoor.O Go.Proofs.YtnhmlneebnkjcaaDoor.Opn Go.Proofs.YtnhmlneebnkjcaaDoor.Pr Go.Proofs.YtnhmlneebnkjcaaDoor.X
theorem own : ownKnob Tryd.prog.godebug = none := by kernel_rfl
theorem laidOut : laidOutB Tryd.prog = true := by kernel_rfl
abbrev laidL : List (String × DataW Unit) := [("math/bits.deBruijn32tab", Rows.laid_math_bits_deBruijn32tab), ("math/bits.deBruijn64tab", Rows.laid_math_bits_deBruijn64tab), ("internal/strconv.uint64pow10", Rows.laid_internal_strconv_uint64pow10), ("unicode/utf8.acceptRanges", Rows.laid_unicode_utf8_acceptRanges), ("unicode/utf8.first", Rows.laid_unicode_utf8_first)]
set_option maxRecDepth 100000 in
theorem lifted (os : Os) (started : os.Started) (H : Type) (enc : TypeId × Value → H) :
    ReturnsInHanded {} Tryd.checked os 3 .any (fun w args => (Rows.caskChecksSpec.pre enc Tryd.prog Tryd.f3 [] false w args ∧ laidMetH Tryd.prog laidL w) ∧ sizedMet enc Tryd.prog Tryd.f3 (OpenSpec.ofChange Rows.caskChecksSpec) false w args)
      (Rows.caskChecksSpec.post enc Tryd.prog Tryd.f3 false true false false) := by
  refine wrap_shaped (C := Tryd.checked) (X := (fun w _ => laidMetH Tryd.prog laidL w)) (fun _ _ _ hh h => h.of_heap hh) own started (by kernel_rfl) Tryd.func3
    (ChangeSpec.witness_shaped (enc := enc) (C := Tryd.checked) (os := os) (X := (fun w _ => laidMetH Tryd.prog laidL w)) false (World.laidAll Tryd.prog os laidL) #[.slice none 0 0, .string ByteArray.empty] 8 (World.laidAll_os _ _ _) (World.shaped_of_ZipB (by kernel_rfl) (by kernel_rfl)) (by kernel_rfl) (by kernel_rfl) (by kernel_rfl) (by rw [MakeChecks.laidMetH_plain _ _ _ (by kernel_rfl)]; exact laidMet_laidAll _ (by kernel_rfl) (by kernel_rfl))) ?_
  intro W base args ds gs before hval0 hW hL hsh
  have hval : ∀ (j : Nat) t v, Tryd.f3.params[j]? = some t → args[j]? = some v → Value.okWide Tryd.prog W .any base t v := hval0
  have hW' := hW
  obtain ⟨p, q, hA0, hV, rfl, hfz, hnd⟩ := hW
  have hA : DataW.TrodAll enc Tryd.prog W 0 (fun _ => true) true Tryd.f3.params.toList args.toList ds p := hA0
  rw [Tryd.params3] at hA hval
  obtain ⟨v0, vs0, d0, ds0, p0, q0, hargs, rfl, rfl, h0, r0⟩ := trodAll_cons hA
  obtain ⟨v1, vs1, d1, ds1, p1, q1, rfl, rfl, rfl, h1, r1⟩ := trodAll_cons r0
  obtain ⟨rfl, rfl, rfl⟩ := trodAll_nil r1
  obtain rfl : args = #[v0, v1] := by cases args; simp_all
  obtain ⟨rfl, rfl⟩ := trodVars_none hV
  obtain ⟨a0_, len0_, cap0_, rfl⟩ := okWide_slice Tryd.underlying22 (hval 0 22 v0 rfl rfl)
  have k0 := h0
  have lt0 : ∀ x ∈ p0, x.block < W.heap.size := by obtain ⟨m, hm⟩ := k0; exact DataW.trod_lt m _ _ _ hm
  obtain ⟨l0, K0, ok0⟩ : ∃ x, (Kd.slice 27 k27).K W x [.slice a0_ len0_ cap0_] ∧ (x.length ≤ maxLen ∧ ∀ x0_, x0_ ∈ x → ok27 x0_) := by
    obtain ⟨fuel, hf⟩ := h0
    exact opens22.2 _ _ _ _ _ _ _ _ _ hf
  obtain ⟨A0, c0, e0, g0, hr0⟩ := K0
  simp only [List.cons.injEq, Value.slice.injEq, and_true] at e0
  obtain ⟨rfl, rfl, rfl⟩ := e0
  obtain ⟨a1, rfl, rfl, rfl, y1⟩ := open_string Tryd.underlying9 (hval 1 9 v1 rfl rfl) h1
  clear hA0 hval0
  obtain ⟨k, hp⟩ := Pure.CaskChecks l0 a1 ok0 y1
  have hG : GI W := GI.of_laid laidL (by simp [laidL]) hL hsh
  refine (spilelaw09_CaskChecks.calls k _ _ l0 a1 true W hr0 g0 hG rfl hp).mono fun e W' ⟨he, bel⟩ => ?_
  subst he
  exact ⟨_, rfl, _, _, _, [], _, [], hW', trodAll_mk1 (shut_bool Tryd.underlying4 _), (trodAll_cons_mk (Below.trod laidOut (by kernel_rfl) (of_decide_eq_true (by kernel_rfl)) k0 bel lt0) (trodAll_cons_mk (shut_string Tryd.underlying9 y1) trodAll_mk0)), rfl, bel.frame _, fun h => by cases h⟩
theorem holds : Rows.CaskChecksSaid :=
  OpenClaim.holds_of_wide 3 Tryd.f3 rfl rfl rfl rfl rfl rfl rfl ⟨rfl, rfl, rfl, rfl, rfl⟩ rfl rfl rfl rfl rfl (by kernel_rfl) Tryd.func3 (by kernel_rfl)
    (of_decide_eq_true (by kernel_rfl)) (by unfold Func.isWrapper; first | (rw [if_pos (by decide +kernel)]; kernel_rfl) | (rw [if_neg (by decide +kernel)]; exact ⟨rfl, rfl⟩))
    (fun os started H enc _ => lifted os started H enc)
theorem card : Rows.CaskChecksCardSaid :=
  Claim7.holds_tied_plain_at .later [] [.data, .data, .data, .data, .pinned] true (true, "a11ba1a8ff04589e84bf96506875e99c97846a736c580a21adffadd5e088390c") false
    holds (fun _ h => by cases h) (by kernel_rfl) (fun _ h => by cases h) caskChecks_row_tie rfl ⟨rfl, rfl⟩ (by kernel_rfl) rfl
    (fun f fn hf hfn => by
      obtain rfl : f = 3 := Option.some.inj ((show Tryd.prog.funcNamed "spile/spilelaw09.CaskChecks" = some 3 by kernel_rfl).symm.trans hf) |>.symm
      obtain rfl : fn = Tryd.f3 := (Option.some.inj (Tryd.func3.symm.trans hfn)).symm
      exact ⟨by kernel_rfl, fun j t ht => by
        rw [Tryd.params3] at ht
        have hm : t ∈ [22, 9] := by simpa using Array.mem_of_getElem? ht
        have hall : ([22, 9].all fun u => !Tryd.prog.wantsStandIn u) = true := by kernel_rfl
        exact (show Tryd.prog.wantsStandIn t = false by simpa using List.all_eq_true.1 hall t hm)⟩)
    (by kernel_rfl)
end Go.Proofs.YtnhmlneebnkjcaaDoor.caskChecks
namespace Go.Proofs.YtnhmlneebnkjcaaDoor
/-- The card, under a short name, for the claim. -/
theorem caskChecks_holds : Rows.CaskChecksCardSaid := caskChecks.card
#print axioms caskChecks_holds
end Go.Proofs.YtnhmlneebnkjcaaDoor
