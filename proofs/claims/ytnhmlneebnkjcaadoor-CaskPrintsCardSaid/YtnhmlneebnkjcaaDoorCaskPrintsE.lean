/-
The law CaskPrints returns true for every input that can be read as data, and leaves its arguments as they were: the row, and the card that ties the listed variables to the program's text.
No condition of its own beyond those that the given row prints.
-/
import Derived.HandedShaped
import Derived.Handed
import Derived.Test.YtnhmlneebnkjcaaDoorCards
import Derived.Test.YtnhmlneebnkjcaaDoorTie
import Derived.ProofKit
import Derived.OpenShut
import Derived.ShutString
import Derived.ChangeOld
import Derived.SizedLaws
import Derived.LaidMore
import Derived.Lay
import Derived.MakeChecks
import Derived.SevenTiedAt
import Derived.LaidSub
import Derived.LaidOnce
import Derived.Stop.Joined
import Derived.Stop.LaidErr
import Derived.Test.YtnhmlneebnkjcaaDoorCaskPrintsD
set_option linter.unusedVariables false
set_option linter.unusedSimpArgs false
namespace Go.Proofs.YtnhmlneebnkjcaaDoor.Pr
open Go.RowKit Go.Proofs.YtnhmlneebnkjcaaDoorW.PrintWords Go.Proofs.YtnhmlneebnkjcaaDoorW.PrintLast Go.Proofs.YtnhmlneebnkjcaaDoorW.PrintMore Go.Proofs.YtnhmlneebnkjcaaDoor.X
attribute [local go_sem] max2_int min2_int max_two min_two max_three min_three max_four min_four   -- for this text's walks alone
set_option linter.unusedVariables false
set_option linter.unusedSimpArgs false
def spileref09_Check.f (k : Nat) (a0_0 : ByteArray) (a0_1 : Int) (l0_2 : List (S46)) (a0_3 : Int) : Option (Int) := (spileref09_IsName.f k a0_0).bind fun t206 => (if t206 = true then (if a0_1 = 1 then (if a0_3 < 0 then (some 2) else (if a0_3 > 1073741824 then (some 2) else ((spileref08_Check.f k l0_2).bind fun t207 => (some t207)))) else (if a0_1 = 2 then (if a0_3 < 0 then (some 2) else (if a0_3 > 1073741824 then (some 2) else ((spileref08_Check.f k l0_2).bind fun t208 => (some t208)))) else (some 2))) else (some 4))
set_option maxHeartbeats 8000000 in
set_option maxRecDepth 100000 in
theorem spileref09_Check.calls (k : Nat) (a0_0 : ByteArray) (a0_1 : Int) (A0_2 : Option Addr) (c0_2 : Nat) (l0_2 : List (S46)) (a0_3 : Int) (r : Int) (w : World) (hr0_2 : Kd.C k46 w A0_2 l0_2.length l0_2) (hc0_2 : l0_2.length ≤ c0_2) (h : spileref09_Check.f k a0_0 a0_1 l0_2 a0_3 = some r) :
  Calls Tryd.prog 21 #[.agg #[.string a0_0, .int .i64 a0_1, .slice A0_2 l0_2.length c0_2, .int .i64 a0_3]] w fun e w' => e = .returned (.int .i64 r) ∧ Below w.heap.size w w' := by
 have hu27 := Tryd.underlying27; have HR0_2 := Aside0.mk hr0_2; have HC0_2 := Aside0.mk hc0_2; clear hr0_2 hc0_2; have HB := Aside0.mk (Below.refl w.heap.size w); have H : ((spileref09_IsName.f k a0_0).bind fun t206 => (if t206 = true then (if a0_1 = 1 then (if a0_3 < 0 then (some 2) else (if a0_3 > 1073741824 then (some 2) else ((spileref08_Check.f k l0_2).bind fun t207 => (some t207)))) else (if a0_1 = 2 then (if a0_3 < 0 then (some 2) else (if a0_3 > 1073741824 then (some 2) else ((spileref08_Check.f k l0_2).bind fun t208 => (some t208)))) else (some 2))) else (some 4))) = some r := h; clear h; replace H := Option.bind_eq_some_iff.mp H; obtain ⟨t206, A20, H⟩ := H; replace H : (if t206 = true then (if a0_1 = 1 then (if a0_3 < 0 then (some 2) else (if a0_3 > 1073741824 then (some 2) else ((spileref08_Check.f k l0_2).bind fun t207 => (some t207)))) else (if a0_1 = 2 then (if a0_3 < 0 then (some 2) else (if a0_3 > 1073741824 then (some 2) else ((spileref08_Check.f k l0_2).bind fun t208 => (some t208)))) else (some 2))) else (some 4)) = some r := H; have A2 := Aside0.mk A20; clear A20; by_cases c3 : t206 = true
 ·
  subst c3; have H1 : (if a0_1 = 1 then (if a0_3 < 0 then (some 2) else (if a0_3 > 1073741824 then (some 2) else ((spileref08_Check.f k l0_2).bind fun t207 => (some t207)))) else (if a0_1 = 2 then (if a0_3 < 0 then (some 2) else (if a0_3 > 1073741824 then (some 2) else ((spileref08_Check.f k l0_2).bind fun t208 => (some t208)))) else (some 2))) = some r := by rw [if_pos rfl] at H; exact H
  clear H; have H := H1; clear H1; by_cases c4 : a0_1 = 1
  ·
   rw [if_pos c4] at H; have c4b0 : (a0_1 == 1) = true := beq_iff_eq.mpr c4; have c4b1 : (a0_1 != 1) = false := bne_eq_false_iff_eq.mpr c4; clear c4; by_cases c5 : a0_3 < 0
   ·
    rw [if_pos c5] at H; have c5b0 : decide (a0_3 < 0) = true := decide_eq_true c5; clear c5; obtain rfl := Option.some.inj H; go_enter Tryd.func21, Tryd.ntmps21
    go_wp2_with (first | ((with_reducible refine gate_dst (N := 1) rfl ?_); refine box_event ?hg (N := 1) ?hd (cs := #[.string a0_0, .int .i64 a0_1, .slice A0_2 l0_2.length c0_2, .int .i64 a0_3]) (t := 27) ?hr ?_; (case hd => rfl); (case hg => rfl); (case hr => first | (go_simp; done) | (go_simp; rfl)); intro gb205 hg w6 hbox hb; have n0_ := Aside0.mk (below_step (by repeat (first | (with_reducible first | exact HB.out | apply below_alloc | apply pw_below_drewN | apply below_drew1) | exact HB.out)) hb); have n1_ := Aside0.mk (hbox); have n2_ := Aside0.mk ((by rw [hg]; exact (below_size (by repeat (first | (with_reducible first | exact HB.out | apply below_alloc | apply pw_below_drewN | apply below_drew1) | exact HB.out))) : w.heap.size ≤ gb205)); have n3_ := Aside0.mk ((by rw [hg]; exact (below_size (by repeat (first | (with_reducible first | exact HB.out | apply below_alloc | apply pw_below_drewN | apply below_drew1) | exact HB.out))) : w.heap.size ≤ gb205)); clear HB; have HB := n0_; have BK205 := n1_; have GW205 := n2_; have GE205 := n3_; clear n0_ n1_ n2_ n3_; clear hb hbox hg; have hcz7_0 : w6.cell? ⟨gb205, 0, none⟩ = some (.string a0_0) := (blk_cell BK205.out 0).trans rfl; have hcz7_1 : w6.cell? ⟨gb205, 1, none⟩ = some (.int .i64 a0_1) := (blk_cell BK205.out 1).trans rfl; have hcz7_2 : w6.cell? ⟨gb205, 2, none⟩ = some (.slice A0_2 l0_2.length c0_2) := (blk_cell BK205.out 2).trans rfl; have hcz7_3 : w6.cell? ⟨gb205, 3, none⟩ = some (.int .i64 a0_3) := (blk_cell BK205.out 3).trans rfl; have hfz7_0 := blk_frozen BK205.out 0; have hfz7_1 := blk_frozen BK205.out 1; have hfz7_2 := blk_frozen BK205.out 2; have hfz7_3 := blk_frozen BK205.out 3) | ((with_reducible refine gate_callee (f := 40) rfl ?_); refine goesL_ (some 5) rfl rfl Tryd.func40 (by kernel_rfl) rfl #[.string a0_0] rfl (by (try simp only [List.map_toArray, List.map_cons, List.map_nil]); first | done | rfl | (simp only [List.length_drop, List.length_take]; rfl)) ?_; (with_reducible refine (spileref09_IsName.calls k a0_0 true _ A2.out).mono ?_); rintro e w' ⟨rfl, ⟨nd, rfl⟩⟩; refine ⟨_, rfl, ?_⟩))
    go_ret
    exact ⟨by first | rfl | (simp [errW_none, errW_some] <;> rfl) | (simp [*, errW_none, errW_some] <;> rfl), by repeat (first | (with_reducible first | exact HB.out | apply below_alloc | apply pw_below_drewN | apply below_drew1 | refine below_set ?_ GE205.out) | exact HB.out)⟩
   ·
    rw [if_neg c5] at H; have c5b0 : decide (a0_3 < 0) = false := decide_eq_false c5; clear c5; by_cases c8 : a0_3 > 1073741824
    ·
     rw [if_pos c8] at H; have c8b0 : decide (1073741824 < a0_3) = true := decide_eq_true c8; clear c8; obtain rfl := Option.some.inj H; go_enter Tryd.func21, Tryd.ntmps21
     go_wp2_with (first | ((with_reducible refine gate_dst (N := 1) rfl ?_); refine box_event ?hg (N := 1) ?hd (cs := #[.string a0_0, .int .i64 a0_1, .slice A0_2 l0_2.length c0_2, .int .i64 a0_3]) (t := 27) ?hr ?_; (case hd => rfl); (case hg => rfl); (case hr => first | (go_simp; done) | (go_simp; rfl)); intro gb205 hg w9 hbox hb; have n0_ := Aside0.mk (below_step (by repeat (first | (with_reducible first | exact HB.out | apply below_alloc | apply pw_below_drewN | apply below_drew1) | exact HB.out)) hb); have n1_ := Aside0.mk (hbox); have n2_ := Aside0.mk ((by rw [hg]; exact (below_size (by repeat (first | (with_reducible first | exact HB.out | apply below_alloc | apply pw_below_drewN | apply below_drew1) | exact HB.out))) : w.heap.size ≤ gb205)); have n3_ := Aside0.mk ((by rw [hg]; exact (below_size (by repeat (first | (with_reducible first | exact HB.out | apply below_alloc | apply pw_below_drewN | apply below_drew1) | exact HB.out))) : w.heap.size ≤ gb205)); clear HB; have HB := n0_; have BK205 := n1_; have GW205 := n2_; have GE205 := n3_; clear n0_ n1_ n2_ n3_; clear hb hbox hg; have hcz10_0 : w9.cell? ⟨gb205, 0, none⟩ = some (.string a0_0) := (blk_cell BK205.out 0).trans rfl; have hcz10_1 : w9.cell? ⟨gb205, 1, none⟩ = some (.int .i64 a0_1) := (blk_cell BK205.out 1).trans rfl; have hcz10_2 : w9.cell? ⟨gb205, 2, none⟩ = some (.slice A0_2 l0_2.length c0_2) := (blk_cell BK205.out 2).trans rfl; have hcz10_3 : w9.cell? ⟨gb205, 3, none⟩ = some (.int .i64 a0_3) := (blk_cell BK205.out 3).trans rfl; have hfz10_0 := blk_frozen BK205.out 0; have hfz10_1 := blk_frozen BK205.out 1; have hfz10_2 := blk_frozen BK205.out 2; have hfz10_3 := blk_frozen BK205.out 3) | ((with_reducible refine gate_callee (f := 40) rfl ?_); refine goesL_ (some 5) rfl rfl Tryd.func40 (by kernel_rfl) rfl #[.string a0_0] rfl (by (try simp only [List.map_toArray, List.map_cons, List.map_nil]); first | done | rfl | (simp only [List.length_drop, List.length_take]; rfl)) ?_; (with_reducible refine (spileref09_IsName.calls k a0_0 true _ A2.out).mono ?_); rintro e w' ⟨rfl, ⟨nd, rfl⟩⟩; refine ⟨_, rfl, ?_⟩))
     go_ret
     exact ⟨by first | rfl | (simp [errW_none, errW_some] <;> rfl) | (simp [*, errW_none, errW_some] <;> rfl), by repeat (first | (with_reducible first | exact HB.out | apply below_alloc | apply pw_below_drewN | apply below_drew1 | refine below_set ?_ GE205.out) | exact HB.out)⟩
    ·
     rw [if_neg c8] at H; have c8b0 : decide (1073741824 < a0_3) = false := decide_eq_false c8; clear c8; replace H := Option.bind_eq_some_iff.mp H; obtain ⟨t207, A110, H⟩ := H; replace H : (some t207) = some r := H; have A11 := Aside0.mk A110; clear A110; obtain rfl := Option.some.inj H; go_enter Tryd.func21, Tryd.ntmps21
     go_wp2_with (first | ((with_reducible refine gate_dst (N := 1) rfl ?_); refine box_event ?hg (N := 1) ?hd (cs := #[.string a0_0, .int .i64 a0_1, .slice A0_2 l0_2.length c0_2, .int .i64 a0_3]) (t := 27) ?hr ?_; (case hd => rfl); (case hg => rfl); (case hr => first | (go_simp; done) | (go_simp; rfl)); intro gb205 hg w12 hbox hb; have n0_ := Aside0.mk (below_step (by repeat (first | (with_reducible first | exact HB.out | apply below_alloc | apply pw_below_drewN | apply below_drew1) | exact HB.out)) hb); have n1_ := Aside0.mk (hbox); have n2_ := Aside0.mk ((by rw [hg]; exact (below_size (by repeat (first | (with_reducible first | exact HB.out | apply below_alloc | apply pw_below_drewN | apply below_drew1) | exact HB.out))) : w.heap.size ≤ gb205)); have n3_ := Aside0.mk ((by rw [hg]; exact (below_size (by repeat (first | (with_reducible first | exact HB.out | apply below_alloc | apply pw_below_drewN | apply below_drew1) | exact HB.out))) : w.heap.size ≤ gb205)); clear HB; have HB := n0_; have BK205 := n1_; have GW205 := n2_; have GE205 := n3_; clear n0_ n1_ n2_ n3_; clear hb hbox hg; have hcz13_0 : w12.cell? ⟨gb205, 0, none⟩ = some (.string a0_0) := (blk_cell BK205.out 0).trans rfl; have hcz13_1 : w12.cell? ⟨gb205, 1, none⟩ = some (.int .i64 a0_1) := (blk_cell BK205.out 1).trans rfl; have hcz13_2 : w12.cell? ⟨gb205, 2, none⟩ = some (.slice A0_2 l0_2.length c0_2) := (blk_cell BK205.out 2).trans rfl; have hcz13_3 : w12.cell? ⟨gb205, 3, none⟩ = some (.int .i64 a0_3) := (blk_cell BK205.out 3).trans rfl; have hfz13_0 := blk_frozen BK205.out 0; have hfz13_1 := blk_frozen BK205.out 1; have hfz13_2 := blk_frozen BK205.out 2; have hfz13_3 := blk_frozen BK205.out 3) | ((with_reducible refine gate_callee (f := 40) rfl ?_); refine goesL_ (some 5) rfl rfl Tryd.func40 (by kernel_rfl) rfl #[.string a0_0] rfl (by (try simp only [List.map_toArray, List.map_cons, List.map_nil]); first | done | rfl | (simp only [List.length_drop, List.length_take]; rfl)) ?_; (with_reducible refine (spileref09_IsName.calls k a0_0 true _ A2.out).mono ?_); rintro e w' ⟨rfl, ⟨nd, rfl⟩⟩; refine ⟨_, rfl, ?_⟩) | ((with_reducible refine gate_callee (f := 41) rfl ?_); refine goesL_ (some 27) rfl rfl Tryd.func41 (by kernel_rfl) rfl #[.slice A0_2 l0_2.length c0_2] rfl (by (try simp only [List.map_toArray, List.map_cons, List.map_nil]); first | done | rfl | (simp only [List.length_drop, List.length_take]; rfl)) ?_; (with_reducible refine (spileref08_Check.calls k _ _ l0_2 t207 _ ?side1 ?side2 A11.out).mono ?_); (case side1 => repeat (first | exact (Kd.C_below HR0_2.out (by repeat (first | (with_reducible first | exact HB.out | apply below_alloc | apply pw_below_drewN | apply below_drew1 | refine below_set ?_ GE205.out) | exact HB.out))) | (with_reducible refine Kd.C_alloc ?_ _) | (with_reducible refine Kd.C_drewN ?_ _) | (with_reducible refine Kd.C_drew ?_))); (case side2 => exact HC0_2.out); rintro e w' ⟨rfl, ⟨nd, rfl⟩⟩; refine ⟨_, rfl, ?_⟩))
     go_ret
     exact ⟨by first | rfl | (simp [errW_none, errW_some] <;> rfl) | (simp [*, errW_none, errW_some] <;> rfl), by repeat (first | (with_reducible first | exact HB.out | apply below_alloc | apply pw_below_drewN | apply below_drew1 | refine below_set ?_ GE205.out) | exact HB.out)⟩
  ·
   rw [if_neg c4] at H; have c4b0 : (a0_1 == 1) = false := beq_eq_false_iff_ne.mpr c4; have c4b1 : (a0_1 != 1) = true := bne_iff_ne.mpr c4; by_cases c14 : a0_1 = 2
   ·
    rw [if_pos c14] at H; have c14b0 : (a0_1 == 2) = true := beq_iff_eq.mpr c14; have c14b1 : (a0_1 != 2) = false := bne_eq_false_iff_eq.mpr c14; clear c14; by_cases c15 : a0_3 < 0
    ·
     rw [if_pos c15] at H; have c15b0 : decide (a0_3 < 0) = true := decide_eq_true c15; clear c15; obtain rfl := Option.some.inj H; go_enter Tryd.func21, Tryd.ntmps21
     go_wp2_with (first | ((with_reducible refine gate_dst (N := 1) rfl ?_); refine box_event ?hg (N := 1) ?hd (cs := #[.string a0_0, .int .i64 a0_1, .slice A0_2 l0_2.length c0_2, .int .i64 a0_3]) (t := 27) ?hr ?_; (case hd => rfl); (case hg => rfl); (case hr => first | (go_simp; done) | (go_simp; rfl)); intro gb205 hg w16 hbox hb; have n0_ := Aside0.mk (below_step (by repeat (first | (with_reducible first | exact HB.out | apply below_alloc | apply pw_below_drewN | apply below_drew1) | exact HB.out)) hb); have n1_ := Aside0.mk (hbox); have n2_ := Aside0.mk ((by rw [hg]; exact (below_size (by repeat (first | (with_reducible first | exact HB.out | apply below_alloc | apply pw_below_drewN | apply below_drew1) | exact HB.out))) : w.heap.size ≤ gb205)); have n3_ := Aside0.mk ((by rw [hg]; exact (below_size (by repeat (first | (with_reducible first | exact HB.out | apply below_alloc | apply pw_below_drewN | apply below_drew1) | exact HB.out))) : w.heap.size ≤ gb205)); clear HB; have HB := n0_; have BK205 := n1_; have GW205 := n2_; have GE205 := n3_; clear n0_ n1_ n2_ n3_; clear hb hbox hg; have hcz17_0 : w16.cell? ⟨gb205, 0, none⟩ = some (.string a0_0) := (blk_cell BK205.out 0).trans rfl; have hcz17_1 : w16.cell? ⟨gb205, 1, none⟩ = some (.int .i64 a0_1) := (blk_cell BK205.out 1).trans rfl; have hcz17_2 : w16.cell? ⟨gb205, 2, none⟩ = some (.slice A0_2 l0_2.length c0_2) := (blk_cell BK205.out 2).trans rfl; have hcz17_3 : w16.cell? ⟨gb205, 3, none⟩ = some (.int .i64 a0_3) := (blk_cell BK205.out 3).trans rfl; have hfz17_0 := blk_frozen BK205.out 0; have hfz17_1 := blk_frozen BK205.out 1; have hfz17_2 := blk_frozen BK205.out 2; have hfz17_3 := blk_frozen BK205.out 3) | ((with_reducible refine gate_callee (f := 40) rfl ?_); refine goesL_ (some 5) rfl rfl Tryd.func40 (by kernel_rfl) rfl #[.string a0_0] rfl (by (try simp only [List.map_toArray, List.map_cons, List.map_nil]); first | done | rfl | (simp only [List.length_drop, List.length_take]; rfl)) ?_; (with_reducible refine (spileref09_IsName.calls k a0_0 true _ A2.out).mono ?_); rintro e w' ⟨rfl, ⟨nd, rfl⟩⟩; refine ⟨_, rfl, ?_⟩))
     go_ret
     exact ⟨by first | rfl | (simp [errW_none, errW_some] <;> rfl) | (simp [*, errW_none, errW_some] <;> rfl), by repeat (first | (with_reducible first | exact HB.out | apply below_alloc | apply pw_below_drewN | apply below_drew1 | refine below_set ?_ GE205.out) | exact HB.out)⟩
    ·
     rw [if_neg c15] at H; have c15b0 : decide (a0_3 < 0) = false := decide_eq_false c15; clear c15; by_cases c18 : a0_3 > 1073741824
     ·
      rw [if_pos c18] at H; have c18b0 : decide (1073741824 < a0_3) = true := decide_eq_true c18; clear c18; obtain rfl := Option.some.inj H; go_enter Tryd.func21, Tryd.ntmps21
      go_wp2_with (first | ((with_reducible refine gate_dst (N := 1) rfl ?_); refine box_event ?hg (N := 1) ?hd (cs := #[.string a0_0, .int .i64 a0_1, .slice A0_2 l0_2.length c0_2, .int .i64 a0_3]) (t := 27) ?hr ?_; (case hd => rfl); (case hg => rfl); (case hr => first | (go_simp; done) | (go_simp; rfl)); intro gb205 hg w19 hbox hb; have n0_ := Aside0.mk (below_step (by repeat (first | (with_reducible first | exact HB.out | apply below_alloc | apply pw_below_drewN | apply below_drew1) | exact HB.out)) hb); have n1_ := Aside0.mk (hbox); have n2_ := Aside0.mk ((by rw [hg]; exact (below_size (by repeat (first | (with_reducible first | exact HB.out | apply below_alloc | apply pw_below_drewN | apply below_drew1) | exact HB.out))) : w.heap.size ≤ gb205)); have n3_ := Aside0.mk ((by rw [hg]; exact (below_size (by repeat (first | (with_reducible first | exact HB.out | apply below_alloc | apply pw_below_drewN | apply below_drew1) | exact HB.out))) : w.heap.size ≤ gb205)); clear HB; have HB := n0_; have BK205 := n1_; have GW205 := n2_; have GE205 := n3_; clear n0_ n1_ n2_ n3_; clear hb hbox hg; have hcz20_0 : w19.cell? ⟨gb205, 0, none⟩ = some (.string a0_0) := (blk_cell BK205.out 0).trans rfl; have hcz20_1 : w19.cell? ⟨gb205, 1, none⟩ = some (.int .i64 a0_1) := (blk_cell BK205.out 1).trans rfl; have hcz20_2 : w19.cell? ⟨gb205, 2, none⟩ = some (.slice A0_2 l0_2.length c0_2) := (blk_cell BK205.out 2).trans rfl; have hcz20_3 : w19.cell? ⟨gb205, 3, none⟩ = some (.int .i64 a0_3) := (blk_cell BK205.out 3).trans rfl; have hfz20_0 := blk_frozen BK205.out 0; have hfz20_1 := blk_frozen BK205.out 1; have hfz20_2 := blk_frozen BK205.out 2; have hfz20_3 := blk_frozen BK205.out 3) | ((with_reducible refine gate_callee (f := 40) rfl ?_); refine goesL_ (some 5) rfl rfl Tryd.func40 (by kernel_rfl) rfl #[.string a0_0] rfl (by (try simp only [List.map_toArray, List.map_cons, List.map_nil]); first | done | rfl | (simp only [List.length_drop, List.length_take]; rfl)) ?_; (with_reducible refine (spileref09_IsName.calls k a0_0 true _ A2.out).mono ?_); rintro e w' ⟨rfl, ⟨nd, rfl⟩⟩; refine ⟨_, rfl, ?_⟩))
      go_ret
      exact ⟨by first | rfl | (simp [errW_none, errW_some] <;> rfl) | (simp [*, errW_none, errW_some] <;> rfl), by repeat (first | (with_reducible first | exact HB.out | apply below_alloc | apply pw_below_drewN | apply below_drew1 | refine below_set ?_ GE205.out) | exact HB.out)⟩
     ·
      rw [if_neg c18] at H; have c18b0 : decide (1073741824 < a0_3) = false := decide_eq_false c18; clear c18; replace H := Option.bind_eq_some_iff.mp H; obtain ⟨t208, A210, H⟩ := H; replace H : (some t208) = some r := H; have A21 := Aside0.mk A210; clear A210; obtain rfl := Option.some.inj H; go_enter Tryd.func21, Tryd.ntmps21
      go_wp2_with (first | ((with_reducible refine gate_dst (N := 1) rfl ?_); refine box_event ?hg (N := 1) ?hd (cs := #[.string a0_0, .int .i64 a0_1, .slice A0_2 l0_2.length c0_2, .int .i64 a0_3]) (t := 27) ?hr ?_; (case hd => rfl); (case hg => rfl); (case hr => first | (go_simp; done) | (go_simp; rfl)); intro gb205 hg w22 hbox hb; have n0_ := Aside0.mk (below_step (by repeat (first | (with_reducible first | exact HB.out | apply below_alloc | apply pw_below_drewN | apply below_drew1) | exact HB.out)) hb); have n1_ := Aside0.mk (hbox); have n2_ := Aside0.mk ((by rw [hg]; exact (below_size (by repeat (first | (with_reducible first | exact HB.out | apply below_alloc | apply pw_below_drewN | apply below_drew1) | exact HB.out))) : w.heap.size ≤ gb205)); have n3_ := Aside0.mk ((by rw [hg]; exact (below_size (by repeat (first | (with_reducible first | exact HB.out | apply below_alloc | apply pw_below_drewN | apply below_drew1) | exact HB.out))) : w.heap.size ≤ gb205)); clear HB; have HB := n0_; have BK205 := n1_; have GW205 := n2_; have GE205 := n3_; clear n0_ n1_ n2_ n3_; clear hb hbox hg; have hcz23_0 : w22.cell? ⟨gb205, 0, none⟩ = some (.string a0_0) := (blk_cell BK205.out 0).trans rfl; have hcz23_1 : w22.cell? ⟨gb205, 1, none⟩ = some (.int .i64 a0_1) := (blk_cell BK205.out 1).trans rfl; have hcz23_2 : w22.cell? ⟨gb205, 2, none⟩ = some (.slice A0_2 l0_2.length c0_2) := (blk_cell BK205.out 2).trans rfl; have hcz23_3 : w22.cell? ⟨gb205, 3, none⟩ = some (.int .i64 a0_3) := (blk_cell BK205.out 3).trans rfl; have hfz23_0 := blk_frozen BK205.out 0; have hfz23_1 := blk_frozen BK205.out 1; have hfz23_2 := blk_frozen BK205.out 2; have hfz23_3 := blk_frozen BK205.out 3) | ((with_reducible refine gate_callee (f := 40) rfl ?_); refine goesL_ (some 5) rfl rfl Tryd.func40 (by kernel_rfl) rfl #[.string a0_0] rfl (by (try simp only [List.map_toArray, List.map_cons, List.map_nil]); first | done | rfl | (simp only [List.length_drop, List.length_take]; rfl)) ?_; (with_reducible refine (spileref09_IsName.calls k a0_0 true _ A2.out).mono ?_); rintro e w' ⟨rfl, ⟨nd, rfl⟩⟩; refine ⟨_, rfl, ?_⟩) | ((with_reducible refine gate_callee (f := 41) rfl ?_); refine goesL_ (some 27) rfl rfl Tryd.func41 (by kernel_rfl) rfl #[.slice A0_2 l0_2.length c0_2] rfl (by (try simp only [List.map_toArray, List.map_cons, List.map_nil]); first | done | rfl | (simp only [List.length_drop, List.length_take]; rfl)) ?_; (with_reducible refine (spileref08_Check.calls k _ _ l0_2 t208 _ ?side1 ?side2 A21.out).mono ?_); (case side1 => repeat (first | exact (Kd.C_below HR0_2.out (by repeat (first | (with_reducible first | exact HB.out | apply below_alloc | apply pw_below_drewN | apply below_drew1 | refine below_set ?_ GE205.out) | exact HB.out))) | (with_reducible refine Kd.C_alloc ?_ _) | (with_reducible refine Kd.C_drewN ?_ _) | (with_reducible refine Kd.C_drew ?_))); (case side2 => exact HC0_2.out); rintro e w' ⟨rfl, ⟨nd, rfl⟩⟩; refine ⟨_, rfl, ?_⟩))
      go_ret
      exact ⟨by first | rfl | (simp [errW_none, errW_some] <;> rfl) | (simp [*, errW_none, errW_some] <;> rfl), by repeat (first | (with_reducible first | exact HB.out | apply below_alloc | apply pw_below_drewN | apply below_drew1 | refine below_set ?_ GE205.out) | exact HB.out)⟩
   ·
    rw [if_neg c14] at H; have c14b0 : (a0_1 == 2) = false := beq_eq_false_iff_ne.mpr c14; have c14b1 : (a0_1 != 2) = true := bne_iff_ne.mpr c14; obtain rfl := Option.some.inj H; go_enter Tryd.func21, Tryd.ntmps21
    go_wp2_with (first | ((with_reducible refine gate_dst (N := 1) rfl ?_); refine box_event ?hg (N := 1) ?hd (cs := #[.string a0_0, .int .i64 a0_1, .slice A0_2 l0_2.length c0_2, .int .i64 a0_3]) (t := 27) ?hr ?_; (case hd => rfl); (case hg => rfl); (case hr => first | (go_simp; done) | (go_simp; rfl)); intro gb205 hg w24 hbox hb; have n0_ := Aside0.mk (below_step (by repeat (first | (with_reducible first | exact HB.out | apply below_alloc | apply pw_below_drewN | apply below_drew1) | exact HB.out)) hb); have n1_ := Aside0.mk (hbox); have n2_ := Aside0.mk ((by rw [hg]; exact (below_size (by repeat (first | (with_reducible first | exact HB.out | apply below_alloc | apply pw_below_drewN | apply below_drew1) | exact HB.out))) : w.heap.size ≤ gb205)); have n3_ := Aside0.mk ((by rw [hg]; exact (below_size (by repeat (first | (with_reducible first | exact HB.out | apply below_alloc | apply pw_below_drewN | apply below_drew1) | exact HB.out))) : w.heap.size ≤ gb205)); clear HB; have HB := n0_; have BK205 := n1_; have GW205 := n2_; have GE205 := n3_; clear n0_ n1_ n2_ n3_; clear hb hbox hg; have hcz25_0 : w24.cell? ⟨gb205, 0, none⟩ = some (.string a0_0) := (blk_cell BK205.out 0).trans rfl; have hcz25_1 : w24.cell? ⟨gb205, 1, none⟩ = some (.int .i64 a0_1) := (blk_cell BK205.out 1).trans rfl; have hcz25_2 : w24.cell? ⟨gb205, 2, none⟩ = some (.slice A0_2 l0_2.length c0_2) := (blk_cell BK205.out 2).trans rfl; have hcz25_3 : w24.cell? ⟨gb205, 3, none⟩ = some (.int .i64 a0_3) := (blk_cell BK205.out 3).trans rfl; have hfz25_0 := blk_frozen BK205.out 0; have hfz25_1 := blk_frozen BK205.out 1; have hfz25_2 := blk_frozen BK205.out 2; have hfz25_3 := blk_frozen BK205.out 3) | ((with_reducible refine gate_callee (f := 40) rfl ?_); refine goesL_ (some 5) rfl rfl Tryd.func40 (by kernel_rfl) rfl #[.string a0_0] rfl (by (try simp only [List.map_toArray, List.map_cons, List.map_nil]); first | done | rfl | (simp only [List.length_drop, List.length_take]; rfl)) ?_; (with_reducible refine (spileref09_IsName.calls k a0_0 true _ A2.out).mono ?_); rintro e w' ⟨rfl, ⟨nd, rfl⟩⟩; refine ⟨_, rfl, ?_⟩))
    go_ret
    exact ⟨by first | rfl | (simp [errW_none, errW_some] <;> rfl) | (simp [*, errW_none, errW_some] <;> rfl), by repeat (first | (with_reducible first | exact HB.out | apply below_alloc | apply pw_below_drewN | apply below_drew1 | refine below_set ?_ GE205.out) | exact HB.out)⟩
 ·
  replace c3 := Bool.eq_false_iff.mpr c3; subst c3; have H1 : (some 4) = some r := by rw [if_neg (show ¬ (false = true) by decide)] at H; exact H
  clear H; have H := H1; clear H1; obtain rfl := Option.some.inj H; go_enter Tryd.func21, Tryd.ntmps21
  go_wp2_with (first | ((with_reducible refine gate_dst (N := 1) rfl ?_); refine box_event ?hg (N := 1) ?hd (cs := #[.string a0_0, .int .i64 a0_1, .slice A0_2 l0_2.length c0_2, .int .i64 a0_3]) (t := 27) ?hr ?_; (case hd => rfl); (case hg => rfl); (case hr => first | (go_simp; done) | (go_simp; rfl)); intro gb205 hg w26 hbox hb; have n0_ := Aside0.mk (below_step (by repeat (first | (with_reducible first | exact HB.out | apply below_alloc | apply pw_below_drewN | apply below_drew1) | exact HB.out)) hb); have n1_ := Aside0.mk (hbox); have n2_ := Aside0.mk ((by rw [hg]; exact (below_size (by repeat (first | (with_reducible first | exact HB.out | apply below_alloc | apply pw_below_drewN | apply below_drew1) | exact HB.out))) : w.heap.size ≤ gb205)); have n3_ := Aside0.mk ((by rw [hg]; exact (below_size (by repeat (first | (with_reducible first | exact HB.out | apply below_alloc | apply pw_below_drewN | apply below_drew1) | exact HB.out))) : w.heap.size ≤ gb205)); clear HB; have HB := n0_; have BK205 := n1_; have GW205 := n2_; have GE205 := n3_; clear n0_ n1_ n2_ n3_; clear hb hbox hg; have hcz27_0 : w26.cell? ⟨gb205, 0, none⟩ = some (.string a0_0) := (blk_cell BK205.out 0).trans rfl; have hcz27_1 : w26.cell? ⟨gb205, 1, none⟩ = some (.int .i64 a0_1) := (blk_cell BK205.out 1).trans rfl; have hcz27_2 : w26.cell? ⟨gb205, 2, none⟩ = some (.slice A0_2 l0_2.length c0_2) := (blk_cell BK205.out 2).trans rfl; have hcz27_3 : w26.cell? ⟨gb205, 3, none⟩ = some (.int .i64 a0_3) := (blk_cell BK205.out 3).trans rfl; have hfz27_0 := blk_frozen BK205.out 0; have hfz27_1 := blk_frozen BK205.out 1; have hfz27_2 := blk_frozen BK205.out 2; have hfz27_3 := blk_frozen BK205.out 3) | ((with_reducible refine gate_callee (f := 40) rfl ?_); refine goesL_ (some 5) rfl rfl Tryd.func40 (by kernel_rfl) rfl #[.string a0_0] rfl (by (try simp only [List.map_toArray, List.map_cons, List.map_nil]); first | done | rfl | (simp only [List.length_drop, List.length_take]; rfl)) ?_; (with_reducible refine (spileref09_IsName.calls k a0_0 false _ A2.out).mono ?_); rintro e w' ⟨rfl, ⟨nd, rfl⟩⟩; refine ⟨_, rfl, ?_⟩))
  go_ret
  exact ⟨by first | rfl | (simp [errW_none, errW_some] <;> rfl) | (simp [*, errW_none, errW_some] <;> rfl), by repeat (first | (with_reducible first | exact HB.out | apply below_alloc | apply pw_below_drewN | apply below_drew1 | refine below_set ?_ GE205.out) | exact HB.out)⟩
mutual
def spileref09_List.l0 : Nat → List (S27) → Int → Option (Int)
 | 0, _, _ => none
 | k + 1, x0, x3 => if x3 < (x0.length : Int) then (if 0 ≤ x3 then ((spileref09_Check.f k ((rd_T27 x0 x3).f0) ((rd_T27 x0 x3).f1) ((rd_T27 x0 x3).f2) ((rd_T27 x0 x3).f3)).bind fun t210 => (if t210 = 0 then (spileref09_List.l0 k x0 (wrap64 (x3 + 1))) else (some t210))) else (none)) else (spileref09_List.l1 k x0 0)
def spileref09_List.l1 : Nat → List (S27) → Int → Option (Int)
 | 0, _, _ => none
 | k + 1, x0, x5 => if x5 < (x0.length : Int) then (spileref09_List.l2 k x0 x5 0) else (some 0)
def spileref09_List.l2 : Nat → List (S27) → Int → Int → Option (Int)
 | 0, _, _, _ => none
 | k + 1, x0, x5, x6 => if x6 < x5 then (if 0 ≤ x5 then (if x5 < (x0.length : Int) then (if 0 ≤ x6 then (if x6 < (x0.length : Int) then (if ((rd_T27 x0 x5).f0).toList = ((rd_T27 x0 x6).f0).toList then (some 6) else (spileref09_List.l2 k x0 x5 (wrap64 (x6 + 1)))) else (none)) else (none)) else (none)) else (none)) else (spileref09_List.l1 k x0 (wrap64 (x5 + 1)))
end
def spileref09_List.f (k : Nat) (l0 : List (S27)) : Option (Int) := if (l0.length : Int) > 32 then (some 8) else (spileref09_List.l0 k l0 0)
set_option maxHeartbeats 8000000 in
set_option maxRecDepth 100000 in
theorem spileref09_List.calls (k : Nat) (A0 : Option Addr) (c0 : Nat) (l0 : List (S27)) (r : Int) (w : World) (hr0 : Kd.C k27 w A0 l0.length l0) (hc0 : l0.length ≤ c0) (h : spileref09_List.f k l0 = some r) :
  Calls Tryd.prog 17 #[.slice A0 l0.length c0] w fun e w' => e = .returned (.int .i64 r) ∧ Below w.heap.size w w' := by
 have hu27 := Tryd.underlying27; have HR0 := Aside0.mk hr0; have HC0 := Aside0.mk hc0; clear hr0 hc0; have HB := Aside0.mk (Below.refl w.heap.size w); have H : (if (l0.length : Int) > 32 then (some 8) else (spileref09_List.l0 k l0 0)) = some r := h; clear h; by_cases c2 : (l0.length : Int) > 32
 ·
  rw [if_pos c2] at H; have c2b0 : decide (32 < (l0.length : Int)) = true := decide_eq_true c2; have c2b1 : decide (32 < l0.length) = true := decide_eq_true (by omega); clear c2; obtain rfl := Option.some.inj H; go_enter Tryd.func17, Tryd.ntmps17
  go_wp2; repeat (go_quiet (fail); try go_wp2)
  go_ret
  exact ⟨by first | rfl | (simp [errW_none, errW_some] <;> rfl) | (simp [*, errW_none, errW_some] <;> rfl), by repeat (first | (with_reducible first | exact HB.out | apply below_alloc | apply pw_below_drewN | apply below_drew1) | exact HB.out)⟩
 ·
  rw [if_neg c2] at H; have c2b0 : decide (32 < (l0.length : Int)) = false := decide_eq_false c2; have c2b1 : decide (32 < l0.length) = false := decide_eq_false (by omega); clear c2; have H' := Aside0.mk H; clear H; go_enter Tryd.func17, Tryd.ntmps17
  go_wp2; repeat (go_quiet (fail); try go_wp2)
  go_loopg [3] k (fun kq v3 w' => ∃ (x3_1 : Int), v3 = .int .i64 x3_1 ∧ Aside0 (spileref09_List.l0 kq l0 x3_1 = some r) ∧ Aside0 (kq ≤ k) ∧ Aside0 (Below w.heap.size w w'))
  case atStart => exact ⟨(0), (by first | rfl | (simp; done) | (simp [*]; done)), H', ⟨Nat.le_refl _⟩, ⟨by repeat (first | (with_reducible first | exact HB.out | apply below_alloc | apply pw_below_drewN | apply below_drew1) | exact HB.out)⟩⟩
  case round =>
   clear H'; try clear c1
   try clear c2
   try clear c2b0
   try clear c2b1
   try clear p2
   obtain ⟨x3_1, rfl, HA, HK1, HB⟩ := hrel
   cases gk with
   | zero => exact absurd HA.out (by simp [spileref09_List.l0])
   | succ k1 =>
    have H := HA.out; clear HA; simp only [spileref09_List.l0] at H; by_cases c3 : x3_1 < (l0.length : Int)
    ·
     rw [if_pos c3] at H; have c3b0 : decide (x3_1 < (l0.length : Int)) = true := decide_eq_true c3; clear c3; by_cases c4 : 0 ≤ x3_1
     ·
      rw [if_pos c4] at H; have c4b0 : decide (0 ≤ x3_1) = true := decide_eq_true c4; clear c4; replace H := Option.bind_eq_some_iff.mp H; obtain ⟨t210, A50, H⟩ := H; replace H : (if t210 = 0 then (spileref09_List.l0 k1 l0 (wrap64 (x3_1 + 1))) else (some t210)) = some r := H; have A5 := Aside0.mk A50; clear A50; by_cases c6 : t210 = 0
      ·
       rw [if_pos c6] at H; have c6b0 : (t210 == 0) = true := beq_iff_eq.mpr c6; have c6b1 : (t210 != 0) = false := bne_eq_false_iff_eq.mpr c6; clear c6; have H' := Aside0.mk H; clear H; have p209 : 0 ≤ (x3_1 : Int) := of_decide_eq_true (by first | (with_reducible assumption) | assumption); have q209 : x3_1 < (l0.length : Int) := of_decide_eq_true (by first | (with_reducible assumption) | assumption); obtain ⟨ad209, A209_2, c209_2, e209, hx209_0, hx209_1, hx209_2, hx209_3, hl209_2, hi209_2⟩ := at_T27 HR0.out x3_1 p209 q209; cases e209; replace hx209_0 := (HB.out.cell (World.block_lt_of_cell? w _ hx209_0)).trans hx209_0; replace hx209_1 := (HB.out.cell (World.block_lt_of_cell? w _ hx209_1)).trans hx209_1; replace hx209_2 := (HB.out.cell (World.block_lt_of_cell? w _ hx209_2)).trans hx209_2; replace hx209_3 := (HB.out.cell (World.block_lt_of_cell? w _ hx209_3)).trans hx209_3; have HR209_2 := Aside0.mk hi209_2; have HC209_2 := Aside0.mk hl209_2; clear hi209_2 hl209_2; replace p209 := eq_true p209; replace q209 := eq_true q209; go_wp2_with (first | (go_at_call 21; (with_reducible refine (spileref09_Check.calls k1 ((rd_T27 l0 x3_1).f0) ((rd_T27 l0 x3_1).f1) _ _ ((rd_T27 l0 x3_1).f2) ((rd_T27 l0 x3_1).f3) t210 _ ?side1 ?side2 A5.out).mono ?_); (case side1 => repeat (first | exact (Kd.C_below HR209_2.out HB.out) | (with_reducible refine Kd.C_alloc ?_ _) | (with_reducible refine Kd.C_drewN ?_ _) | (with_reducible refine Kd.C_drew ?_))); (case side2 => exact HC209_2.out); rintro e w7 ⟨rfl, hb⟩; have n0_ := Aside0.mk (below_step (by repeat (first | (with_reducible first | exact HB.out | apply below_alloc | apply pw_below_drewN | apply below_drew1) | exact HB.out)) hb); clear HB; have HB := n0_; clear n0_; (try clear hb); (try clear hb2); (try clear hk); (try clear hi)))
       repeat (go_quiet (first | (go_at_call 21; (with_reducible refine (spileref09_Check.calls k1 ((rd_T27 l0 x3_1).f0) ((rd_T27 l0 x3_1).f1) _ _ ((rd_T27 l0 x3_1).f2) ((rd_T27 l0 x3_1).f3) t210 _ ?side1 ?side2 A5.out).mono ?_); (case side1 => repeat (first | exact (Kd.C_below HR209_2.out HB.out) | (with_reducible refine Kd.C_alloc ?_ _) | (with_reducible refine Kd.C_drewN ?_ _) | (with_reducible refine Kd.C_drew ?_))); (case side2 => exact HC209_2.out); rintro e w7 ⟨rfl, hb⟩; have n0_ := Aside0.mk (below_step (by repeat (first | (with_reducible first | exact HB.out | apply below_alloc | apply pw_below_drewN | apply below_drew1) | exact HB.out)) hb); clear HB; have HB := n0_; clear n0_; (try clear hb); (try clear hb2); (try clear hk); (try clear hi))); try go_wp2_with (first | (go_at_call 21; (with_reducible refine (spileref09_Check.calls k1 ((rd_T27 l0 x3_1).f0) ((rd_T27 l0 x3_1).f1) _ _ ((rd_T27 l0 x3_1).f2) ((rd_T27 l0 x3_1).f3) t210 _ ?side1 ?side2 A5.out).mono ?_); (case side1 => repeat (first | exact (Kd.C_below HR209_2.out HB.out) | (with_reducible refine Kd.C_alloc ?_ _) | (with_reducible refine Kd.C_drewN ?_ _) | (with_reducible refine Kd.C_drew ?_))); (case side2 => exact HC209_2.out); rintro e w7 ⟨rfl, hb⟩; have n0_ := Aside0.mk (below_step (by repeat (first | (with_reducible first | exact HB.out | apply below_alloc | apply pw_below_drewN | apply below_drew1) | exact HB.out)) hb); clear HB; have HB := n0_; clear n0_; (try clear hb); (try clear hb2); (try clear hk); (try clear hi))))
       go_roundg k1
       case measure => have := HK1.out; omega
       case rel => exact ⟨(wrap64 (x3_1 + 1)), (by first | rfl | (simp; done) | (simp [*]; done)), H', ⟨by have := HK1.out; omega⟩, ⟨by repeat (first | (with_reducible first | exact HB.out | apply below_alloc | apply pw_below_drewN | apply below_drew1) | exact HB.out)⟩⟩
      ·
       rw [if_neg c6] at H; have c6b0 : (t210 == 0) = false := beq_eq_false_iff_ne.mpr c6; have c6b1 : (t210 != 0) = true := bne_iff_ne.mpr c6; obtain rfl := Option.some.inj H; have p209 : 0 ≤ (x3_1 : Int) := of_decide_eq_true (by first | (with_reducible assumption) | assumption); have q209 : x3_1 < (l0.length : Int) := of_decide_eq_true (by first | (with_reducible assumption) | assumption); obtain ⟨ad209, A209_2, c209_2, e209, hx209_0, hx209_1, hx209_2, hx209_3, hl209_2, hi209_2⟩ := at_T27 HR0.out x3_1 p209 q209; cases e209; replace hx209_0 := (HB.out.cell (World.block_lt_of_cell? w _ hx209_0)).trans hx209_0; replace hx209_1 := (HB.out.cell (World.block_lt_of_cell? w _ hx209_1)).trans hx209_1; replace hx209_2 := (HB.out.cell (World.block_lt_of_cell? w _ hx209_2)).trans hx209_2; replace hx209_3 := (HB.out.cell (World.block_lt_of_cell? w _ hx209_3)).trans hx209_3; have HR209_2 := Aside0.mk hi209_2; have HC209_2 := Aside0.mk hl209_2; clear hi209_2 hl209_2; replace p209 := eq_true p209; replace q209 := eq_true q209; go_wp2_with (first | (go_at_call 21; (with_reducible refine (spileref09_Check.calls k1 ((rd_T27 l0 x3_1).f0) ((rd_T27 l0 x3_1).f1) _ _ ((rd_T27 l0 x3_1).f2) ((rd_T27 l0 x3_1).f3) t210 _ ?side1 ?side2 A5.out).mono ?_); (case side1 => repeat (first | exact (Kd.C_below HR209_2.out HB.out) | (with_reducible refine Kd.C_alloc ?_ _) | (with_reducible refine Kd.C_drewN ?_ _) | (with_reducible refine Kd.C_drew ?_))); (case side2 => exact HC209_2.out); rintro e w8 ⟨rfl, hb⟩; have n0_ := Aside0.mk (below_step (by repeat (first | (with_reducible first | exact HB.out | apply below_alloc | apply pw_below_drewN | apply below_drew1) | exact HB.out)) hb); clear HB; have HB := n0_; clear n0_; (try clear hb); (try clear hb2); (try clear hk); (try clear hi)))
       repeat (go_quiet (first | (go_at_call 21; (with_reducible refine (spileref09_Check.calls k1 ((rd_T27 l0 x3_1).f0) ((rd_T27 l0 x3_1).f1) _ _ ((rd_T27 l0 x3_1).f2) ((rd_T27 l0 x3_1).f3) t210 _ ?side1 ?side2 A5.out).mono ?_); (case side1 => repeat (first | exact (Kd.C_below HR209_2.out HB.out) | (with_reducible refine Kd.C_alloc ?_ _) | (with_reducible refine Kd.C_drewN ?_ _) | (with_reducible refine Kd.C_drew ?_))); (case side2 => exact HC209_2.out); rintro e w8 ⟨rfl, hb⟩; have n0_ := Aside0.mk (below_step (by repeat (first | (with_reducible first | exact HB.out | apply below_alloc | apply pw_below_drewN | apply below_drew1) | exact HB.out)) hb); clear HB; have HB := n0_; clear n0_; (try clear hb); (try clear hb2); (try clear hk); (try clear hi))); try go_wp2_with (first | (go_at_call 21; (with_reducible refine (spileref09_Check.calls k1 ((rd_T27 l0 x3_1).f0) ((rd_T27 l0 x3_1).f1) _ _ ((rd_T27 l0 x3_1).f2) ((rd_T27 l0 x3_1).f3) t210 _ ?side1 ?side2 A5.out).mono ?_); (case side1 => repeat (first | exact (Kd.C_below HR209_2.out HB.out) | (with_reducible refine Kd.C_alloc ?_ _) | (with_reducible refine Kd.C_drewN ?_ _) | (with_reducible refine Kd.C_drew ?_))); (case side2 => exact HC209_2.out); rintro e w8 ⟨rfl, hb⟩; have n0_ := Aside0.mk (below_step (by repeat (first | (with_reducible first | exact HB.out | apply below_alloc | apply pw_below_drewN | apply below_drew1) | exact HB.out)) hb); clear HB; have HB := n0_; clear n0_; (try clear hb); (try clear hb2); (try clear hk); (try clear hi))))
       go_ret
       exact ⟨by first | rfl | (simp [errW_none, errW_some] <;> rfl) | (simp [*, errW_none, errW_some] <;> rfl), by repeat (first | (with_reducible first | exact HB.out | apply below_alloc | apply pw_below_drewN | apply below_drew1) | exact HB.out)⟩
     · rw [if_neg c4] at H; exact absurd H (by simp)
    ·
     rw [if_neg c3] at H; have c3b0 : decide (x3_1 < (l0.length : Int)) = false := decide_eq_false c3; clear c3; have H' := Aside0.mk H; clear H; go_wp2; repeat (go_quiet (fail); try go_wp2)
     go_loopg [5] k1 (fun kq v5 w' => ∃ (x5_2 : Int), v5 = .int .i64 x5_2 ∧ Aside0 (spileref09_List.l1 kq l0 x5_2 = some r) ∧ Aside0 (kq ≤ k1) ∧ Aside0 (Below w.heap.size w w'))
     case atStart => exact ⟨(0), (by first | rfl | (simp; done) | (simp [*]; done)), H', ⟨Nat.le_refl _⟩, ⟨by repeat (first | (with_reducible first | exact HB.out | apply below_alloc | apply pw_below_drewN | apply below_drew1) | exact HB.out)⟩⟩
     case round =>
      clear H'; try clear c1
      try clear c2
      try clear c2b0
      try clear c2b1
      try clear p2
      try clear q2
      try clear hx2
      try clear c3
      try clear c3b0
      try clear c4
      try clear c4b0
      try clear c6
      try clear c6b0
      try clear c6b1
      try clear p6
      try clear hx209_0
      try clear hx209_1
      try clear hx209_2
      try clear hx209_3
      try clear p2
      try clear p209
      try clear q209
      obtain ⟨x5_2, rfl, HA, HK2, HB⟩ := hrel
      cases gk with
      | zero => exact absurd HA.out (by simp [spileref09_List.l1])
      | succ k2 =>
       have H := HA.out; clear HA; simp only [spileref09_List.l1] at H; by_cases c9 : x5_2 < (l0.length : Int)
       ·
        rw [if_pos c9] at H; have c9b0 : decide (x5_2 < (l0.length : Int)) = true := decide_eq_true c9; clear c9; have H' := Aside0.mk H; clear H; go_wp2; repeat (go_quiet (fail); try go_wp2)
        go_loopg [6] k2 (fun kq v6 w' => ∃ (x6_3 : Int), v6 = .int .i64 x6_3 ∧ Aside0 (spileref09_List.l2 kq l0 x5_2 x6_3 = some r) ∧ Aside0 (kq ≤ k2) ∧ Aside0 (Below w.heap.size w w'))
        case atStart => exact ⟨(0), (by first | rfl | (simp; done) | (simp [*]; done)), H', ⟨Nat.le_refl _⟩, ⟨by repeat (first | (with_reducible first | exact HB.out | apply below_alloc | apply pw_below_drewN | apply below_drew1) | exact HB.out)⟩⟩
        case round =>
         clear H'; try clear c1
         try clear c2
         try clear c2b0
         try clear c2b1
         try clear p2
         try clear q2
         try clear hx2
         try clear c3
         try clear c3b0
         try clear c4
         try clear c4b0
         try clear c6
         try clear c6b0
         try clear c6b1
         try clear p6
         try clear c9
         try clear c9b0
         try clear hx209_0
         try clear hx209_1
         try clear hx209_2
         try clear hx209_3
         try clear p2
         try clear p209
         try clear p6
         try clear q2
         try clear q209
         obtain ⟨x6_3, rfl, HA, HK3, HB⟩ := hrel
         cases gk with
         | zero => exact absurd HA.out (by simp [spileref09_List.l2])
         | succ k3 =>
          have H := HA.out; clear HA; simp only [spileref09_List.l2] at H; by_cases c10 : x6_3 < x5_2
          ·
           rw [if_pos c10] at H; have c10b0 : decide (x6_3 < x5_2) = true := decide_eq_true c10; clear c10; by_cases c11 : 0 ≤ x5_2
           ·
            rw [if_pos c11] at H; have c11b0 : decide (0 ≤ x5_2) = true := decide_eq_true c11; clear c11; by_cases c12 : x5_2 < (l0.length : Int)
            ·
             rw [if_pos c12] at H; have c12b0 : decide (x5_2 < (l0.length : Int)) = true := decide_eq_true c12; clear c12; by_cases c13 : 0 ≤ x6_3
             ·
              rw [if_pos c13] at H; have c13b0 : decide (0 ≤ x6_3) = true := decide_eq_true c13; clear c13; by_cases c14 : x6_3 < (l0.length : Int)
              ·
               rw [if_pos c14] at H; have c14b0 : decide (x6_3 < (l0.length : Int)) = true := decide_eq_true c14; clear c14; by_cases c15 : ((rd_T27 l0 x5_2).f0).toList = ((rd_T27 l0 x6_3).f0).toList
               ·
                rw [if_pos c15] at H; have c15b0 : (((rd_T27 l0 x5_2).f0).toList == ((rd_T27 l0 x6_3).f0).toList) = true := beq_iff_eq.mpr c15; have c15b1 : (((rd_T27 l0 x5_2).f0).toList != ((rd_T27 l0 x6_3).f0).toList) = false := bne_eq_false_iff_eq.mpr c15; clear c15; obtain rfl := Option.some.inj H; have p211 : 0 ≤ (x5_2 : Int) := of_decide_eq_true (by first | (with_reducible assumption) | assumption); have q211 : x5_2 < (l0.length : Int) := of_decide_eq_true (by first | (with_reducible assumption) | assumption); obtain ⟨ad211, A211_2, c211_2, e211, hx211_0, hx211_1, hx211_2, hx211_3, hl211_2, hi211_2⟩ := at_T27 HR0.out x5_2 p211 q211; cases e211; replace hx211_0 := (HB.out.cell (World.block_lt_of_cell? w _ hx211_0)).trans hx211_0; replace hx211_1 := (HB.out.cell (World.block_lt_of_cell? w _ hx211_1)).trans hx211_1; replace hx211_2 := (HB.out.cell (World.block_lt_of_cell? w _ hx211_2)).trans hx211_2; replace hx211_3 := (HB.out.cell (World.block_lt_of_cell? w _ hx211_3)).trans hx211_3; have HR211_2 := Aside0.mk hi211_2; have HC211_2 := Aside0.mk hl211_2; clear hi211_2 hl211_2; replace p211 := eq_true p211; replace q211 := eq_true q211; have p212 : 0 ≤ (x6_3 : Int) := of_decide_eq_true (by first | (with_reducible assumption) | assumption); have q212 : x6_3 < (l0.length : Int) := of_decide_eq_true (by first | (with_reducible assumption) | assumption); obtain ⟨ad212, A212_2, c212_2, e212, hx212_0, hx212_1, hx212_2, hx212_3, hl212_2, hi212_2⟩ := at_T27 HR0.out x6_3 p212 q212; obtain rfl : ad211 = ad212 := (by injection e212); replace hx212_0 := (HB.out.cell (World.block_lt_of_cell? w _ hx212_0)).trans hx212_0; replace hx212_1 := (HB.out.cell (World.block_lt_of_cell? w _ hx212_1)).trans hx212_1; replace hx212_2 := (HB.out.cell (World.block_lt_of_cell? w _ hx212_2)).trans hx212_2; replace hx212_3 := (HB.out.cell (World.block_lt_of_cell? w _ hx212_3)).trans hx212_3; have HR212_2 := Aside0.mk hi212_2; have HC212_2 := Aside0.mk hl212_2; clear hi212_2 hl212_2; replace p212 := eq_true p212; replace q212 := eq_true q212; go_wp2; repeat (go_quiet (fail); try go_wp2)
                go_ret
                exact ⟨by first | rfl | (simp [errW_none, errW_some] <;> rfl) | (simp [*, errW_none, errW_some] <;> rfl), by repeat (first | (with_reducible first | exact HB.out | apply below_alloc | apply pw_below_drewN | apply below_drew1) | exact HB.out)⟩
               ·
                rw [if_neg c15] at H; have c15b0 : (((rd_T27 l0 x5_2).f0).toList == ((rd_T27 l0 x6_3).f0).toList) = false := beq_eq_false_iff_ne.mpr c15; have c15b1 : (((rd_T27 l0 x5_2).f0).toList != ((rd_T27 l0 x6_3).f0).toList) = true := bne_iff_ne.mpr c15; have H' := Aside0.mk H; clear H; have p211 : 0 ≤ (x5_2 : Int) := of_decide_eq_true (by first | (with_reducible assumption) | assumption); have q211 : x5_2 < (l0.length : Int) := of_decide_eq_true (by first | (with_reducible assumption) | assumption); obtain ⟨ad211, A211_2, c211_2, e211, hx211_0, hx211_1, hx211_2, hx211_3, hl211_2, hi211_2⟩ := at_T27 HR0.out x5_2 p211 q211; cases e211; replace hx211_0 := (HB.out.cell (World.block_lt_of_cell? w _ hx211_0)).trans hx211_0; replace hx211_1 := (HB.out.cell (World.block_lt_of_cell? w _ hx211_1)).trans hx211_1; replace hx211_2 := (HB.out.cell (World.block_lt_of_cell? w _ hx211_2)).trans hx211_2; replace hx211_3 := (HB.out.cell (World.block_lt_of_cell? w _ hx211_3)).trans hx211_3; have HR211_2 := Aside0.mk hi211_2; have HC211_2 := Aside0.mk hl211_2; clear hi211_2 hl211_2; replace p211 := eq_true p211; replace q211 := eq_true q211; have p212 : 0 ≤ (x6_3 : Int) := of_decide_eq_true (by first | (with_reducible assumption) | assumption); have q212 : x6_3 < (l0.length : Int) := of_decide_eq_true (by first | (with_reducible assumption) | assumption); obtain ⟨ad212, A212_2, c212_2, e212, hx212_0, hx212_1, hx212_2, hx212_3, hl212_2, hi212_2⟩ := at_T27 HR0.out x6_3 p212 q212; obtain rfl : ad211 = ad212 := (by injection e212); replace hx212_0 := (HB.out.cell (World.block_lt_of_cell? w _ hx212_0)).trans hx212_0; replace hx212_1 := (HB.out.cell (World.block_lt_of_cell? w _ hx212_1)).trans hx212_1; replace hx212_2 := (HB.out.cell (World.block_lt_of_cell? w _ hx212_2)).trans hx212_2; replace hx212_3 := (HB.out.cell (World.block_lt_of_cell? w _ hx212_3)).trans hx212_3; have HR212_2 := Aside0.mk hi212_2; have HC212_2 := Aside0.mk hl212_2; clear hi212_2 hl212_2; replace p212 := eq_true p212; replace q212 := eq_true q212; go_wp2; repeat (go_quiet (fail); try go_wp2)
                go_roundg k3
                case measure => have := HK1.out; have := HK2.out; have := HK3.out; omega
                case rel => exact ⟨(wrap64 (x6_3 + 1)), (by first | rfl | (simp; done) | (simp [*]; done)), H', ⟨by have := HK1.out; have := HK2.out; have := HK3.out; omega⟩, ⟨by repeat (first | (with_reducible first | exact HB.out | apply below_alloc | apply pw_below_drewN | apply below_drew1) | exact HB.out)⟩⟩
              · rw [if_neg c14] at H; exact absurd H (by simp)
             · rw [if_neg c13] at H; exact absurd H (by simp)
            · rw [if_neg c12] at H; exact absurd H (by simp)
           · rw [if_neg c11] at H; exact absurd H (by simp)
          ·
           rw [if_neg c10] at H; have c10b0 : decide (x6_3 < x5_2) = false := decide_eq_false c10; clear c10; have H' := Aside0.mk H; clear H; go_wp2; repeat (go_quiet (fail); try go_wp2)
           go_roundg k3
           case measure => have := HK1.out; have := HK2.out; have := HK3.out; omega
           case rel => exact ⟨(wrap64 (x5_2 + 1)), (by first | rfl | (simp; done) | (simp [*]; done)), H', ⟨by have := HK1.out; have := HK2.out; have := HK3.out; omega⟩, ⟨by repeat (first | (with_reducible first | exact HB.out | apply below_alloc | apply pw_below_drewN | apply below_drew1) | exact HB.out)⟩⟩
       ·
        rw [if_neg c9] at H; have c9b0 : decide (x5_2 < (l0.length : Int)) = false := decide_eq_false c9; clear c9; obtain rfl := Option.some.inj H; go_wp2; repeat (go_quiet (fail); try go_wp2)
        go_ret
        exact ⟨by first | rfl | (simp [errW_none, errW_some] <;> rfl) | (simp [*, errW_none, errW_some] <;> rfl), by repeat (first | (with_reducible first | exact HB.out | apply below_alloc | apply pw_below_drewN | apply below_drew1) | exact HB.out)⟩
end Go.Proofs.YtnhmlneebnkjcaaDoor.Pr
namespace Go.Proofs.YtnhmlneebnkjcaaDoor.Pr
open Go.RowKit Go.Proofs.YtnhmlneebnkjcaaDoorW.PrintWords Go.Proofs.YtnhmlneebnkjcaaDoorW.PrintLast Go.Proofs.YtnhmlneebnkjcaaDoorW.PrintMore Go.Proofs.YtnhmlneebnkjcaaDoor.X
attribute [local go_sem] max2_int min2_int max_two min_two max_three min_three max_four min_four   -- for this text's walks alone
set_option linter.unusedVariables false
set_option linter.unusedSimpArgs false
def spileref09_word.f (a0 : Int) : Option (ByteArray) := if a0 = 1 then (some (⟨#[108, 121, 105, 110, 103]⟩ : ByteArray)) else (some (⟨#[115, 116, 97, 110, 100, 105, 110, 103]⟩ : ByteArray))
set_option maxHeartbeats 8000000 in
set_option maxRecDepth 100000 in
theorem spileref09_word.calls (a0 : Int) (r : ByteArray) (w : World) (h : spileref09_word.f a0 = some r) :
  Calls Tryd.prog 45 #[.int .i64 a0] w fun e w' => e = .returned (.string r) ∧ Drawn0 w w' := by
 have H : (if a0 = 1 then (some (⟨#[108, 121, 105, 110, 103]⟩ : ByteArray)) else (some (⟨#[115, 116, 97, 110, 100, 105, 110, 103]⟩ : ByteArray))) = some r := h; clear h; by_cases c2 : a0 = 1
 ·
  rw [if_pos c2] at H; have c2b0 : (a0 == 1) = true := beq_iff_eq.mpr c2; have c2b1 : (a0 != 1) = false := bne_eq_false_iff_eq.mpr c2; clear c2; obtain rfl := Option.some.inj H; go_enter Tryd.func45, Tryd.ntmps45
  go_wp2; go_ret
  exact ⟨by first | rfl | (simp; done) | (simp [*]; done), by repeat (first | exact Drawn0.refl _ | apply Drawn0.step)⟩
 ·
  rw [if_neg c2] at H; have c2b0 : (a0 == 1) = false := beq_eq_false_iff_ne.mpr c2; have c2b1 : (a0 != 1) = true := bne_iff_ne.mpr c2; obtain rfl := Option.some.inj H; go_enter Tryd.func45, Tryd.ntmps45
  go_wp2; go_ret
  exact ⟨by first | rfl | (simp; done) | (simp [*]; done), by repeat (first | exact Drawn0.refl _ | apply Drawn0.step)⟩
mutual
def spileref09_Print.l0 : Nat → List (S27) → ByteArray → Int → Option (ByteArray × Int)
 | 0, _, _, _ => none
 | k + 1, x0, x5, x6 => if x6 < (x0.length : Int) then (if 0 ≤ x6 then (if 5 + ((rd_T27 x0 x6).f0).size ≤ 9223372036854775807 then (if ((⟨#[99, 97, 115, 107, 32]⟩ : ByteArray) ++ ((rd_T27 x0 x6).f0)).size + 1 ≤ 9223372036854775807 then ((spileref09_word.f ((rd_T27 x0 x6).f1)).bind fun t276 => (if (((⟨#[99, 97, 115, 107, 32]⟩ : ByteArray) ++ ((rd_T27 x0 x6).f0)) ++ (⟨#[32]⟩ : ByteArray)).size + t276.size ≤ 9223372036854775807 then (if ((((⟨#[99, 97, 115, 107, 32]⟩ : ByteArray) ++ ((rd_T27 x0 x6).f0)) ++ (⟨#[32]⟩ : ByteArray)) ++ t276).size + 10 ≤ 9223372036854775807 then ((strconv_Itoa.f ((rd_T27 x0 x6).f3)).bind fun t277 => (if (((((⟨#[99, 97, 115, 107, 32]⟩ : ByteArray) ++ ((rd_T27 x0 x6).f0)) ++ (⟨#[32]⟩ : ByteArray)) ++ t276) ++ (⟨#[32, 100, 101, 99, 108, 97, 114, 101, 100, 32]⟩ : ByteArray)).size + t277.size ≤ 9223372036854775807 then (if ((((((⟨#[99, 97, 115, 107, 32]⟩ : ByteArray) ++ ((rd_T27 x0 x6).f0)) ++ (⟨#[32]⟩ : ByteArray)) ++ t276) ++ (⟨#[32, 100, 101, 99, 108, 97, 114, 101, 100, 32]⟩ : ByteArray)) ++ t277).size + 1 ≤ 9223372036854775807 then (if x5.size + (((((((⟨#[99, 97, 115, 107, 32]⟩ : ByteArray) ++ ((rd_T27 x0 x6).f0)) ++ (⟨#[32]⟩ : ByteArray)) ++ t276) ++ (⟨#[32, 100, 101, 99, 108, 97, 114, 101, 100, 32]⟩ : ByteArray)) ++ t277) ++ (⟨#[10]⟩ : ByteArray)).size ≤ 9223372036854775807 then (spileref09_Print.l1 k x0 (x5 ++ (((((((⟨#[99, 97, 115, 107, 32]⟩ : ByteArray) ++ ((rd_T27 x0 x6).f0)) ++ (⟨#[32]⟩ : ByteArray)) ++ t276) ++ (⟨#[32, 100, 101, 99, 108, 97, 114, 101, 100, 32]⟩ : ByteArray)) ++ t277) ++ (⟨#[10]⟩ : ByteArray))) x6 0 ((rd_T27 x0 x6).f0) ((rd_T27 x0 x6).f1) ((rd_T27 x0 x6).f2) ((rd_T27 x0 x6).f3)) else (none)) else (none)) else (none))) else (none)) else (none))) else (none)) else (none)) else (none)) else (some (x5, 0))
def spileref09_Print.l1 : Nat → List (S27) → ByteArray → Int → Int → ByteArray → Int → List (S46) → Int → Option (ByteArray × Int)
 | 0, _, _, _, _, _, _, _, _ => none
 | k + 1, x0, x5, x6, x8, x276000, x276001, x276002, x276003 => if x8 < (x276002.length : Int) then (if 0 ≤ x8 then ((strconv_Itoa.f ((rd_T46 x276002 x8).f0)).bind fun t279 => (if 3 + t279.size ≤ 9223372036854775807 then (if ((⟨#[97, 116, 32]⟩ : ByteArray) ++ t279).size + 8 ≤ 9223372036854775807 then ((strconv_Itoa.f ((rd_T46 x276002 x8).f1)).bind fun t281 => (if (((⟨#[97, 116, 32]⟩ : ByteArray) ++ t279) ++ (⟨#[32, 114, 97, 100, 105, 117, 115, 32]⟩ : ByteArray)).size + t281.size ≤ 9223372036854775807 then (if ((((⟨#[97, 116, 32]⟩ : ByteArray) ++ t279) ++ (⟨#[32, 114, 97, 100, 105, 117, 115, 32]⟩ : ByteArray)) ++ t281).size + 1 ≤ 9223372036854775807 then (if x5.size + (((((⟨#[97, 116, 32]⟩ : ByteArray) ++ t279) ++ (⟨#[32, 114, 97, 100, 105, 117, 115, 32]⟩ : ByteArray)) ++ t281) ++ (⟨#[10]⟩ : ByteArray)).size ≤ 9223372036854775807 then (spileref09_Print.l1 k x0 (x5 ++ (((((⟨#[97, 116, 32]⟩ : ByteArray) ++ t279) ++ (⟨#[32, 114, 97, 100, 105, 117, 115, 32]⟩ : ByteArray)) ++ t281) ++ (⟨#[10]⟩ : ByteArray))) x6 (wrap64 (x8 + 1)) x276000 x276001 x276002 x276003) else (none)) else (none)) else (none))) else (none)) else (none))) else (none)) else (if x5.size + 4 ≤ 9223372036854775807 then (spileref09_Print.l0 k x0 (x5 ++ (⟨#[101, 110, 100, 10]⟩ : ByteArray)) (wrap64 (x6 + 1))) else (none))
end
def spileref09_Print.f (k : Nat) (l0 : List (S27)) : Option (ByteArray × Int) := (spileref09_List.f k l0).bind fun t273 => (if t273 = 0 then (spileref09_Print.l0 k l0 (⟨#[]⟩ : ByteArray) 0) else (some ((⟨#[]⟩ : ByteArray), t273)))
def spileref09_Print.T9 : Bool × List (List Nat × List Nat) := (true, [([], []), ([], []), ([1], [1]), ([2], [2]), ([3], [3]), ([], []), ([5], [5]), ([6], [6]), ([4, 7], [4, 7]), ([8], [8]), ([], []), ([10], [10]), ([11, 7], [11]), ([9, 12], [9, 12]), ([13], [13]), ([0, 14], [0, 14]), ([15, 12, 0, 1, 2, 3, 4, 5, 6, 7, 8, 9, 10, 11, 12, 13, 14, 15], [0, 15])])
def spileref09_Print.B9 : List Nat := [0, 0, 2, 6, 14, 0, 32, 96, 254, 510, 0, 1024, 3296, 8190, 16382, 32767, 65535]
theorem spileref09_Print.tab9 : rtab .any (opsOf Tryd.f23 9) = spileref09_Print.T9 := by kernel_rfl
theorem spileref09_Print.bits9 : waitsOk spileref09_Print.T9.2 spileref09_Print.B9 = true := by kernel_rfl
def spileref09_Print.T13 : Bool × List (List Nat × List Nat) := (true, [([], []), ([], []), ([1], [1]), ([], []), ([2, 3], [2, 3]), ([4], [4]), ([5], [5]), ([6], [6]), ([7], [7]), ([8], [8]), ([], []), ([10], [10]), ([], []), ([11, 12], [11, 12]), ([13], [13]), ([14], [14]), ([15, 7], [15]), ([9, 16], [9, 16]), ([17], [17]), ([0, 18], [0, 18]), ([19, 16, 0, 1, 2, 3, 4, 5, 6, 7, 8, 9, 10, 11, 12, 13, 14, 15, 16, 17, 18, 19], [0, 19])])
def spileref09_Print.B13 : List Nat := [0, 0, 2, 0, 14, 30, 62, 126, 254, 510, 0, 1024, 0, 7168, 15360, 31744, 64766, 131070, 262142, 524287, 1048575]
theorem spileref09_Print.tab13 : rtab .any (opsOf Tryd.f23 13) = spileref09_Print.T13 := by kernel_rfl
theorem spileref09_Print.bits13 : waitsOk spileref09_Print.T13.2 spileref09_Print.B13 = true := by kernel_rfl
set_option maxHeartbeats 8000000 in
set_option maxRecDepth 100000 in
theorem spileref09_Print.calls (k : Nat) (A0 : Option Addr) (c0 : Nat) (l0 : List (S27)) (r1 : ByteArray) (r2 : Int) (w : World) (hr0 : Kd.C k27 w A0 l0.length l0) (hc0 : l0.length ≤ c0) (hG : GI w) (h : spileref09_Print.f k l0 = some (r1, r2)) :
  Calls Tryd.prog 23 #[.slice A0 l0.length c0] w fun e w' => e = .returned (.tuple #[.string r1, .int .i64 r2]) ∧ Below w.heap.size w w' := by
 have hu27 := Tryd.underlying27; have HR0 := Aside0.mk hr0; have HC0 := Aside0.mk hc0; clear hr0 hc0; have HG := Aside0.mk hG; clear hG; have HB := Aside0.mk (Below.refl w.heap.size w); have H : ((spileref09_List.f k l0).bind fun t273 => (if t273 = 0 then (spileref09_Print.l0 k l0 (⟨#[]⟩ : ByteArray) 0) else (some ((⟨#[]⟩ : ByteArray), t273)))) = some (r1, r2) := h; clear h; replace H := Option.bind_eq_some_iff.mp H; obtain ⟨t273, A20, H⟩ := H; replace H : (if t273 = 0 then (spileref09_Print.l0 k l0 (⟨#[]⟩ : ByteArray) 0) else (some ((⟨#[]⟩ : ByteArray), t273))) = some (r1, r2) := H; have A2 := Aside0.mk A20; clear A20; by_cases c3 : t273 = 0
 ·
  rw [if_pos c3] at H; have c3b0 : (t273 == 0) = true := beq_iff_eq.mpr c3; have c3b1 : (t273 != 0) = false := bne_eq_false_iff_eq.mpr c3; clear c3; have H' := Aside0.mk H; clear H; go_enter Tryd.func23, Tryd.ntmps23
  go_wp2_with (first | ((with_reducible refine gate_callee (f := 17) rfl ?_); refine goesL_ (some 10) rfl rfl Tryd.func17 (by kernel_rfl) rfl #[.slice A0 l0.length c0] rfl (by (try simp only [List.map_toArray, List.map_cons, List.map_nil]); first | done | rfl | (simp only [List.length_drop, List.length_take]; rfl)) ?_; (with_reducible refine (spileref09_List.calls k _ _ l0 t273 _ ?side1 ?side2 A2.out).mono ?_); (case side1 => repeat (first | exact HR0.out | (with_reducible refine Kd.C_alloc ?_ _) | (with_reducible refine Kd.C_drewN ?_ _) | (with_reducible refine Kd.C_drew ?_))); (case side2 => exact HC0.out); rintro e w4 ⟨rfl, hb⟩; refine ⟨_, rfl, ?_⟩; have n0_ := Aside0.mk (below_step (by repeat (first | (with_reducible first | exact HB.out | apply below_alloc | apply pw_below_drewN | apply below_drew1) | exact HB.out)) hb); clear HB; have HB := n0_; clear n0_; (try clear hb); (try clear hb2); (try clear hk); (try clear hi)))
  go_loopg [5, 6] k (fun kq v5 v6 w' => ∃ (x5_1 : ByteArray) (x6_1 : Int), v5 = .string x5_1 ∧ v6 = .int .i64 x6_1 ∧ Aside0 (spileref09_Print.l0 kq l0 x5_1 x6_1 = some (r1, r2)) ∧ Aside0 (kq ≤ k) ∧ Aside0 (Below w.heap.size w w'))
  case atStart => exact ⟨((⟨#[]⟩ : ByteArray)), (0), (by first | rfl | (simp; done) | (simp [*]; done)), (by first | rfl | (simp; done) | (simp [*]; done)), H', ⟨Nat.le_refl _⟩, ⟨by repeat (first | (with_reducible first | exact HB.out | apply below_alloc | apply pw_below_drewN | apply below_drew1) | exact HB.out)⟩⟩
  case round =>
   clear H'; try clear c1
   try clear c2
   try clear p2
   try clear c3
   try clear c3b0
   try clear c3b1
   obtain ⟨x5_1, x6_1, rfl, rfl, HA, HK1, HB⟩ := hrel
   cases gk with
   | zero => exact absurd HA.out (by simp [spileref09_Print.l0])
   | succ k1 =>
    have H := HA.out; clear HA; simp only [spileref09_Print.l0] at H; by_cases c5 : x6_1 < (l0.length : Int)
    ·
     rw [if_pos c5] at H; have c5b0 : decide (x6_1 < (l0.length : Int)) = true := decide_eq_true c5; clear c5; by_cases c6 : 0 ≤ x6_1
     ·
      rw [if_pos c6] at H; have c6b0 : decide (0 ≤ x6_1) = true := decide_eq_true c6; clear c6; by_cases c7 : 5 + ((rd_T27 l0 x6_1).f0).size ≤ 9223372036854775807
      ·
       rw [if_pos c7] at H; have c7b0 := eq_true c7; have c7b1 : decide (5 + ((rd_T27 l0 x6_1).f0).size ≤ 9223372036854775807) = true := decide_eq_true c7; try have c7b2 : (9223372036854775807 < 5 + ((rd_T27 l0 x6_1).f0).size) = False := eq_false (Nat.not_lt.2 c7)
       by_cases c8 : ((⟨#[99, 97, 115, 107, 32]⟩ : ByteArray) ++ ((rd_T27 l0 x6_1).f0)).size + 1 ≤ 9223372036854775807
       ·
        rw [if_pos c8] at H; have c8b0 := eq_true c8; have c8b1 : decide (((⟨#[99, 97, 115, 107, 32]⟩ : ByteArray) ++ ((rd_T27 l0 x6_1).f0)).size + 1 ≤ 9223372036854775807) = true := decide_eq_true c8; try have c8b2 : (9223372036854775807 < ((⟨#[99, 97, 115, 107, 32]⟩ : ByteArray) ++ ((rd_T27 l0 x6_1).f0)).size + 1) = False := eq_false (Nat.not_lt.2 c8)
        try have c8b3 : (9223372036854775807 < 5 + (rd_T27 l0 x6_1).f0.size + 1) = False := eq_false (Nat.not_lt.2 (by have h_ := c8; simp only [ByteArray.size_append] at h_; exact h_))
        replace H := Option.bind_eq_some_iff.mp H; obtain ⟨t276, A90, H⟩ := H; replace H : (if (((⟨#[99, 97, 115, 107, 32]⟩ : ByteArray) ++ ((rd_T27 l0 x6_1).f0)) ++ (⟨#[32]⟩ : ByteArray)).size + t276.size ≤ 9223372036854775807 then (if ((((⟨#[99, 97, 115, 107, 32]⟩ : ByteArray) ++ ((rd_T27 l0 x6_1).f0)) ++ (⟨#[32]⟩ : ByteArray)) ++ t276).size + 10 ≤ 9223372036854775807 then ((strconv_Itoa.f ((rd_T27 l0 x6_1).f3)).bind fun t277 => (if (((((⟨#[99, 97, 115, 107, 32]⟩ : ByteArray) ++ ((rd_T27 l0 x6_1).f0)) ++ (⟨#[32]⟩ : ByteArray)) ++ t276) ++ (⟨#[32, 100, 101, 99, 108, 97, 114, 101, 100, 32]⟩ : ByteArray)).size + t277.size ≤ 9223372036854775807 then (if ((((((⟨#[99, 97, 115, 107, 32]⟩ : ByteArray) ++ ((rd_T27 l0 x6_1).f0)) ++ (⟨#[32]⟩ : ByteArray)) ++ t276) ++ (⟨#[32, 100, 101, 99, 108, 97, 114, 101, 100, 32]⟩ : ByteArray)) ++ t277).size + 1 ≤ 9223372036854775807 then (if x5_1.size + (((((((⟨#[99, 97, 115, 107, 32]⟩ : ByteArray) ++ ((rd_T27 l0 x6_1).f0)) ++ (⟨#[32]⟩ : ByteArray)) ++ t276) ++ (⟨#[32, 100, 101, 99, 108, 97, 114, 101, 100, 32]⟩ : ByteArray)) ++ t277) ++ (⟨#[10]⟩ : ByteArray)).size ≤ 9223372036854775807 then (spileref09_Print.l1 k1 l0 (x5_1 ++ (((((((⟨#[99, 97, 115, 107, 32]⟩ : ByteArray) ++ ((rd_T27 l0 x6_1).f0)) ++ (⟨#[32]⟩ : ByteArray)) ++ t276) ++ (⟨#[32, 100, 101, 99, 108, 97, 114, 101, 100, 32]⟩ : ByteArray)) ++ t277) ++ (⟨#[10]⟩ : ByteArray))) x6_1 0 ((rd_T27 l0 x6_1).f0) ((rd_T27 l0 x6_1).f1) ((rd_T27 l0 x6_1).f2) ((rd_T27 l0 x6_1).f3)) else (none)) else (none)) else (none))) else (none)) else (none)) = some (r1, r2) := H; have A9 := Aside0.mk A90; clear A90; by_cases c10 : (((⟨#[99, 97, 115, 107, 32]⟩ : ByteArray) ++ ((rd_T27 l0 x6_1).f0)) ++ (⟨#[32]⟩ : ByteArray)).size + t276.size ≤ 9223372036854775807
        ·
         rw [if_pos c10] at H; have c10b0 := eq_true c10; have c10b1 : decide ((((⟨#[99, 97, 115, 107, 32]⟩ : ByteArray) ++ ((rd_T27 l0 x6_1).f0)) ++ (⟨#[32]⟩ : ByteArray)).size + t276.size ≤ 9223372036854775807) = true := decide_eq_true c10; try have c10b2 : (9223372036854775807 < (((⟨#[99, 97, 115, 107, 32]⟩ : ByteArray) ++ ((rd_T27 l0 x6_1).f0)) ++ (⟨#[32]⟩ : ByteArray)).size + t276.size) = False := eq_false (Nat.not_lt.2 c10)
         try have c10b3 : (9223372036854775807 < 5 + (rd_T27 l0 x6_1).f0.size + 1 + t276.size) = False := eq_false (Nat.not_lt.2 (by have h_ := c10; simp only [ByteArray.size_append] at h_; exact h_))
         by_cases c11 : ((((⟨#[99, 97, 115, 107, 32]⟩ : ByteArray) ++ ((rd_T27 l0 x6_1).f0)) ++ (⟨#[32]⟩ : ByteArray)) ++ t276).size + 10 ≤ 9223372036854775807
         ·
          rw [if_pos c11] at H; have c11b0 := eq_true c11; have c11b1 : decide (((((⟨#[99, 97, 115, 107, 32]⟩ : ByteArray) ++ ((rd_T27 l0 x6_1).f0)) ++ (⟨#[32]⟩ : ByteArray)) ++ t276).size + 10 ≤ 9223372036854775807) = true := decide_eq_true c11; try have c11b2 : (9223372036854775807 < ((((⟨#[99, 97, 115, 107, 32]⟩ : ByteArray) ++ ((rd_T27 l0 x6_1).f0)) ++ (⟨#[32]⟩ : ByteArray)) ++ t276).size + 10) = False := eq_false (Nat.not_lt.2 c11)
          try have c11b3 : (9223372036854775807 < 5 + (rd_T27 l0 x6_1).f0.size + 1 + t276.size + 10) = False := eq_false (Nat.not_lt.2 (by have h_ := c11; simp only [ByteArray.size_append] at h_; exact h_))
          replace H := Option.bind_eq_some_iff.mp H; obtain ⟨t277, A120, H⟩ := H; replace H : (if (((((⟨#[99, 97, 115, 107, 32]⟩ : ByteArray) ++ ((rd_T27 l0 x6_1).f0)) ++ (⟨#[32]⟩ : ByteArray)) ++ t276) ++ (⟨#[32, 100, 101, 99, 108, 97, 114, 101, 100, 32]⟩ : ByteArray)).size + t277.size ≤ 9223372036854775807 then (if ((((((⟨#[99, 97, 115, 107, 32]⟩ : ByteArray) ++ ((rd_T27 l0 x6_1).f0)) ++ (⟨#[32]⟩ : ByteArray)) ++ t276) ++ (⟨#[32, 100, 101, 99, 108, 97, 114, 101, 100, 32]⟩ : ByteArray)) ++ t277).size + 1 ≤ 9223372036854775807 then (if x5_1.size + (((((((⟨#[99, 97, 115, 107, 32]⟩ : ByteArray) ++ ((rd_T27 l0 x6_1).f0)) ++ (⟨#[32]⟩ : ByteArray)) ++ t276) ++ (⟨#[32, 100, 101, 99, 108, 97, 114, 101, 100, 32]⟩ : ByteArray)) ++ t277) ++ (⟨#[10]⟩ : ByteArray)).size ≤ 9223372036854775807 then (spileref09_Print.l1 k1 l0 (x5_1 ++ (((((((⟨#[99, 97, 115, 107, 32]⟩ : ByteArray) ++ ((rd_T27 l0 x6_1).f0)) ++ (⟨#[32]⟩ : ByteArray)) ++ t276) ++ (⟨#[32, 100, 101, 99, 108, 97, 114, 101, 100, 32]⟩ : ByteArray)) ++ t277) ++ (⟨#[10]⟩ : ByteArray))) x6_1 0 ((rd_T27 l0 x6_1).f0) ((rd_T27 l0 x6_1).f1) ((rd_T27 l0 x6_1).f2) ((rd_T27 l0 x6_1).f3)) else (none)) else (none)) else (none)) = some (r1, r2) := H; have A12 := Aside0.mk A120; clear A120; by_cases c13 : (((((⟨#[99, 97, 115, 107, 32]⟩ : ByteArray) ++ ((rd_T27 l0 x6_1).f0)) ++ (⟨#[32]⟩ : ByteArray)) ++ t276) ++ (⟨#[32, 100, 101, 99, 108, 97, 114, 101, 100, 32]⟩ : ByteArray)).size + t277.size ≤ 9223372036854775807
          ·
           rw [if_pos c13] at H; have c13b0 := eq_true c13; have c13b1 : decide ((((((⟨#[99, 97, 115, 107, 32]⟩ : ByteArray) ++ ((rd_T27 l0 x6_1).f0)) ++ (⟨#[32]⟩ : ByteArray)) ++ t276) ++ (⟨#[32, 100, 101, 99, 108, 97, 114, 101, 100, 32]⟩ : ByteArray)).size + t277.size ≤ 9223372036854775807) = true := decide_eq_true c13; try have c13b2 : (9223372036854775807 < (((((⟨#[99, 97, 115, 107, 32]⟩ : ByteArray) ++ ((rd_T27 l0 x6_1).f0)) ++ (⟨#[32]⟩ : ByteArray)) ++ t276) ++ (⟨#[32, 100, 101, 99, 108, 97, 114, 101, 100, 32]⟩ : ByteArray)).size + t277.size) = False := eq_false (Nat.not_lt.2 c13)
           try have c13b3 : (9223372036854775807 < 5 + (rd_T27 l0 x6_1).f0.size + 1 + t276.size + 10 + t277.size) = False := eq_false (Nat.not_lt.2 (by have h_ := c13; simp only [ByteArray.size_append] at h_; exact h_))
           by_cases c14 : ((((((⟨#[99, 97, 115, 107, 32]⟩ : ByteArray) ++ ((rd_T27 l0 x6_1).f0)) ++ (⟨#[32]⟩ : ByteArray)) ++ t276) ++ (⟨#[32, 100, 101, 99, 108, 97, 114, 101, 100, 32]⟩ : ByteArray)) ++ t277).size + 1 ≤ 9223372036854775807
           ·
            rw [if_pos c14] at H; have c14b0 := eq_true c14; have c14b1 : decide (((((((⟨#[99, 97, 115, 107, 32]⟩ : ByteArray) ++ ((rd_T27 l0 x6_1).f0)) ++ (⟨#[32]⟩ : ByteArray)) ++ t276) ++ (⟨#[32, 100, 101, 99, 108, 97, 114, 101, 100, 32]⟩ : ByteArray)) ++ t277).size + 1 ≤ 9223372036854775807) = true := decide_eq_true c14; try have c14b2 : (9223372036854775807 < ((((((⟨#[99, 97, 115, 107, 32]⟩ : ByteArray) ++ ((rd_T27 l0 x6_1).f0)) ++ (⟨#[32]⟩ : ByteArray)) ++ t276) ++ (⟨#[32, 100, 101, 99, 108, 97, 114, 101, 100, 32]⟩ : ByteArray)) ++ t277).size + 1) = False := eq_false (Nat.not_lt.2 c14)
            try have c14b3 : (9223372036854775807 < 5 + (rd_T27 l0 x6_1).f0.size + 1 + t276.size + 10 + t277.size + 1) = False := eq_false (Nat.not_lt.2 (by have h_ := c14; simp only [ByteArray.size_append] at h_; exact h_))
            by_cases c15 : x5_1.size + (((((((⟨#[99, 97, 115, 107, 32]⟩ : ByteArray) ++ ((rd_T27 l0 x6_1).f0)) ++ (⟨#[32]⟩ : ByteArray)) ++ t276) ++ (⟨#[32, 100, 101, 99, 108, 97, 114, 101, 100, 32]⟩ : ByteArray)) ++ t277) ++ (⟨#[10]⟩ : ByteArray)).size ≤ 9223372036854775807
            ·
             rw [if_pos c15] at H; have c15b0 := eq_true c15; have c15b1 : decide (x5_1.size + (((((((⟨#[99, 97, 115, 107, 32]⟩ : ByteArray) ++ ((rd_T27 l0 x6_1).f0)) ++ (⟨#[32]⟩ : ByteArray)) ++ t276) ++ (⟨#[32, 100, 101, 99, 108, 97, 114, 101, 100, 32]⟩ : ByteArray)) ++ t277) ++ (⟨#[10]⟩ : ByteArray)).size ≤ 9223372036854775807) = true := decide_eq_true c15; try have c15b2 : (9223372036854775807 < x5_1.size + (((((((⟨#[99, 97, 115, 107, 32]⟩ : ByteArray) ++ ((rd_T27 l0 x6_1).f0)) ++ (⟨#[32]⟩ : ByteArray)) ++ t276) ++ (⟨#[32, 100, 101, 99, 108, 97, 114, 101, 100, 32]⟩ : ByteArray)) ++ t277) ++ (⟨#[10]⟩ : ByteArray)).size) = False := eq_false (Nat.not_lt.2 c15)
             try have c15b3 : (9223372036854775807 < x5_1.size + (5 + (rd_T27 l0 x6_1).f0.size + 1 + t276.size + 10 + t277.size + 1)) = False := eq_false (Nat.not_lt.2 (by have h_ := c15; simp only [ByteArray.size_append] at h_; exact h_))
             have H' := Aside0.mk H; clear H; have p274 : 0 ≤ (x6_1 : Int) := of_decide_eq_true (by first | (with_reducible assumption) | assumption); have q274 : x6_1 < (l0.length : Int) := of_decide_eq_true (by first | (with_reducible assumption) | assumption); obtain ⟨ad274, A274_2, c274_2, e274, hx274_0, hx274_1, hx274_2, hx274_3, hl274_2, hi274_2⟩ := at_T27 HR0.out x6_1 p274 q274; cases e274; replace hx274_0 := (HB.out.cell (World.block_lt_of_cell? w _ hx274_0)).trans hx274_0; replace hx274_1 := (HB.out.cell (World.block_lt_of_cell? w _ hx274_1)).trans hx274_1; replace hx274_2 := (HB.out.cell (World.block_lt_of_cell? w _ hx274_2)).trans hx274_2; replace hx274_3 := (HB.out.cell (World.block_lt_of_cell? w _ hx274_3)).trans hx274_3; have HR274_2 := Aside0.mk hi274_2; have HC274_2 := Aside0.mk hl274_2; clear hi274_2 hl274_2; replace p274 := eq_true p274; replace q274 := eq_true q274; try go_wp2_with (first | ((with_reducible refine gate_dst (N := 7) rfl ?_); refine box_event ?hg (N := 7) ?hd (cs := #[.string (⟨#[]⟩ : ByteArray), .int .i64 0, .slice none 0 0, .int .i64 0]) (t := 27) ?hr ?_; (case hd => rfl); (case hg => rfl); (case hr => first | (go_simp; done) | (go_simp; rfl)); intro gb275 hg w16 hbox hb; have n0_ := Aside0.mk (below_step (by repeat (first | (with_reducible first | exact HB.out | apply below_alloc | apply pw_below_drewN | apply below_drew1) | exact HB.out)) hb); have n1_ := Aside0.mk (hbox); have n2_ := Aside0.mk ((by rw [hg]; exact (below_size (by repeat (first | (with_reducible first | exact HB.out | apply below_alloc | apply pw_below_drewN | apply below_drew1) | exact HB.out))) : w.heap.size ≤ gb275)); have n3_ := Aside0.mk ((by rw [hg]; exact (below_size (by repeat (first | (with_reducible first | exact HB.out | apply below_alloc | apply pw_below_drewN | apply below_drew1) | exact HB.out))) : w.heap.size ≤ gb275)); clear HB; have HB := n0_; have BK275 := n1_; have GW275 := n2_; have GE275 := n3_; clear n0_ n1_ n2_ n3_; clear hb hbox hg; have hcz17_0 : w16.cell? ⟨gb275, 0, none⟩ = some (.string (⟨#[]⟩ : ByteArray)) := (blk_cell BK275.out 0).trans rfl; have hcz17_1 : w16.cell? ⟨gb275, 1, none⟩ = some (.int .i64 0) := (blk_cell BK275.out 1).trans rfl; have hcz17_2 : w16.cell? ⟨gb275, 2, none⟩ = some (.slice none 0 0) := (blk_cell BK275.out 2).trans rfl; have hcz17_3 : w16.cell? ⟨gb275, 3, none⟩ = some (.int .i64 0) := (blk_cell BK275.out 3).trans rfl; have hfz17_0 := blk_frozen BK275.out 0; have hfz17_1 := blk_frozen BK275.out 1; have hfz17_2 := blk_frozen BK275.out 2; have hfz17_3 := blk_frozen BK275.out 3))
             have n0_ : Aside0 (((((w16.setCell ⟨gb275, 0, none⟩ (.string ((rd_T27 l0 x6_1).f0))).setCell ⟨gb275, 1, none⟩ (.int .i64 ((rd_T27 l0 x6_1).f1))).setCell ⟨gb275, 2, none⟩ (.slice A274_2 ((rd_T27 l0 x6_1).f2).length c274_2)).setCell ⟨gb275, 3, none⟩ (.int .i64 ((rd_T27 l0 x6_1).f3))).heap[gb275]? = some (.cells #[.string ((rd_T27 l0 x6_1).f0), .int .i64 ((rd_T27 l0 x6_1).f1), .slice A274_2 ((rd_T27 l0 x6_1).f2).length c274_2, .int .i64 ((rd_T27 l0 x6_1).f3)] 27 (0, 0))) := ⟨by (with_reducible repeat (first | refine blk_drewN ?_ _ | refine blk_drew ?_ | refine blk_alloc ?_ _)); refine blk_put (cs := #[.string ((rd_T27 l0 x6_1).f0), .int .i64 ((rd_T27 l0 x6_1).f1), .slice A274_2 ((rd_T27 l0 x6_1).f2).length c274_2, .int .i64 0]) ?_ 3 _ rfl; (with_reducible repeat (first | refine blk_drewN ?_ _ | refine blk_drew ?_ | refine blk_alloc ?_ _)); refine blk_put (cs := #[.string ((rd_T27 l0 x6_1).f0), .int .i64 ((rd_T27 l0 x6_1).f1), .slice none 0 0, .int .i64 0]) ?_ 2 _ rfl; (with_reducible repeat (first | refine blk_drewN ?_ _ | refine blk_drew ?_ | refine blk_alloc ?_ _)); refine blk_put (cs := #[.string ((rd_T27 l0 x6_1).f0), .int .i64 0, .slice none 0 0, .int .i64 0]) ?_ 1 _ rfl; (with_reducible repeat (first | refine blk_drewN ?_ _ | refine blk_drew ?_ | refine blk_alloc ?_ _)); refine blk_put (cs := #[.string (⟨#[]⟩ : ByteArray), .int .i64 0, .slice none 0 0, .int .i64 0]) ?_ 0 _ rfl; (with_reducible repeat (first | refine blk_drewN ?_ _ | refine blk_drew ?_ | refine blk_alloc ?_ _)); exact BK275.out⟩; have n1_ : Aside0 (Below w.heap.size w ((((w16.setCell ⟨gb275, 0, none⟩ (.string ((rd_T27 l0 x6_1).f0))).setCell ⟨gb275, 1, none⟩ (.int .i64 ((rd_T27 l0 x6_1).f1))).setCell ⟨gb275, 2, none⟩ (.slice A274_2 ((rd_T27 l0 x6_1).f2).length c274_2)).setCell ⟨gb275, 3, none⟩ (.int .i64 ((rd_T27 l0 x6_1).f3)))) := ⟨by repeat (first | (with_reducible first | exact HB.out | apply below_alloc | apply pw_below_drewN | apply below_drew1 | refine below_set ?_ GE275.out) | exact HB.out)⟩; (try clear BK275)
             (try clear HB)
             generalize ((((w16.setCell ⟨gb275, 0, none⟩ (.string ((rd_T27 l0 x6_1).f0))).setCell ⟨gb275, 1, none⟩ (.int .i64 ((rd_T27 l0 x6_1).f1))).setCell ⟨gb275, 2, none⟩ (.slice A274_2 ((rd_T27 l0 x6_1).f2).length c274_2)).setCell ⟨gb275, 3, none⟩ (.int .i64 ((rd_T27 l0 x6_1).f3))) = w18 at n0_ n1_ ⊢; have BK275 := n0_; have HB := n1_; clear n0_ n1_; have n0_ := Aside0.mk (blk_drew BK275.out); have n1_ := Aside0.mk (below_drew1 HB.out); clear BK275; clear HB; have BK275 := n0_; have HB := n1_; clear n0_ n1_; refine start_ (n := 17) (S := fun w' => w'.cell? ⟨gb275, 0, none⟩ = some (.string ((rd_T27 l0 x6_1).f0)) ∧ w'.cell? ⟨gb275, 1, none⟩ = some (.int .i64 ((rd_T27 l0 x6_1).f1)) ∧ w'.cell? ⟨gb275, 2, none⟩ = some (.slice A274_2 ((rd_T27 l0 x6_1).f2).length c274_2) ∧ w'.cell? ⟨gb275, 3, none⟩ = some (.int .i64 ((rd_T27 l0 x6_1).f3))) (ds := []) #[false, false, false, false, false, false, false, false, false, false, false, false, false, false, false, false, false] (by kernel_rfl) rfl rfl ⟨(blk_cell BK275.out 0).trans rfl, (blk_cell BK275.out 1).trans rfl, (blk_cell BK275.out 2).trans rfl, (blk_cell BK275.out 3).trans rfl⟩ (fun hHeld => ?_); refine with_tabW spileref09_Print.tab9 spileref09_Print.bits9 (fun HT_ HW_ => ?_)
             generalize w18.drew = w19 at BK275 HB hHeld ⊢; refine pure_ (i := 0) (N := some 24) (v := ?_) (a' := ?_) #[true, false, false, false, false, false, false, false, false, false, false, false, false, false, false, false, false] rfl rfl (any_of HT_.out (by kernel_rfl)) (fun _ _ _ h => h) (Or.inl ⟨by rfl, ?_⟩) ?_ ?_; rotate_left
             · intro w'; go_simp; with_reducible rfl
             rotate_left
             · simp only [Act.put, sIA, sC0, sCS, i64_w, i32_w]; rfl
             refine pure_ (i := 1) (N := some 25) (v := ?_) (a' := ?_) #[true, true, false, false, false, false, false, false, false, false, false, false, false, false, false, false, false] rfl rfl (any_of HT_.out (by kernel_rfl)) (fun _ _ _ h => h) (Or.inl ⟨by rfl, ?_⟩) ?_ ?_; rotate_left
             · intro w'; go_simp; with_reducible rfl
             rotate_left
             · simp only [Act.put, sIA, sC0, sCS, i64_w, i32_w]; rfl
             refine pure_ (i := 5) (N := some 29) (v := ?_) (a' := ?_) #[true, true, false, false, false, true, false, false, false, false, false, false, false, false, false, false, false] rfl rfl (any_of HT_.out (by kernel_rfl)) (fun _ _ _ h => h) (Or.inl ⟨by rfl, ?_⟩) ?_ ?_; rotate_left
             · intro w'; go_simp; with_reducible rfl
             rotate_left
             · simp only [Act.put, sIA, sC0, sCS, i64_w, i32_w]; rfl
             refine pure_ (i := 10) (N := some 34) (v := ?_) (a' := ?_) #[true, true, false, false, false, true, false, false, false, false, true, false, false, false, false, false, false] rfl rfl (any_of HT_.out (by kernel_rfl)) (fun _ _ _ h => h) (Or.inl ⟨by rfl, ?_⟩) ?_ ?_; rotate_left
             · intro w'; go_simp; with_reducible rfl
             rotate_left
             · simp only [Act.put, sIA, sC0, sCS, i64_w, i32_w]; rfl
             refine take_ (i := 2) (N := some 26) (v := ?_) (a' := ?_) #[true, true, true, false, false, true, false, false, false, false, true, false, false, false, false, false, false] rfl rfl (take_ofW HT_.out HW_.out (by kernel_rfl)) (fun _ _ _ h => h) (Or.inl ⟨by rfl, ?_⟩) hHeld ?_ ?_; rotate_left
             · rintro w' ⟨s0, s1, s2, s3⟩; go_simp; with_reducible rfl
             rotate_left
             · simp only [Act.put, sIA, sC0, sCS, i64_w, i32_w]; rfl
             refine pure_ (i := 3) (N := some 27) (v := ?_) (a' := ?_) #[true, true, true, true, false, true, false, false, false, false, true, false, false, false, false, false, false] rfl rfl (any_of HT_.out (by kernel_rfl)) (fun _ _ _ h => h) (Or.inl ⟨by rfl, ?_⟩) ?_ ?_; rotate_left
             · intro w'; go_simp; with_reducible rfl
             rotate_left
             · simp only [Act.put, sIA, sC0, sCS, i64_w, i32_w]; rfl
             refine pure_ (i := 4) (N := some 28) (v := ?_) (a' := ?_) #[true, true, true, true, true, true, false, false, false, false, true, false, false, false, false, false, false] rfl rfl (any_of HT_.out (by kernel_rfl)) (fun _ _ _ h => h) (Or.inl ⟨by rfl, ?_⟩) ?_ ?_; rotate_left
             · intro w'; go_simp; with_reducible rfl
             rotate_left
             · simp only [Act.put, sIA, sC0, sCS, i64_w, i32_w]; rfl
             refine take_ (i := 6) (N := some 30) (v := ?_) (a' := ?_) #[true, true, true, true, true, true, true, false, false, false, true, false, false, false, false, false, false] rfl rfl (take_ofW HT_.out HW_.out (by kernel_rfl)) (fun _ _ _ h => h) (Or.inl ⟨by rfl, ?_⟩) hHeld ?_ ?_; rotate_left
             · rintro w' ⟨s0, s1, s2, s3⟩; go_simp; with_reducible rfl
             rotate_left
             · simp only [Act.put, sIA, sC0, sCS, i64_w, i32_w]; rfl
             refine take_ (i := 11) (N := some 35) (v := ?_) (a' := ?_) #[true, true, true, true, true, true, true, false, false, false, true, true, false, false, false, false, false] rfl rfl (take_ofW HT_.out HW_.out (by kernel_rfl)) (fun _ _ _ h => h) (Or.inl ⟨by rfl, ?_⟩) hHeld ?_ ?_; rotate_left
             · rintro w' ⟨s0, s1, s2, s3⟩; go_simp; with_reducible rfl
             rotate_left
             · simp only [Act.put, sIA, sC0, sCS, i64_w, i32_w]; rfl
             refine one_ (i := 7) (N := some 31) #[true, true, true, true, true, true, true, true, false, false, true, true, false, false, false, false, false] rfl rfl (one_of HT_.out (by kernel_rfl)) (by decide) (fun K hK => ?_); refine goes_ Tryd.func45 (by kernel_rfl) rfl #[.int .i64 ((rd_T27 l0 x6_1).f1)] (by rfl) rfl rfl (by (try simp only [List.map_toArray, List.map_cons, List.map_nil]); first | done | rfl | (simp only [List.length_drop, List.length_take]; rfl)) ?_; with_reducible refine (spileref09_word.calls ((rd_T27 l0 x6_1).f1) t276 _ A9.out).mono ?_
             rintro e w' ⟨rfl, ⟨nd, rfl⟩⟩; refine ⟨_, rfl, ?_⟩; refine hK.out _ _ ⟨(blk_cell BK275.out 0).trans rfl, (blk_cell BK275.out 1).trans rfl, (blk_cell BK275.out 2).trans rfl, (blk_cell BK275.out 3).trans rfl⟩ (fun hHeld => ?_); clear hK K; refine norm_ (a' := ?_) ?_ ?_; rotate_left
             ·
              show Act.put _ (some 31) _ = _
              simp only [Act.put, sIA, sC0, sCS, i64_w, i32_w]; rfl
             refine pure_ (i := 8) (N := some 32) (v := ?_) (a' := ?_) #[true, true, true, true, true, true, true, true, true, false, true, true, false, false, false, false, false] rfl rfl (any_of HT_.out (by kernel_rfl)) (fun _ _ _ h => h) (Or.inl ⟨by rfl, ?_⟩) ?_ ?_; rotate_left
             · intro w'; go_simp; with_reducible rfl
             rotate_left
             · simp only [Act.put, sIA, sC0, sCS, i64_w, i32_w]; rfl
             refine pure_ (i := 9) (N := some 33) (v := ?_) (a' := ?_) #[true, true, true, true, true, true, true, true, true, true, true, true, false, false, false, false, false] rfl rfl (any_of HT_.out (by kernel_rfl)) (fun _ _ _ h => h) (Or.inl ⟨by rfl, ?_⟩) ?_ ?_; rotate_left
             · intro w'; go_simp; with_reducible rfl
             rotate_left
             · simp only [Act.put, sIA, sC0, sCS, i64_w, i32_w]; rfl
             refine one_ (i := 12) (N := some 36) #[true, true, true, true, true, true, true, true, true, true, true, true, true, false, false, false, false] rfl rfl (one_of HT_.out (by kernel_rfl)) (by decide) (fun K hK => ?_); refine goes_ Tryd.func43 (by kernel_rfl) rfl #[.int .i64 ((rd_T27 l0 x6_1).f3)] (by rfl) rfl rfl (by (try simp only [List.map_toArray, List.map_cons, List.map_nil]); first | done | rfl | (simp only [List.length_drop, List.length_take]; rfl)) ?_; with_reducible refine (strconv_Itoa.calls ((rd_T27 l0 x6_1).f3) t277 _ ?side1 A12.out).mono ?_
             (case side1 => exact GI.below HG.out (by repeat (first | (with_reducible first | exact HB.out | apply below_alloc | apply pw_below_drewN | apply below_drew1 | refine below_set ?_ GE275.out) | exact HB.out)))
             rintro e w20 ⟨rfl, hb⟩; refine ⟨_, rfl, ?_⟩; have n0_ := Aside0.mk (blk_below (g := gb275) (o := .cells #[.string ((rd_T27 l0 x6_1).f0), .int .i64 ((rd_T27 l0 x6_1).f1), .slice A274_2 ((rd_T27 l0 x6_1).f2).length c274_2, .int .i64 ((rd_T27 l0 x6_1).f3)] 27 (0, 0)) (by (with_reducible repeat (first | refine blk_drewN ?_ _ | refine blk_drew ?_ | refine blk_alloc ?_ _)); exact BK275.out) hb); have n1_ := Aside0.mk (below_step (by repeat (first | (with_reducible first | exact HB.out | apply below_alloc | apply pw_below_drewN | apply below_drew1 | refine below_set ?_ GE275.out) | exact HB.out)) hb); clear BK275; clear HB; have BK275 := n0_; have HB := n1_; clear n0_ n1_; (try clear hb)
             (try clear hb2)
             (try clear hk)
             (try clear hi)
             refine hK.out _ _ ⟨(blk_cell BK275.out 0).trans rfl, (blk_cell BK275.out 1).trans rfl, (blk_cell BK275.out 2).trans rfl, (blk_cell BK275.out 3).trans rfl⟩ (fun hHeld => ?_); clear hK K; refine norm_ (a' := ?_) ?_ ?_; rotate_left
             ·
              show Act.put _ (some 36) _ = _
              simp only [Act.put, sIA, sC0, sCS, i64_w, i32_w]; rfl
             refine pure_ (i := 13) (N := some 37) (v := ?_) (a' := ?_) #[true, true, true, true, true, true, true, true, true, true, true, true, true, true, false, false, false] rfl rfl (any_of HT_.out (by kernel_rfl)) (fun _ _ _ h => h) (Or.inl ⟨by rfl, ?_⟩) ?_ ?_; rotate_left
             · intro w'; go_simp; with_reducible rfl
             rotate_left
             · simp only [Act.put, sIA, sC0, sCS, i64_w, i32_w]; rfl
             refine pure_ (i := 14) (N := some 38) (v := ?_) (a' := ?_) #[true, true, true, true, true, true, true, true, true, true, true, true, true, true, true, false, false] rfl rfl (any_of HT_.out (by kernel_rfl)) (fun _ _ _ h => h) (Or.inl ⟨by rfl, ?_⟩) ?_ ?_; rotate_left
             · intro w'; go_simp; with_reducible rfl
             rotate_left
             · simp only [Act.put, sIA, sC0, sCS, i64_w, i32_w]; rfl
             refine pure_ (i := 15) (N := some 39) (v := ?_) (a' := ?_) #[true, true, true, true, true, true, true, true, true, true, true, true, true, true, true, true, false] rfl rfl (any_of HT_.out (by kernel_rfl)) (fun _ _ _ h => h) (Or.inl ⟨by rfl, ?_⟩) ?_ ?_; rotate_left
             · intro w'; go_simp; with_reducible rfl
             rotate_left
             · simp only [Act.put, sIA, sC0, sCS, i64_w, i32_w]; rfl
             refine pure_ (i := 16) (N := some 5) (v := ?_) (a' := ?_) #[true, true, true, true, true, true, true, true, true, true, true, true, true, true, true, true, true] rfl rfl (any_of HT_.out (by kernel_rfl)) (fun _ _ _ h => h) (Or.inl ⟨by rfl, ?_⟩) ?_ ?_; rotate_left
             · intro w'; go_simp; with_reducible rfl
             rotate_left
             · simp only [Act.put, sIA, sC0, sCS, i64_w, i32_w]; rfl
             refine done_ (done_of HT_.out (by kernel_rfl)) ?_; try go_wp2
             go_loopg [5, 8] k1 (fun kq v5 v8 w' => ∃ (x5_2 : ByteArray) (x8_2 : Int), v5 = .string x5_2 ∧ v8 = .int .i64 x8_2 ∧ Aside0 (spileref09_Print.l1 kq l0 x5_2 x6_1 x8_2 ((rd_T27 l0 x6_1).f0) ((rd_T27 l0 x6_1).f1) ((rd_T27 l0 x6_1).f2) ((rd_T27 l0 x6_1).f3) = some (r1, r2)) ∧ Aside0 (kq ≤ k1) ∧ Aside0 (w'.heap[gb275]? = some (.cells #[.string ((rd_T27 l0 x6_1).f0), .int .i64 ((rd_T27 l0 x6_1).f1), (.slice A274_2 ((rd_T27 l0 x6_1).f2).length c274_2), .int .i64 ((rd_T27 l0 x6_1).f3)] 27 (0, 0))) ∧ Aside0 (Below w.heap.size w w'))
             case atStart => exact ⟨(x5_1 ++ (((((((⟨#[99, 97, 115, 107, 32]⟩ : ByteArray) ++ ((rd_T27 l0 x6_1).f0)) ++ (⟨#[32]⟩ : ByteArray)) ++ t276) ++ (⟨#[32, 100, 101, 99, 108, 97, 114, 101, 100, 32]⟩ : ByteArray)) ++ t277) ++ (⟨#[10]⟩ : ByteArray))), (0), (by first | rfl | (simp; done) | (simp [*]; done)), (by first | rfl | (simp; done) | (simp [*]; done)), H', ⟨Nat.le_refl _⟩, ⟨by (with_reducible repeat (first | refine blk_drewN ?_ _ | refine blk_drew ?_ | refine blk_alloc ?_ _)); exact BK275.out⟩, ⟨by repeat (first | (with_reducible first | exact HB.out | apply below_alloc | apply pw_below_drewN | apply below_drew1 | refine below_set ?_ GE275.out) | exact HB.out)⟩⟩
             case round =>
              clear H'; try clear c1
              try clear c2
              try clear p2
              try clear q2
              try clear hx2
              try clear c3
              try clear c3b0
              try clear c3b1
              try clear c4
              try clear c5
              try clear c5b0
              try clear c6
              try clear c6b0
              try clear c7
              try clear c7b0
              try clear c7b1
              try clear c7b2
              try clear c8
              try clear c8b0
              try clear c8b1
              try clear c8b2
              try clear c10
              try clear c10b0
              try clear c10b1
              try clear c10b2
              try clear c11
              try clear c11b0
              try clear c11b1
              try clear c11b2
              try clear c13
              try clear c13b0
              try clear c13b1
              try clear c13b2
              try clear c14
              try clear c14b0
              try clear c14b1
              try clear c14b2
              try clear c15
              try clear c15b0
              try clear c15b1
              try clear c15b2
              try clear c17
              try clear hcz17_0
              try clear hcz17_1
              try clear hcz17_2
              try clear hcz17_3
              try clear hfz17_0
              try clear hfz17_1
              try clear hfz17_2
              try clear hfz17_3
              try clear hx274_0
              try clear hx274_1
              try clear hx274_2
              try clear hx274_3
              try clear p2
              try clear p274
              try clear q274
              obtain ⟨x5_2, x8_2, rfl, rfl, HA, HK2, BK275, HB⟩ := hrel
              cases gk with
              | zero => exact absurd HA.out (by simp [spileref09_Print.l1])
              | succ k2 =>
               have H := HA.out; clear HA; simp only [spileref09_Print.l1] at H; by_cases c21 : x8_2 < (((rd_T27 l0 x6_1).f2).length : Int)
               ·
                rw [if_pos c21] at H; have c21b0 : decide (x8_2 < (((rd_T27 l0 x6_1).f2).length : Int)) = true := decide_eq_true c21; clear c21; by_cases c22 : 0 ≤ x8_2
                ·
                 rw [if_pos c22] at H; have c22b0 : decide (0 ≤ x8_2) = true := decide_eq_true c22; clear c22; replace H := Option.bind_eq_some_iff.mp H; obtain ⟨t279, A230, H⟩ := H; replace H : (if 3 + t279.size ≤ 9223372036854775807 then (if ((⟨#[97, 116, 32]⟩ : ByteArray) ++ t279).size + 8 ≤ 9223372036854775807 then ((strconv_Itoa.f ((rd_T46 ((rd_T27 l0 x6_1).f2) x8_2).f1)).bind fun t281 => (if (((⟨#[97, 116, 32]⟩ : ByteArray) ++ t279) ++ (⟨#[32, 114, 97, 100, 105, 117, 115, 32]⟩ : ByteArray)).size + t281.size ≤ 9223372036854775807 then (if ((((⟨#[97, 116, 32]⟩ : ByteArray) ++ t279) ++ (⟨#[32, 114, 97, 100, 105, 117, 115, 32]⟩ : ByteArray)) ++ t281).size + 1 ≤ 9223372036854775807 then (if x5_2.size + (((((⟨#[97, 116, 32]⟩ : ByteArray) ++ t279) ++ (⟨#[32, 114, 97, 100, 105, 117, 115, 32]⟩ : ByteArray)) ++ t281) ++ (⟨#[10]⟩ : ByteArray)).size ≤ 9223372036854775807 then (spileref09_Print.l1 k2 l0 (x5_2 ++ (((((⟨#[97, 116, 32]⟩ : ByteArray) ++ t279) ++ (⟨#[32, 114, 97, 100, 105, 117, 115, 32]⟩ : ByteArray)) ++ t281) ++ (⟨#[10]⟩ : ByteArray))) x6_1 (wrap64 (x8_2 + 1)) ((rd_T27 l0 x6_1).f0) ((rd_T27 l0 x6_1).f1) ((rd_T27 l0 x6_1).f2) ((rd_T27 l0 x6_1).f3)) else (none)) else (none)) else (none))) else (none)) else (none)) = some (r1, r2) := H; have A23 := Aside0.mk A230; clear A230; by_cases c24 : 3 + t279.size ≤ 9223372036854775807
                 ·
                  rw [if_pos c24] at H; have c24b0 := eq_true c24; have c24b1 : decide (3 + t279.size ≤ 9223372036854775807) = true := decide_eq_true c24; try have c24b2 : (9223372036854775807 < 3 + t279.size) = False := eq_false (Nat.not_lt.2 c24)
                  by_cases c25 : ((⟨#[97, 116, 32]⟩ : ByteArray) ++ t279).size + 8 ≤ 9223372036854775807
                  ·
                   rw [if_pos c25] at H; have c25b0 := eq_true c25; have c25b1 : decide (((⟨#[97, 116, 32]⟩ : ByteArray) ++ t279).size + 8 ≤ 9223372036854775807) = true := decide_eq_true c25; try have c25b2 : (9223372036854775807 < ((⟨#[97, 116, 32]⟩ : ByteArray) ++ t279).size + 8) = False := eq_false (Nat.not_lt.2 c25)
                   try have c25b3 : (9223372036854775807 < 3 + t279.size + 8) = False := eq_false (Nat.not_lt.2 (by have h_ := c25; simp only [ByteArray.size_append] at h_; exact h_))
                   replace H := Option.bind_eq_some_iff.mp H; obtain ⟨t281, A260, H⟩ := H; replace H : (if (((⟨#[97, 116, 32]⟩ : ByteArray) ++ t279) ++ (⟨#[32, 114, 97, 100, 105, 117, 115, 32]⟩ : ByteArray)).size + t281.size ≤ 9223372036854775807 then (if ((((⟨#[97, 116, 32]⟩ : ByteArray) ++ t279) ++ (⟨#[32, 114, 97, 100, 105, 117, 115, 32]⟩ : ByteArray)) ++ t281).size + 1 ≤ 9223372036854775807 then (if x5_2.size + (((((⟨#[97, 116, 32]⟩ : ByteArray) ++ t279) ++ (⟨#[32, 114, 97, 100, 105, 117, 115, 32]⟩ : ByteArray)) ++ t281) ++ (⟨#[10]⟩ : ByteArray)).size ≤ 9223372036854775807 then (spileref09_Print.l1 k2 l0 (x5_2 ++ (((((⟨#[97, 116, 32]⟩ : ByteArray) ++ t279) ++ (⟨#[32, 114, 97, 100, 105, 117, 115, 32]⟩ : ByteArray)) ++ t281) ++ (⟨#[10]⟩ : ByteArray))) x6_1 (wrap64 (x8_2 + 1)) ((rd_T27 l0 x6_1).f0) ((rd_T27 l0 x6_1).f1) ((rd_T27 l0 x6_1).f2) ((rd_T27 l0 x6_1).f3)) else (none)) else (none)) else (none)) = some (r1, r2) := H; have A26 := Aside0.mk A260; clear A260; by_cases c27 : (((⟨#[97, 116, 32]⟩ : ByteArray) ++ t279) ++ (⟨#[32, 114, 97, 100, 105, 117, 115, 32]⟩ : ByteArray)).size + t281.size ≤ 9223372036854775807
                   ·
                    rw [if_pos c27] at H; have c27b0 := eq_true c27; have c27b1 : decide ((((⟨#[97, 116, 32]⟩ : ByteArray) ++ t279) ++ (⟨#[32, 114, 97, 100, 105, 117, 115, 32]⟩ : ByteArray)).size + t281.size ≤ 9223372036854775807) = true := decide_eq_true c27; try have c27b2 : (9223372036854775807 < (((⟨#[97, 116, 32]⟩ : ByteArray) ++ t279) ++ (⟨#[32, 114, 97, 100, 105, 117, 115, 32]⟩ : ByteArray)).size + t281.size) = False := eq_false (Nat.not_lt.2 c27)
                    try have c27b3 : (9223372036854775807 < 3 + t279.size + 8 + t281.size) = False := eq_false (Nat.not_lt.2 (by have h_ := c27; simp only [ByteArray.size_append] at h_; exact h_))
                    by_cases c28 : ((((⟨#[97, 116, 32]⟩ : ByteArray) ++ t279) ++ (⟨#[32, 114, 97, 100, 105, 117, 115, 32]⟩ : ByteArray)) ++ t281).size + 1 ≤ 9223372036854775807
                    ·
                     rw [if_pos c28] at H; have c28b0 := eq_true c28; have c28b1 : decide (((((⟨#[97, 116, 32]⟩ : ByteArray) ++ t279) ++ (⟨#[32, 114, 97, 100, 105, 117, 115, 32]⟩ : ByteArray)) ++ t281).size + 1 ≤ 9223372036854775807) = true := decide_eq_true c28; try have c28b2 : (9223372036854775807 < ((((⟨#[97, 116, 32]⟩ : ByteArray) ++ t279) ++ (⟨#[32, 114, 97, 100, 105, 117, 115, 32]⟩ : ByteArray)) ++ t281).size + 1) = False := eq_false (Nat.not_lt.2 c28)
                     try have c28b3 : (9223372036854775807 < 3 + t279.size + 8 + t281.size + 1) = False := eq_false (Nat.not_lt.2 (by have h_ := c28; simp only [ByteArray.size_append] at h_; exact h_))
                     by_cases c29 : x5_2.size + (((((⟨#[97, 116, 32]⟩ : ByteArray) ++ t279) ++ (⟨#[32, 114, 97, 100, 105, 117, 115, 32]⟩ : ByteArray)) ++ t281) ++ (⟨#[10]⟩ : ByteArray)).size ≤ 9223372036854775807
                     ·
                      rw [if_pos c29] at H; have c29b0 := eq_true c29; have c29b1 : decide (x5_2.size + (((((⟨#[97, 116, 32]⟩ : ByteArray) ++ t279) ++ (⟨#[32, 114, 97, 100, 105, 117, 115, 32]⟩ : ByteArray)) ++ t281) ++ (⟨#[10]⟩ : ByteArray)).size ≤ 9223372036854775807) = true := decide_eq_true c29; try have c29b2 : (9223372036854775807 < x5_2.size + (((((⟨#[97, 116, 32]⟩ : ByteArray) ++ t279) ++ (⟨#[32, 114, 97, 100, 105, 117, 115, 32]⟩ : ByteArray)) ++ t281) ++ (⟨#[10]⟩ : ByteArray)).size) = False := eq_false (Nat.not_lt.2 c29)
                      try have c29b3 : (9223372036854775807 < x5_2.size + (3 + t279.size + 8 + t281.size + 1)) = False := eq_false (Nat.not_lt.2 (by have h_ := c29; simp only [ByteArray.size_append] at h_; exact h_))
                      have H' := Aside0.mk H; clear H; have hcz30_0 : wr.cell? ⟨gb275, 0, none⟩ = some (.string ((rd_T27 l0 x6_1).f0)) := (blk_cell BK275.out 0).trans rfl; have hcz30_1 : wr.cell? ⟨gb275, 1, none⟩ = some (.int .i64 ((rd_T27 l0 x6_1).f1)) := (blk_cell BK275.out 1).trans rfl; have hcz30_2 : wr.cell? ⟨gb275, 2, none⟩ = some (.slice A274_2 ((rd_T27 l0 x6_1).f2).length c274_2) := (blk_cell BK275.out 2).trans rfl; have hcz30_3 : wr.cell? ⟨gb275, 3, none⟩ = some (.int .i64 ((rd_T27 l0 x6_1).f3)) := (blk_cell BK275.out 3).trans rfl; have hfz30_0 := blk_frozen BK275.out 0; have hfz30_1 := blk_frozen BK275.out 1; have hfz30_2 := blk_frozen BK275.out 2; have hfz30_3 := blk_frozen BK275.out 3; try go_wp2
                      have n0_ := Aside0.mk (blk_drew BK275.out); have n1_ := Aside0.mk (below_drew1 HB.out); clear BK275; clear HB; have BK275 := n0_; have HB := n1_; clear n0_ n1_; have p278 : 0 ≤ (x8_2 : Int) := of_decide_eq_true (by first | (with_reducible assumption) | assumption); have q278 : x8_2 < (((rd_T27 l0 x6_1).f2).length : Int) := of_decide_eq_true (by first | (with_reducible assumption) | assumption); obtain ⟨ad278, e278, hx278_0, hx278_1⟩ := at_T46 HR274_2.out x8_2 p278 q278; have hw278_1 := hx278_1; have hw278_0 := hx278_0; cases e278; replace hx278_0 := (HB.out.cell (World.block_lt_of_cell? w _ hx278_0)).trans hx278_0; replace hx278_1 := (HB.out.cell (World.block_lt_of_cell? w _ hx278_1)).trans hx278_1; replace p278 := eq_true p278; replace q278 := eq_true q278; have p280 : 0 ≤ (x8_2 : Int) := of_decide_eq_true (by first | (with_reducible assumption) | assumption); have q280 : x8_2 < (((rd_T27 l0 x6_1).f2).length : Int) := of_decide_eq_true (by first | (with_reducible assumption) | assumption); obtain ⟨ad280, e280, hx280_0, hx280_1⟩ := at_T46 HR274_2.out x8_2 p280 q280; have hw280_1 := hx280_1; have hw280_0 := hx280_0; obtain rfl : ad278 = ad280 := (by injection e280); replace hx280_0 := (HB.out.cell (World.block_lt_of_cell? w _ hx280_0)).trans hx280_0; replace hx280_1 := (HB.out.cell (World.block_lt_of_cell? w _ hx280_1)).trans hx280_1; replace p280 := eq_true p280; replace q280 := eq_true q280; refine start_ (n := 21) (S := fun w' => w'.cell? ⟨gb275, 0, none⟩ = some (.string ((rd_T27 l0 x6_1).f0)) ∧ w'.cell? ⟨gb275, 1, none⟩ = some (.int .i64 ((rd_T27 l0 x6_1).f1)) ∧ w'.cell? ⟨gb275, 2, none⟩ = some (.slice (some ad278) ((rd_T27 l0 x6_1).f2).length c274_2) ∧ w'.cell? ⟨gb275, 3, none⟩ = some (.int .i64 ((rd_T27 l0 x6_1).f3)) ∧ w'.cell? (ad278.add ((x8_2).toNat * 2)) = some (.int .i64 ((rd_T46 ((rd_T27 l0 x6_1).f2) x8_2).f0)) ∧ w'.cell? ⟨(ad278.add ((x8_2).toNat * 2)).block, (ad278.add ((x8_2).toNat * 2)).off + 1, none⟩ = some (.int .i64 ((rd_T46 ((rd_T27 l0 x6_1).f2) x8_2).f1)) ∧ w'.cell? (ad278.add ((x8_2).toNat * 2)) = some (.int .i64 ((rd_T46 ((rd_T27 l0 x6_1).f2) x8_2).f0)) ∧ w'.cell? ⟨(ad278.add ((x8_2).toNat * 2)).block, (ad278.add ((x8_2).toNat * 2)).off + 1, none⟩ = some (.int .i64 ((rd_T46 ((rd_T27 l0 x6_1).f2) x8_2).f1))) (ds := []) #[false, false, false, false, false, false, false, false, false, false, false, false, false, false, false, false, false, false, false, false, false] (by kernel_rfl) rfl rfl ⟨(blk_cell BK275.out 0).trans rfl, (blk_cell BK275.out 1).trans rfl, (blk_cell BK275.out 2).trans rfl, (blk_cell BK275.out 3).trans rfl, ((HB.out.cell (World.block_lt_of_cell? w _ hw278_0)).trans hw278_0), ((HB.out.cell (World.block_lt_of_cell? w _ hw278_1)).trans hw278_1), ((HB.out.cell (World.block_lt_of_cell? w _ hw280_0)).trans hw280_0), ((HB.out.cell (World.block_lt_of_cell? w _ hw280_1)).trans hw280_1)⟩ (fun hHeld => ?_); refine with_tabW spileref09_Print.tab13 spileref09_Print.bits13 (fun HT_ HW_ => ?_)
                      generalize wr.drew = w31 at BK275 HB hx278_0 hx278_1 hx280_0 hx280_1 hHeld ⊢; refine pure_ (i := 0) (N := some 47) (v := ?_) (a' := ?_) #[true, false, false, false, false, false, false, false, false, false, false, false, false, false, false, false, false, false, false, false, false] rfl rfl (any_of HT_.out (by kernel_rfl)) (fun _ _ _ h => h) (Or.inl ⟨by rfl, ?_⟩) ?_ ?_; rotate_left
                      · intro w'; go_simp; with_reducible rfl
                      rotate_left
                      · simp only [Act.put, sIA, sC0, sCS, i64_w, i32_w]; rfl
                      refine pure_ (i := 1) (N := some 48) (v := ?_) (a' := ?_) #[true, true, false, false, false, false, false, false, false, false, false, false, false, false, false, false, false, false, false, false, false] rfl rfl (any_of HT_.out (by kernel_rfl)) (fun _ _ _ h => h) (Or.inl ⟨by rfl, ?_⟩) ?_ ?_; rotate_left
                      · intro w'; go_simp; with_reducible rfl
                      rotate_left
                      · simp only [Act.put, sIA, sC0, sCS, i64_w, i32_w]; rfl
                      refine pure_ (i := 3) (N := some 50) (v := ?_) (a' := ?_) #[true, true, false, true, false, false, false, false, false, false, false, false, false, false, false, false, false, false, false, false, false] rfl rfl (any_of HT_.out (by kernel_rfl)) (fun _ _ _ h => h) (Or.inl ⟨by rfl, ?_⟩) ?_ ?_; rotate_left
                      · intro w'; go_simp; with_reducible rfl
                      rotate_left
                      · simp only [Act.put, sIA, sC0, sCS, i64_w, i32_w]; rfl
                      refine pure_ (i := 10) (N := some 57) (v := ?_) (a' := ?_) #[true, true, false, true, false, false, false, false, false, false, true, false, false, false, false, false, false, false, false, false, false] rfl rfl (any_of HT_.out (by kernel_rfl)) (fun _ _ _ h => h) (Or.inl ⟨by rfl, ?_⟩) ?_ ?_; rotate_left
                      · intro w'; go_simp; with_reducible rfl
                      rotate_left
                      · simp only [Act.put, sIA, sC0, sCS, i64_w, i32_w]; rfl
                      refine pure_ (i := 12) (N := some 59) (v := ?_) (a' := ?_) #[true, true, false, true, false, false, false, false, false, false, true, false, true, false, false, false, false, false, false, false, false] rfl rfl (any_of HT_.out (by kernel_rfl)) (fun _ _ _ h => h) (Or.inl ⟨by rfl, ?_⟩) ?_ ?_; rotate_left
                      · intro w'; go_simp; with_reducible rfl
                      rotate_left
                      · simp only [Act.put, sIA, sC0, sCS, i64_w, i32_w]; rfl
                      refine take_ (i := 2) (N := some 49) (v := ?_) (a' := ?_) #[true, true, true, true, false, false, false, false, false, false, true, false, true, false, false, false, false, false, false, false, false] rfl rfl (take_ofW HT_.out HW_.out (by kernel_rfl)) (fun _ _ _ h => h) (Or.inl ⟨by rfl, ?_⟩) hHeld ?_ ?_; rotate_left
                      · rintro w' ⟨s0, s1, s2, s3, s4, s5, s6, s7⟩; go_simp; with_reducible rfl
                      rotate_left
                      · simp only [Act.put, sIA, sC0, sCS, i64_w, i32_w]; rfl
                      refine pure_ (i := 4) (N := some 51) (v := ?_) (a' := ?_) #[true, true, true, true, true, false, false, false, false, false, true, false, true, false, false, false, false, false, false, false, false] rfl rfl (any_of HT_.out (by kernel_rfl)) (fun _ _ _ h => h) (Or.inl ⟨by rfl, ?_⟩) ?_ ?_; rotate_left
                      · intro w'; go_simp; with_reducible rfl
                      rotate_left
                      · simp only [Act.put, sIA, sC0, sCS, i64_w, i32_w]; rfl
                      refine pure_ (i := 5) (N := some 52) (v := ?_) (a' := ?_) #[true, true, true, true, true, true, false, false, false, false, true, false, true, false, false, false, false, false, false, false, false] rfl rfl (any_of HT_.out (by kernel_rfl)) (fun _ _ _ h => h) (Or.inl ⟨by rfl, ?_⟩) ?_ ?_; rotate_left
                      · intro w'; go_simp; with_reducible rfl
                      rotate_left
                      · simp only [Act.put, sIA, sC0, sCS, i64_w, i32_w]; rfl
                      refine take_ (i := 6) (N := some 53) (v := ?_) (a' := ?_) #[true, true, true, true, true, true, true, false, false, false, true, false, true, false, false, false, false, false, false, false, false] rfl rfl (take_ofW HT_.out HW_.out (by kernel_rfl)) (fun _ _ _ h => h) (Or.inl ⟨by rfl, ?_⟩) hHeld ?_ ?_; rotate_left
                      · rintro w' ⟨s0, s1, s2, s3, s4, s5, s6, s7⟩; go_simp; with_reducible rfl
                      rotate_left
                      · simp only [Act.put, sIA, sC0, sCS, i64_w, i32_w]; rfl
                      refine take_ (i := 11) (N := some 58) (v := ?_) (a' := ?_) #[true, true, true, true, true, true, true, false, false, false, true, true, true, false, false, false, false, false, false, false, false] rfl rfl (take_ofW HT_.out HW_.out (by kernel_rfl)) (fun _ _ _ h => h) (Or.inl ⟨by rfl, ?_⟩) hHeld ?_ ?_; rotate_left
                      · rintro w' ⟨s0, s1, s2, s3, s4, s5, s6, s7⟩; go_simp; with_reducible rfl
                      rotate_left
                      · simp only [Act.put, sIA, sC0, sCS, i64_w, i32_w]; rfl
                      refine pure_ (i := 13) (N := some 60) (v := ?_) (a' := ?_) #[true, true, true, true, true, true, true, false, false, false, true, true, true, true, false, false, false, false, false, false, false] rfl rfl (any_of HT_.out (by kernel_rfl)) (fun _ _ _ h => h) (Or.inl ⟨by rfl, ?_⟩) ?_ ?_; rotate_left
                      · intro w'; go_simp; with_reducible rfl
                      rotate_left
                      · simp only [Act.put, sIA, sC0, sCS, i64_w, i32_w]; rfl
                      refine pure_ (i := 14) (N := some 61) (v := ?_) (a' := ?_) #[true, true, true, true, true, true, true, false, false, false, true, true, true, true, true, false, false, false, false, false, false] rfl rfl (any_of HT_.out (by kernel_rfl)) (fun _ _ _ h => h) (Or.inl ⟨by rfl, ?_⟩) ?_ ?_; rotate_left
                      · intro w'; go_simp; with_reducible rfl
                      rotate_left
                      · simp only [Act.put, sIA, sC0, sCS, i64_w, i32_w]; rfl
                      refine take_ (i := 15) (N := some 62) (v := ?_) (a' := ?_) #[true, true, true, true, true, true, true, false, false, false, true, true, true, true, true, true, false, false, false, false, false] rfl rfl (take_ofW HT_.out HW_.out (by kernel_rfl)) (fun _ _ _ h => h) (Or.inl ⟨by rfl, ?_⟩) hHeld ?_ ?_; rotate_left
                      · rintro w' ⟨s0, s1, s2, s3, s4, s5, s6, s7⟩; go_simp; with_reducible rfl
                      rotate_left
                      · simp only [Act.put, sIA, sC0, sCS, i64_w, i32_w]; rfl
                      refine one_ (i := 7) (N := some 54) #[true, true, true, true, true, true, true, true, false, false, true, true, true, true, true, true, false, false, false, false, false] rfl rfl (one_of HT_.out (by kernel_rfl)) (by decide) (fun K hK => ?_); refine goes_ Tryd.func43 (by kernel_rfl) rfl #[.int .i64 ((rd_T46 ((rd_T27 l0 x6_1).f2) x8_2).f0)] (by rfl) rfl rfl (by (try simp only [List.map_toArray, List.map_cons, List.map_nil]); first | done | rfl | (simp only [List.length_drop, List.length_take]; rfl)) ?_; with_reducible refine (strconv_Itoa.calls ((rd_T46 ((rd_T27 l0 x6_1).f2) x8_2).f0) t279 _ ?side1 A23.out).mono ?_
                      (case side1 => exact GI.below HG.out (by repeat (first | (with_reducible first | exact HB.out | apply below_alloc | apply pw_below_drewN | apply below_drew1 | refine below_set ?_ GE275.out) | exact HB.out)))
                      rintro e w32 ⟨rfl, hb⟩; refine ⟨_, rfl, ?_⟩; have n0_ := Aside0.mk (blk_below (g := gb275) (o := .cells #[.string ((rd_T27 l0 x6_1).f0), .int .i64 ((rd_T27 l0 x6_1).f1), .slice (some ad278) ((rd_T27 l0 x6_1).f2).length c274_2, .int .i64 ((rd_T27 l0 x6_1).f3)] 27 (0, 0)) (by (with_reducible repeat (first | refine blk_drewN ?_ _ | refine blk_drew ?_ | refine blk_alloc ?_ _)); exact BK275.out) hb); have n1_ := Aside0.mk (below_step (by repeat (first | (with_reducible first | exact HB.out | apply below_alloc | apply pw_below_drewN | apply below_drew1 | refine below_set ?_ GE275.out) | exact HB.out)) hb); clear BK275; clear HB; have BK275 := n0_; have HB := n1_; clear n0_ n1_; (try clear hb)
                      (try clear hb2)
                      (try clear hk)
                      (try clear hi)
                      refine hK.out _ _ ⟨(blk_cell BK275.out 0).trans rfl, (blk_cell BK275.out 1).trans rfl, (blk_cell BK275.out 2).trans rfl, (blk_cell BK275.out 3).trans rfl, ((HB.out.cell (World.block_lt_of_cell? w _ hw278_0)).trans hw278_0), ((HB.out.cell (World.block_lt_of_cell? w _ hw278_1)).trans hw278_1), ((HB.out.cell (World.block_lt_of_cell? w _ hw280_0)).trans hw280_0), ((HB.out.cell (World.block_lt_of_cell? w _ hw280_1)).trans hw280_1)⟩ (fun hHeld => ?_); clear hK K; refine norm_ (a' := ?_) ?_ ?_; rotate_left
                      ·
                       show Act.put _ (some 54) _ = _
                       simp only [Act.put, sIA, sC0, sCS, i64_w, i32_w]; rfl
                      refine pure_ (i := 8) (N := some 55) (v := ?_) (a' := ?_) #[true, true, true, true, true, true, true, true, true, false, true, true, true, true, true, true, false, false, false, false, false] rfl rfl (any_of HT_.out (by kernel_rfl)) (fun _ _ _ h => h) (Or.inl ⟨by rfl, ?_⟩) ?_ ?_; rotate_left
                      · intro w'; go_simp; with_reducible rfl
                      rotate_left
                      · simp only [Act.put, sIA, sC0, sCS, i64_w, i32_w]; rfl
                      refine pure_ (i := 9) (N := some 56) (v := ?_) (a' := ?_) #[true, true, true, true, true, true, true, true, true, true, true, true, true, true, true, true, false, false, false, false, false] rfl rfl (any_of HT_.out (by kernel_rfl)) (fun _ _ _ h => h) (Or.inl ⟨by rfl, ?_⟩) ?_ ?_; rotate_left
                      · intro w'; go_simp; with_reducible rfl
                      rotate_left
                      · simp only [Act.put, sIA, sC0, sCS, i64_w, i32_w]; rfl
                      refine one_ (i := 16) (N := some 63) #[true, true, true, true, true, true, true, true, true, true, true, true, true, true, true, true, true, false, false, false, false] rfl rfl (one_of HT_.out (by kernel_rfl)) (by decide) (fun K hK => ?_); refine goes_ Tryd.func43 (by kernel_rfl) rfl #[.int .i64 ((rd_T46 ((rd_T27 l0 x6_1).f2) x8_2).f1)] (by rfl) rfl rfl (by (try simp only [List.map_toArray, List.map_cons, List.map_nil]); first | done | rfl | (simp only [List.length_drop, List.length_take]; rfl)) ?_; with_reducible refine (strconv_Itoa.calls ((rd_T46 ((rd_T27 l0 x6_1).f2) x8_2).f1) t281 _ ?side1 A26.out).mono ?_
                      (case side1 => exact GI.below HG.out (by repeat (first | (with_reducible first | exact HB.out | apply below_alloc | apply pw_below_drewN | apply below_drew1 | refine below_set ?_ GE275.out) | exact HB.out)))
                      rintro e w33 ⟨rfl, hb⟩; refine ⟨_, rfl, ?_⟩; have n0_ := Aside0.mk (blk_below (g := gb275) (o := .cells #[.string ((rd_T27 l0 x6_1).f0), .int .i64 ((rd_T27 l0 x6_1).f1), .slice (some ad278) ((rd_T27 l0 x6_1).f2).length c274_2, .int .i64 ((rd_T27 l0 x6_1).f3)] 27 (0, 0)) (by (with_reducible repeat (first | refine blk_drewN ?_ _ | refine blk_drew ?_ | refine blk_alloc ?_ _)); exact BK275.out) hb); have n1_ := Aside0.mk (below_step (by repeat (first | (with_reducible first | exact HB.out | apply below_alloc | apply pw_below_drewN | apply below_drew1 | refine below_set ?_ GE275.out) | exact HB.out)) hb); clear BK275; clear HB; have BK275 := n0_; have HB := n1_; clear n0_ n1_; (try clear hb)
                      (try clear hb2)
                      (try clear hk)
                      (try clear hi)
                      refine hK.out _ _ ⟨(blk_cell BK275.out 0).trans rfl, (blk_cell BK275.out 1).trans rfl, (blk_cell BK275.out 2).trans rfl, (blk_cell BK275.out 3).trans rfl, ((HB.out.cell (World.block_lt_of_cell? w _ hw278_0)).trans hw278_0), ((HB.out.cell (World.block_lt_of_cell? w _ hw278_1)).trans hw278_1), ((HB.out.cell (World.block_lt_of_cell? w _ hw280_0)).trans hw280_0), ((HB.out.cell (World.block_lt_of_cell? w _ hw280_1)).trans hw280_1)⟩ (fun hHeld => ?_); clear hK K; refine norm_ (a' := ?_) ?_ ?_; rotate_left
                      ·
                       show Act.put _ (some 63) _ = _
                       simp only [Act.put, sIA, sC0, sCS, i64_w, i32_w]; rfl
                      refine pure_ (i := 17) (N := some 64) (v := ?_) (a' := ?_) #[true, true, true, true, true, true, true, true, true, true, true, true, true, true, true, true, true, true, false, false, false] rfl rfl (any_of HT_.out (by kernel_rfl)) (fun _ _ _ h => h) (Or.inl ⟨by rfl, ?_⟩) ?_ ?_; rotate_left
                      · intro w'; go_simp; with_reducible rfl
                      rotate_left
                      · simp only [Act.put, sIA, sC0, sCS, i64_w, i32_w]; rfl
                      refine pure_ (i := 18) (N := some 65) (v := ?_) (a' := ?_) #[true, true, true, true, true, true, true, true, true, true, true, true, true, true, true, true, true, true, true, false, false] rfl rfl (any_of HT_.out (by kernel_rfl)) (fun _ _ _ h => h) (Or.inl ⟨by rfl, ?_⟩) ?_ ?_; rotate_left
                      · intro w'; go_simp; with_reducible rfl
                      rotate_left
                      · simp only [Act.put, sIA, sC0, sCS, i64_w, i32_w]; rfl
                      refine pure_ (i := 19) (N := some 66) (v := ?_) (a' := ?_) #[true, true, true, true, true, true, true, true, true, true, true, true, true, true, true, true, true, true, true, true, false] rfl rfl (any_of HT_.out (by kernel_rfl)) (fun _ _ _ h => h) (Or.inl ⟨by rfl, ?_⟩) ?_ ?_; rotate_left
                      · intro w'; go_simp; with_reducible rfl
                      rotate_left
                      · simp only [Act.put, sIA, sC0, sCS, i64_w, i32_w]; rfl
                      refine pure_ (i := 20) (N := some 5) (v := ?_) (a' := ?_) #[true, true, true, true, true, true, true, true, true, true, true, true, true, true, true, true, true, true, true, true, true] rfl rfl (any_of HT_.out (by kernel_rfl)) (fun _ _ _ h => h) (Or.inl ⟨by rfl, ?_⟩) ?_ ?_; rotate_left
                      · intro w'; go_simp; with_reducible rfl
                      rotate_left
                      · simp only [Act.put, sIA, sC0, sCS, i64_w, i32_w]; rfl
                      refine done_ (done_of HT_.out (by kernel_rfl)) ?_; try go_wp2
                      go_roundg k2
                      case measure => have := HK1.out; have := HK2.out; omega
                      case rel => exact ⟨(x5_2 ++ (((((⟨#[97, 116, 32]⟩ : ByteArray) ++ t279) ++ (⟨#[32, 114, 97, 100, 105, 117, 115, 32]⟩ : ByteArray)) ++ t281) ++ (⟨#[10]⟩ : ByteArray))), (wrap64 (x8_2 + 1)), (by first | rfl | (simp; done) | (simp [*]; done)), (by first | rfl | (simp; done) | (simp [*]; done)), H', ⟨by have := HK1.out; have := HK2.out; omega⟩, ⟨by (with_reducible repeat (first | refine blk_drewN ?_ _ | refine blk_drew ?_ | refine blk_alloc ?_ _)); exact BK275.out⟩, ⟨by repeat (first | (with_reducible first | exact HB.out | apply below_alloc | apply pw_below_drewN | apply below_drew1 | refine below_set ?_ GE275.out) | exact HB.out)⟩⟩
                     · rw [if_neg c29] at H; exact absurd H (by simp)
                    · rw [if_neg c28] at H; exact absurd H (by simp)
                   · rw [if_neg c27] at H; exact absurd H (by simp)
                  · rw [if_neg c25] at H; exact absurd H (by simp)
                 · rw [if_neg c24] at H; exact absurd H (by simp)
                · rw [if_neg c22] at H; exact absurd H (by simp)
               ·
                rw [if_neg c21] at H; have c21b0 : decide (x8_2 < (((rd_T27 l0 x6_1).f2).length : Int)) = false := decide_eq_false c21; clear c21; by_cases c34 : x5_2.size + 4 ≤ 9223372036854775807
                ·
                 rw [if_pos c34] at H; have c34b0 := eq_true c34; have c34b1 : decide (x5_2.size + 4 ≤ 9223372036854775807) = true := decide_eq_true c34; try have c34b2 : (9223372036854775807 < x5_2.size + 4) = False := eq_false (Nat.not_lt.2 c34)
                 have H' := Aside0.mk H; clear H; have hcz35_0 : wr.cell? ⟨gb275, 0, none⟩ = some (.string ((rd_T27 l0 x6_1).f0)) := (blk_cell BK275.out 0).trans rfl; have hcz35_1 : wr.cell? ⟨gb275, 1, none⟩ = some (.int .i64 ((rd_T27 l0 x6_1).f1)) := (blk_cell BK275.out 1).trans rfl; have hcz35_2 : wr.cell? ⟨gb275, 2, none⟩ = some (.slice A274_2 ((rd_T27 l0 x6_1).f2).length c274_2) := (blk_cell BK275.out 2).trans rfl; have hcz35_3 : wr.cell? ⟨gb275, 3, none⟩ = some (.int .i64 ((rd_T27 l0 x6_1).f3)) := (blk_cell BK275.out 3).trans rfl; have hfz35_0 := blk_frozen BK275.out 0; have hfz35_1 := blk_frozen BK275.out 1; have hfz35_2 := blk_frozen BK275.out 2; have hfz35_3 := blk_frozen BK275.out 3; go_wp2; go_roundg k2
                 case measure => have := HK1.out; have := HK2.out; omega
                 case rel => exact ⟨(x5_2 ++ (⟨#[101, 110, 100, 10]⟩ : ByteArray)), (wrap64 (x6_1 + 1)), (by first | rfl | (simp; done) | (simp [*]; done)), (by first | rfl | (simp; done) | (simp [*]; done)), H', ⟨by have := HK1.out; have := HK2.out; omega⟩, ⟨by repeat (first | (with_reducible first | exact HB.out | apply below_alloc | apply pw_below_drewN | apply below_drew1 | refine below_set ?_ GE275.out) | exact HB.out)⟩⟩
                · rw [if_neg c34] at H; exact absurd H (by simp)
            · rw [if_neg c15] at H; exact absurd H (by simp)
           · rw [if_neg c14] at H; exact absurd H (by simp)
          · rw [if_neg c13] at H; exact absurd H (by simp)
         · rw [if_neg c11] at H; exact absurd H (by simp)
        · rw [if_neg c10] at H; exact absurd H (by simp)
       · rw [if_neg c8] at H; exact absurd H (by simp)
      · rw [if_neg c7] at H; exact absurd H (by simp)
     · rw [if_neg c6] at H; exact absurd H (by simp)
    ·
     rw [if_neg c5] at H; have c5b0 : decide (x6_1 < (l0.length : Int)) = false := decide_eq_false c5; clear c5; simp only [Option.some.injEq, Prod.mk.injEq] at H; obtain ⟨rfl, rfl⟩ := H; go_wp2; go_ret2
     exact ⟨by first | rfl | (simp [errW_none, errW_some] <;> rfl) | (simp [*, errW_none, errW_some] <;> rfl), by repeat (first | (with_reducible first | exact HB.out | apply below_alloc | apply pw_below_drewN | apply below_drew1) | exact HB.out)⟩
 ·
  rw [if_neg c3] at H; have c3b0 : (t273 == 0) = false := beq_eq_false_iff_ne.mpr c3; have c3b1 : (t273 != 0) = true := bne_iff_ne.mpr c3; simp only [Option.some.injEq, Prod.mk.injEq] at H; obtain ⟨rfl, rfl⟩ := H; go_enter Tryd.func23, Tryd.ntmps23
  go_wp2_with (first | ((with_reducible refine gate_callee (f := 17) rfl ?_); refine goesL_ (some 10) rfl rfl Tryd.func17 (by kernel_rfl) rfl #[.slice A0 l0.length c0] rfl (by (try simp only [List.map_toArray, List.map_cons, List.map_nil]); first | done | rfl | (simp only [List.length_drop, List.length_take]; rfl)) ?_; (with_reducible refine (spileref09_List.calls k _ _ l0 t273 _ ?side1 ?side2 A2.out).mono ?_); (case side1 => repeat (first | exact HR0.out | (with_reducible refine Kd.C_alloc ?_ _) | (with_reducible refine Kd.C_drewN ?_ _) | (with_reducible refine Kd.C_drew ?_))); (case side2 => exact HC0.out); rintro e w36 ⟨rfl, hb⟩; refine ⟨_, rfl, ?_⟩; have n0_ := Aside0.mk (below_step (by repeat (first | (with_reducible first | exact HB.out | apply below_alloc | apply pw_below_drewN | apply below_drew1) | exact HB.out)) hb); clear HB; have HB := n0_; clear n0_; (try clear hb); (try clear hb2); (try clear hk); (try clear hi)))
  go_ret2
  exact ⟨by first | rfl | (simp [errW_none, errW_some] <;> rfl) | (simp [*, errW_none, errW_some] <;> rfl), by repeat (first | (with_reducible first | exact HB.out | apply below_alloc | apply pw_below_drewN | apply below_drew1) | exact HB.out)⟩
end Go.Proofs.YtnhmlneebnkjcaaDoor.Pr
namespace Go.Proofs.YtnhmlneebnkjcaaDoor.Pr
open Go.RowKit Go.Proofs.YtnhmlneebnkjcaaDoorW.PrintWords Go.Proofs.YtnhmlneebnkjcaaDoorW.PrintLast Go.Proofs.YtnhmlneebnkjcaaDoorW.PrintMore Go.Proofs.YtnhmlneebnkjcaaDoor.X
attribute [local go_sem] max2_int min2_int max_two min_two max_three min_three max_four min_four   -- for this text's walks alone
set_option linter.unusedVariables false
set_option linter.unusedSimpArgs false
def spilelaw09_CaskPrints.f (k : Nat) (l0 : List (S27)) : Option (Bool) := (spilelaw09_awake.f).bind fun t282 => (if t282 = true then ((spileref09_Few.f k l0).bind fun t283 => (if t283 = true then ((spileref09_Copy.f k l0).bind fun t284 => ((cask_Print.f k t284).bind fun bt287 => ((spileref09_Print.f k l0).bind fun bt289 => (if bt287.1.toList = bt289.1.toList then (some (bt287.2 == bt289.2)) else (none))))) else (some true))) else (none))
set_option maxHeartbeats 8000000 in
set_option maxRecDepth 100000 in
theorem spilelaw09_CaskPrints.calls (k : Nat) (A0 : Option Addr) (c0 : Nat) (l0 : List (S27)) (r : Bool) (w : World) (hr0 : Kd.C k27 w A0 l0.length l0) (hc0 : l0.length ≤ c0) (hG : GI w) (hr_ : r = true) (h : spilelaw09_CaskPrints.f k l0 = some r) :
  Calls Tryd.prog 4 #[.slice A0 l0.length c0] w fun e w' => e = .returned (.bool r) ∧ Below w.heap.size w w' := by
 have HR0 := Aside0.mk hr0; have HC0 := Aside0.mk hc0; clear hr0 hc0; have HG := Aside0.mk hG; clear hG; have HB := Aside0.mk (Below.refl w.heap.size w); have H : ((spilelaw09_awake.f).bind fun t282 => (if t282 = true then ((spileref09_Few.f k l0).bind fun t283 => (if t283 = true then ((spileref09_Copy.f k l0).bind fun t284 => ((cask_Print.f k t284).bind fun bt287 => ((spileref09_Print.f k l0).bind fun bt289 => (if bt287.1.toList = bt289.1.toList then (some (bt287.2 == bt289.2)) else (none))))) else (some true))) else (none))) = some r := h; clear h; replace H := Option.bind_eq_some_iff.mp H; obtain ⟨t282, A20, H⟩ := H; replace H : (if t282 = true then ((spileref09_Few.f k l0).bind fun t283 => (if t283 = true then ((spileref09_Copy.f k l0).bind fun t284 => ((cask_Print.f k t284).bind fun bt287 => ((spileref09_Print.f k l0).bind fun bt289 => (if bt287.1.toList = bt289.1.toList then (some (bt287.2 == bt289.2)) else (none))))) else (some true))) else (none)) = some r := H; have A2 := Aside0.mk A20; clear A20; by_cases c3 : t282 = true
 ·
  subst c3; have H1 : ((spileref09_Few.f k l0).bind fun t283 => (if t283 = true then ((spileref09_Copy.f k l0).bind fun t284 => ((cask_Print.f k t284).bind fun bt287 => ((spileref09_Print.f k l0).bind fun bt289 => (if bt287.1.toList = bt289.1.toList then (some (bt287.2 == bt289.2)) else (none))))) else (some true))) = some r := by rw [if_pos rfl] at H; exact H
  clear H; have H := H1; clear H1; replace H := Option.bind_eq_some_iff.mp H; obtain ⟨t283, A40, H⟩ := H; replace H : (if t283 = true then ((spileref09_Copy.f k l0).bind fun t284 => ((cask_Print.f k t284).bind fun bt287 => ((spileref09_Print.f k l0).bind fun bt289 => (if bt287.1.toList = bt289.1.toList then (some (bt287.2 == bt289.2)) else (none))))) else (some true)) = some r := H; have A4 := Aside0.mk A40; clear A40; by_cases c5 : t283 = true
  ·
   subst c5; have H1 : ((spileref09_Copy.f k l0).bind fun t284 => ((cask_Print.f k t284).bind fun bt287 => ((spileref09_Print.f k l0).bind fun bt289 => (if bt287.1.toList = bt289.1.toList then (some (bt287.2 == bt289.2)) else (none))))) = some r := by rw [if_pos rfl] at H; exact H
   clear H; have H := H1; clear H1; replace H := Option.bind_eq_some_iff.mp H; obtain ⟨t284, A60, H⟩ := H; replace H : ((cask_Print.f k t284).bind fun bt287 => ((spileref09_Print.f k l0).bind fun bt289 => (if bt287.1.toList = bt289.1.toList then (some (bt287.2 == bt289.2)) else (none)))) = some r := H; have A6 := Aside0.mk A60; clear A60; replace H := Option.bind_eq_some_iff.mp H; obtain ⟨⟨t287, t288⟩, A70, H⟩ := H; replace H : ((spileref09_Print.f k l0).bind fun bt289 => (if t287.toList = bt289.1.toList then (some (t288 == bt289.2)) else (none))) = some r := H; have A7 := Aside0.mk A70; clear A70; replace H := Option.bind_eq_some_iff.mp H; obtain ⟨⟨t289, t290⟩, A80, H⟩ := H; replace H : (if t287.toList = t289.toList then (some (t288 == t290)) else (none)) = some r := H; have A8 := Aside0.mk A80; clear A80; by_cases c9 : t287.toList = t289.toList
   ·
    rw [if_pos c9] at H; have c9b0 : (t287.toList == t289.toList) = true := beq_iff_eq.mpr c9; have c9b1 : (t287.toList != t289.toList) = false := bne_eq_false_iff_eq.mpr c9; clear c9; obtain rfl := Option.some.inj H; go_enter Tryd.func4, Tryd.ntmps4
    go_wp2_with (first | ((with_reducible refine gate_callee (f := 10) rfl ?_); refine goesL_ (some 7) rfl rfl Tryd.func10 (by kernel_rfl) rfl #[] rfl (by (try simp only [List.map_toArray, List.map_cons, List.map_nil]); first | done | rfl | (simp only [List.length_drop, List.length_take]; rfl)) ?_; (with_reducible refine (spilelaw09_awake.calls  true _ ?side1 A2.out).mono ?_); (case side1 => exact GI.below HG.out (by repeat (first | (with_reducible first | exact HB.out | apply below_alloc | apply pw_below_drewN | apply below_drew1) | exact HB.out))); rintro e w10 ⟨rfl, hb⟩; refine ⟨_, rfl, ?_⟩; have n0_ := Aside0.mk (below_step (by repeat (first | (with_reducible first | exact HB.out | apply below_alloc | apply pw_below_drewN | apply below_drew1) | exact HB.out)) hb); clear HB; have HB := n0_; clear n0_; (try clear hb); (try clear hb2); (try clear hk); (try clear hi)) | ((with_reducible refine gate_callee (f := 11) rfl ?_); refine goesL_ (some 10) rfl rfl Tryd.func11 (by kernel_rfl) rfl #[.slice A0 l0.length c0] rfl (by (try simp only [List.map_toArray, List.map_cons, List.map_nil]); first | done | rfl | (simp only [List.length_drop, List.length_take]; rfl)) ?_; (with_reducible refine (spileref09_Few.calls k _ _ l0 true _ ?side1 ?side2 A4.out).mono ?_); (case side1 => repeat (first | exact (Kd.C_below HR0.out HB.out) | (with_reducible refine Kd.C_alloc ?_ _) | (with_reducible refine Kd.C_drewN ?_ _) | (with_reducible refine Kd.C_drew ?_))); (case side2 => exact HC0.out); rintro e w' ⟨rfl, ⟨nd, rfl⟩⟩; refine ⟨_, rfl, ?_⟩) | ((with_reducible refine gate_callee (f := 13) rfl ?_); refine goesL_ (some 14) rfl rfl Tryd.func13 (by kernel_rfl) rfl #[.slice A0 l0.length c0] rfl (by (try simp only [List.map_toArray, List.map_cons, List.map_nil]); first | done | rfl | (simp only [List.length_drop, List.length_take]; rfl)) ?_; (with_reducible refine (spileref09_Copy.calls k _ _ l0 t284 _ ?side1 ?side2 A6.out).mono ?_); (case side1 => repeat (first | exact (Kd.C_below HR0.out (by repeat (first | (with_reducible first | exact HB.out | apply below_alloc | apply pw_below_drewN | apply below_drew1) | exact HB.out))) | (with_reducible refine Kd.C_alloc ?_ _) | (with_reducible refine Kd.C_drewN ?_ _) | (with_reducible refine Kd.C_drew ?_))); (case side2 => exact HC0.out); rintro e w11 ⟨v285, rfl, ho0, hb⟩; refine ⟨_, rfl, ?_⟩; have n0_ := Aside0.mk (Kd.S_lower ho0 (below_size (by repeat (first | (with_reducible first | exact HB.out | apply below_alloc | apply pw_below_drewN | apply below_drew1) | exact HB.out)))); have n1_ := Aside0.mk (below_step (by repeat (first | (with_reducible first | exact HB.out | apply below_alloc | apply pw_below_drewN | apply below_drew1) | exact HB.out)) hb); clear HB; have HO286 := n0_; have HB := n1_; clear n0_ n1_; (try clear hb); (try clear hb2); (try clear hk); (try clear hi); (try clear ho0); obtain ⟨Ao12, co12, eo12⟩ := Kd.S_slice HO286.out; subst eo12) | ((with_reducible refine gate_callee (f := 22) rfl ?_); refine goesL_ (some 15) rfl rfl Tryd.func22 (by kernel_rfl) rfl #[.slice Ao12 t284.length co12] rfl (by (try simp only [List.map_toArray, List.map_cons, List.map_nil]); first | done | rfl | (simp only [List.length_drop, List.length_take]; rfl)) ?_; (with_reducible refine (cask_Print.calls k _ _ t284 t287 t288 _ ?side1 ?side2 ?side3 A7.out).mono ?_); (case side1 => repeat (first | exact (Kd.S_reads' HO286.out).2.2 | (with_reducible refine Kd.C_alloc ?_ _) | (with_reducible refine Kd.C_drewN ?_ _) | (with_reducible refine Kd.C_drew ?_))); (case side2 => exact (Kd.S_reads' HO286.out).2.1); (case side3 => exact GI.below HG.out (by repeat (first | (with_reducible first | exact HB.out | apply below_alloc | apply pw_below_drewN | apply below_drew1) | exact HB.out))); rintro e w13 ⟨rfl, hb⟩; refine ⟨_, rfl, ?_⟩; have n0_ := Aside0.mk (Kd.S_below (by (with_reducible repeat (first | apply Kd.S_alloc | apply Kd.S_drewN | apply Kd.S_drew)); exact HO286.out) hb); have n1_ := Aside0.mk (below_step (by repeat (first | (with_reducible first | exact HB.out | apply below_alloc | apply pw_below_drewN | apply below_drew1) | exact HB.out)) hb); clear HO286; clear HB; have HO286 := n0_; have HB := n1_; clear n0_ n1_; (try clear hb); (try clear hb2); (try clear hk); (try clear hi)) | ((with_reducible refine gate_callee (f := 23) rfl ?_); refine goesL_ (some 20) rfl rfl Tryd.func23 (by kernel_rfl) rfl #[.slice A0 l0.length c0] rfl (by (try simp only [List.map_toArray, List.map_cons, List.map_nil]); first | done | rfl | (simp only [List.length_drop, List.length_take]; rfl)) ?_; (with_reducible refine (spileref09_Print.calls k _ _ l0 t289 t290 _ ?side1 ?side2 ?side3 A8.out).mono ?_); (case side1 => repeat (first | exact (Kd.C_below HR0.out HB.out) | (with_reducible refine Kd.C_alloc ?_ _) | (with_reducible refine Kd.C_drewN ?_ _) | (with_reducible refine Kd.C_drew ?_))); (case side2 => exact HC0.out); (case side3 => exact GI.below HG.out (by repeat (first | (with_reducible first | exact HB.out | apply below_alloc | apply pw_below_drewN | apply below_drew1) | exact HB.out))); rintro e w14 ⟨rfl, hb⟩; refine ⟨_, rfl, ?_⟩; have n0_ := Aside0.mk (Kd.S_below (by (with_reducible repeat (first | apply Kd.S_alloc | apply Kd.S_drewN | apply Kd.S_drew)); exact HO286.out) hb); have n1_ := Aside0.mk (below_step (by repeat (first | (with_reducible first | exact HB.out | apply below_alloc | apply pw_below_drewN | apply below_drew1) | exact HB.out)) hb); clear HO286; clear HB; have HO286 := n0_; have HB := n1_; clear n0_ n1_; (try clear hb); (try clear hb2); (try clear hk); (try clear hi)))
    go_ret
    exact ⟨by first | rfl | (simp [errW_none, errW_some] <;> rfl) | (simp [*, errW_none, errW_some] <;> rfl), by repeat (first | (with_reducible first | exact HB.out | apply below_alloc | apply pw_below_drewN | apply below_drew1) | exact HB.out)⟩
   · rw [if_neg c9] at H; have c9b0 : (t287.toList == t289.toList) = false := beq_eq_false_iff_ne.mpr c9; have c9b1 : (t287.toList != t289.toList) = true := bne_iff_ne.mpr c9; subst hr_; exact absurd H (by simp)
  ·
   replace c5 := Bool.eq_false_iff.mpr c5; subst c5; have H1 : (some true) = some r := by rw [if_neg (show ¬ (false = true) by decide)] at H; exact H
   clear H; have H := H1; clear H1; obtain rfl := Option.some.inj H; go_enter Tryd.func4, Tryd.ntmps4
   go_wp2_with (first | ((with_reducible refine gate_callee (f := 10) rfl ?_); refine goesL_ (some 7) rfl rfl Tryd.func10 (by kernel_rfl) rfl #[] rfl (by (try simp only [List.map_toArray, List.map_cons, List.map_nil]); first | done | rfl | (simp only [List.length_drop, List.length_take]; rfl)) ?_; (with_reducible refine (spilelaw09_awake.calls  true _ ?side1 A2.out).mono ?_); (case side1 => exact GI.below HG.out (by repeat (first | (with_reducible first | exact HB.out | apply below_alloc | apply pw_below_drewN | apply below_drew1) | exact HB.out))); rintro e w15 ⟨rfl, hb⟩; refine ⟨_, rfl, ?_⟩; have n0_ := Aside0.mk (below_step (by repeat (first | (with_reducible first | exact HB.out | apply below_alloc | apply pw_below_drewN | apply below_drew1) | exact HB.out)) hb); clear HB; have HB := n0_; clear n0_; (try clear hb); (try clear hb2); (try clear hk); (try clear hi)) | ((with_reducible refine gate_callee (f := 11) rfl ?_); refine goesL_ (some 10) rfl rfl Tryd.func11 (by kernel_rfl) rfl #[.slice A0 l0.length c0] rfl (by (try simp only [List.map_toArray, List.map_cons, List.map_nil]); first | done | rfl | (simp only [List.length_drop, List.length_take]; rfl)) ?_; (with_reducible refine (spileref09_Few.calls k _ _ l0 false _ ?side1 ?side2 A4.out).mono ?_); (case side1 => repeat (first | exact (Kd.C_below HR0.out HB.out) | (with_reducible refine Kd.C_alloc ?_ _) | (with_reducible refine Kd.C_drewN ?_ _) | (with_reducible refine Kd.C_drew ?_))); (case side2 => exact HC0.out); rintro e w' ⟨rfl, ⟨nd, rfl⟩⟩; refine ⟨_, rfl, ?_⟩))
   go_ret
   exact ⟨by first | rfl | (simp [errW_none, errW_some] <;> rfl) | (simp [*, errW_none, errW_some] <;> rfl), by repeat (first | (with_reducible first | exact HB.out | apply below_alloc | apply pw_below_drewN | apply below_drew1) | exact HB.out)⟩
 ·
  replace c3 := Bool.eq_false_iff.mpr c3; subst c3; have H1 : (none) = some r := by rw [if_neg (show ¬ (false = true) by decide)] at H; exact H
  clear H; have H := H1; clear H1; subst hr_; exact absurd H (by simp)
end Go.Proofs.YtnhmlneebnkjcaaDoor.Pr
namespace Go.Proofs.YtnhmlneebnkjcaaDoor.Opn
open Go Go.RowKit Go.Proofs.YtnhmlneebnkjcaaDoorW.PrintWords Go.Proofs.YtnhmlneebnkjcaaDoor.O Go.Proofs.YtnhmlneebnkjcaaDoor.Pr
theorem opens9 : Opens Tryd.prog 9 Kd.string (fun x => x.size ≤ maxLen) := opens_string Tryd.underlying9 (by kernel_rfl)
theorem opens3 : Opens Tryd.prog 3 (Kd.int .i64) (fun x => (Lit.int .i64 x).wf = true) := opens_int Tryd.underlying3 (by kernel_rfl)
def ok46 (x : S46) : Prop := (Lit.int .i64 x.f0).wf = true ∧ (Lit.int .i64 x.f1).wf = true
theorem opens46 : Opens Tryd.prog 46 k46 ok46 :=
  ⟨by kernel_rfl, fun H enc w base sp held fuel cs x h => by
    obtain ⟨xs, n, _, _, hl, hx, hf⟩ := DataW.trod_struct Tryd.underlying46 h
    have hc_ : Tryd.prog.cellsOf 46 = 2 := by kernel_rfl
    rw [hc_] at hl
    obtain ⟨c0, c1, rfl⟩ : ∃ c0 c1, cs = [c0, c1] := by
      clear h hf hx
      rcases cs with _ | ⟨c0, _ | ⟨c1, _ | ⟨_, _⟩⟩⟩
      all_goals first | exact ⟨_, _, rfl⟩ | (simp at hl)
    obtain ⟨y0, hy0⟩ : ∃ y, xs[0]? = some y := ⟨xs[0]'(by rw [hx]; decide), List.getElem?_eq_getElem _⟩
    have e0 : DataW.trod enc Tryd.prog w base sp held n 3 ((List.drop 0 [c0, c1]).take (Tryd.prog.cellsOf 3)) = xs[0]? := hf 0 _ rfl
    rw [hy0, show Tryd.prog.cellsOf 3 = 1 from by kernel_rfl] at e0
    obtain ⟨v0, K0, o0⟩ := opens3.2 H enc w base sp held n _ _ e0
    replace K0 : (Kd.int .i64).K w v0 [c0] := K0
    obtain ⟨y1, hy1⟩ : ∃ y, xs[1]? = some y := ⟨xs[1]'(by rw [hx]; decide), List.getElem?_eq_getElem _⟩
    have e1 : DataW.trod enc Tryd.prog w base sp held n 3 ((List.drop 1 [c0, c1]).take (Tryd.prog.cellsOf 3)) = xs[1]? := hf 1 _ rfl
    rw [hy1, show Tryd.prog.cellsOf 3 = 1 from by kernel_rfl] at e1
    obtain ⟨v1, K1, o1⟩ := opens3.2 H enc w base sp held n _ _ e1
    replace K1 : (Kd.int .i64).K w v1 [c1] := K1
    obtain rfl : c0 = _ := List.singleton_inj.1 K0
    obtain rfl : c1 = _ := List.singleton_inj.1 K1
    refine ⟨⟨v0, v1⟩, ?_, o0, o1⟩
    exact k46_mk w ⟨v0, v1⟩ ⟩
theorem opens25 : Opens Tryd.prog 25 (Kd.slice 46 k46) (fun x => (x.length ≤ maxLen ∧ ∀ x0_, x0_ ∈ x → ok46 x0_)) := opens_slice (P := Tryd.prog) (t := 25) (e := 46) Tryd.underlying25 (by kernel_rfl) opens46
def ok27 (x : S27) : Prop := x.f0.size ≤ maxLen ∧ (Lit.int .i64 x.f1).wf = true ∧ (x.f2.length ≤ maxLen ∧ ∀ x0_, x0_ ∈ x.f2 → ok46 x0_) ∧ (Lit.int .i64 x.f3).wf = true
theorem opens27 : Opens Tryd.prog 27 k27 ok27 :=
  ⟨by kernel_rfl, fun H enc w base sp held fuel cs x h => by
    obtain ⟨xs, n, _, _, hl, hx, hf⟩ := DataW.trod_struct Tryd.underlying27 h
    have hc_ : Tryd.prog.cellsOf 27 = 4 := by kernel_rfl
    rw [hc_] at hl
    obtain ⟨c0, c1, c2, c3, rfl⟩ : ∃ c0 c1 c2 c3, cs = [c0, c1, c2, c3] := by
      clear h hf hx
      rcases cs with _ | ⟨c0, _ | ⟨c1, _ | ⟨c2, _ | ⟨c3, _ | ⟨_, _⟩⟩⟩⟩⟩
      all_goals first | exact ⟨_, _, _, _, rfl⟩ | (simp at hl)
    obtain ⟨y0, hy0⟩ : ∃ y, xs[0]? = some y := ⟨xs[0]'(by rw [hx]; decide), List.getElem?_eq_getElem _⟩
    have e0 : DataW.trod enc Tryd.prog w base sp held n 9 ((List.drop 0 [c0, c1, c2, c3]).take (Tryd.prog.cellsOf 9)) = xs[0]? := hf 0 _ rfl
    rw [hy0, show Tryd.prog.cellsOf 9 = 1 from by kernel_rfl] at e0
    obtain ⟨v0, K0, o0⟩ := opens9.2 H enc w base sp held n _ _ e0
    replace K0 : Kd.string.K w v0 [c0] := K0
    obtain ⟨y1, hy1⟩ : ∃ y, xs[1]? = some y := ⟨xs[1]'(by rw [hx]; decide), List.getElem?_eq_getElem _⟩
    have e1 : DataW.trod enc Tryd.prog w base sp held n 3 ((List.drop 1 [c0, c1, c2, c3]).take (Tryd.prog.cellsOf 3)) = xs[1]? := hf 1 _ rfl
    rw [hy1, show Tryd.prog.cellsOf 3 = 1 from by kernel_rfl] at e1
    obtain ⟨v1, K1, o1⟩ := opens3.2 H enc w base sp held n _ _ e1
    replace K1 : (Kd.int .i64).K w v1 [c1] := K1
    obtain ⟨y2, hy2⟩ : ∃ y, xs[2]? = some y := ⟨xs[2]'(by rw [hx]; decide), List.getElem?_eq_getElem _⟩
    have e2 : DataW.trod enc Tryd.prog w base sp held n 25 ((List.drop 2 [c0, c1, c2, c3]).take (Tryd.prog.cellsOf 25)) = xs[2]? := hf 2 _ rfl
    rw [hy2, show Tryd.prog.cellsOf 25 = 1 from by kernel_rfl] at e2
    obtain ⟨v2, K2, o2⟩ := opens25.2 H enc w base sp held n _ _ e2
    replace K2 : (Kd.slice 46 k46).K w v2 [c2] := K2
    obtain ⟨y3, hy3⟩ : ∃ y, xs[3]? = some y := ⟨xs[3]'(by rw [hx]; decide), List.getElem?_eq_getElem _⟩
    have e3 : DataW.trod enc Tryd.prog w base sp held n 3 ((List.drop 3 [c0, c1, c2, c3]).take (Tryd.prog.cellsOf 3)) = xs[3]? := hf 3 _ rfl
    rw [hy3, show Tryd.prog.cellsOf 3 = 1 from by kernel_rfl] at e3
    obtain ⟨v3, K3, o3⟩ := opens3.2 H enc w base sp held n _ _ e3
    replace K3 : (Kd.int .i64).K w v3 [c3] := K3
    obtain rfl : c0 = _ := List.singleton_inj.1 K0
    obtain rfl : c1 = _ := List.singleton_inj.1 K1
    obtain ⟨A2, q2, w2, m2, g2⟩ := K2
    obtain rfl : c2 = _ := List.singleton_inj.1 w2
    obtain rfl : c3 = _ := List.singleton_inj.1 K3
    refine ⟨⟨v0, v1, v2, v3⟩, ?_, o0, o1, o2, o3⟩
    exact k27_mk w ⟨v0, v1, v2, v3⟩ m2 g2⟩
theorem opens22 : Opens Tryd.prog 22 (Kd.slice 27 k27) (fun x => (x.length ≤ maxLen ∧ ∀ x0_, x0_ ∈ x → ok27 x0_)) := opens_slice (P := Tryd.prog) (t := 22) (e := 27) Tryd.underlying22 (by kernel_rfl) opens27
end Go.Proofs.YtnhmlneebnkjcaaDoor.Opn
namespace Go.Proofs.YtnhmlneebnkjcaaDoor.Pure
open Go Go.RowKit Go.Proofs.YtnhmlneebnkjcaaDoor.Pr Go.Proofs.YtnhmlneebnkjcaaDoor.Opn
def caskPrintsPure : Prop := ∀ (l0 : (List S27)), (l0.length ≤ maxLen ∧ ∀ x0_, x0_ ∈ l0 → ok27 x0_) → ∃ k, spilelaw09_CaskPrints.f k l0 = some true
end Go.Proofs.YtnhmlneebnkjcaaDoor.Pure
namespace Go.Proofs.YtnhmlneebnkjcaaDoor.PL
open Go Go.RowKit Go.Proofs.YtnhmlneebnkjcaaDoorW.PrintWords Go.Proofs.YtnhmlneebnkjcaaDoorW.PrintLast Go.Proofs.YtnhmlneebnkjcaaDoorW.PrintMore
theorem evp {α : Type} {c : Prop} [Decidable c] {g h : Nat → Option α} {r : α} (hc : c) (k : Ev g r) : Ev (fun n => if c then g n else h n) r :=
  Ev.congr (fun n => if_pos hc) k
theorem evn {α : Type} {c : Prop} [Decidable c] {g h : Nat → Option α} {r : α} (hc : ¬ c) (k : Ev h r) : Ev (fun n => if c then g n else h n) r :=
  Ev.congr (fun n => if_neg hc) k
theorem evb {α β : Type} {g : Nat → Option α} {f : Nat → α → Option β} {a : α} {r : β} (h : Ev g a) (k : Ev (fun n => f n a) r) : Ev (fun n => (g n).bind (f n)) r := Ev.bind h k
theorem evr {α : Type} {a r : α} (h : a = r) : Ev (fun _ => some a) r := by subst h; exact Ev.now _
theorem evc {α : Type} {g : Nat → Option α} {r : α} {o : Option α} (hg : ∀ n, g n = o) (h : o = some r) : Ev g r := by
  subst h
  exact Ev.congr hg (Ev.now _)
/-- A loop that counts upwards to n. -/
theorem count_up (a n : Int) (P : Int → Prop) (hend : P n) (hround : ∀ i, a ≤ i → i < n → P (i + 1) → P i) : ∀ i, a ≤ i → i ≤ n → P i := by
  intro i h0 h1
  obtain ⟨d, hd⟩ : ∃ d : Nat, n - i = d := ⟨(n - i).toNat, by omega⟩
  induction d generalizing i with
  | zero =>
    obtain rfl : i = n := by omega
    exact hend
  | succ d ih => exact hround i h0 (by omega) (ih (i + 1) (by omega) (by omega) (by omega))
theorem w64 {x : Int} (h0 : -9223372036854775808 ≤ x) (h1 : x ≤ 9223372036854775807) : wrap64 x = x := by
  unfold wrap64
  omega
theorem w64_succ {i n : Int} (h0 : 0 ≤ i) (h : i < n) (hn : n ≤ 9223372036854775807) : wrap64 (i + 1) = i + 1 := w64 (by omega) (by omega)
theorem len_le {α : Type} {l : List α} (h : l.length ≤ maxLen) : (l.length : Int) ≤ 9223372036854775807 := by
  have : l.length ≤ 9223372036854775807 := by simpa [maxLen] using h
  omega
/-- A test that comes to true where P holds, and else to false. -/
def EvB (g : Nat → Option Bool) (P : Prop) : Prop := (P → Ev g true) ∧ (¬ P → Ev g false)
theorem EvB.get {g : Nat → Option Bool} {P : Prop} (h : EvB g P) : ∃ b, Ev g b ∧ (b = true ↔ P) := by
  by_cases hp : P
  · exact ⟨true, h.1 hp, by simp [hp]⟩
  · exact ⟨false, h.2 hp, by simp [hp]⟩
theorem EvB.map {g : Nat → Option Bool} {f : Nat → Bool → Option Bool} {P Q : Prop} (h : EvB g P) (ht : P → EvB (fun n => f n true) Q) (hf : ¬ P → EvB (fun n => f n false) Q) : EvB (fun n => (g n).bind (f n)) Q := by
  by_cases hp : P
  · exact ⟨fun q => Ev.bind (h.1 hp) ((ht hp).1 q), fun q => Ev.bind (h.1 hp) ((ht hp).2 q)⟩
  · exact ⟨fun q => Ev.bind (h.2 hp) ((hf hp).1 q), fun q => Ev.bind (h.2 hp) ((hf hp).2 q)⟩
theorem evB_all (a n : Int) (Q : Int → Prop) (L : Int → Nat → Option Bool) (hend : Ev (L n) true) (hno : ∀ i, a ≤ i → i < n → ¬ Q i → Ev (L i) false)
    (hyes : ∀ i, a ≤ i → i < n → Q i → ∀ b, Ev (L (i + 1)) b → Ev (L i) b) : ∀ i, a ≤ i → i ≤ n → EvB (L i) (∀ j, i ≤ j → j < n → Q j) := by
  refine count_up a n _ ⟨fun _ => hend, fun h => absurd (fun j h1 h2 => absurd h2 (by omega)) h⟩ ?_
  intro i h0 h1 ih
  by_cases hq : Q i
  · refine ⟨fun h => hyes i h0 h1 hq _ (ih.1 fun j hj hn => h j (by omega) hn), fun h => hyes i h0 h1 hq _ (ih.2 fun h2 => h fun j hj hn => ?_)⟩
    by_cases e : j = i
    · subst e; exact hq
    · exact h2 j (by omega) hn
  · exact ⟨fun h => absurd (h i (by omega) h1) hq, fun _ => hno i h0 h1 hq⟩
theorem index_ev (n : Int) (Q : Int → Prop) (L : Int → Nat → Option Int) (hend : Ev (L n) (-1)) (hyes : ∀ i, 0 ≤ i → i < n → Q i → Ev (L i) i)
    (hno : ∀ i, 0 ≤ i → i < n → ¬ Q i → ∀ r, Ev (L (i + 1)) r → Ev (L i) r) : ∀ i, 0 ≤ i → i ≤ n →
    ∃ r, Ev (L i) r ∧ ((0 ≤ r ∧ i ≤ r ∧ r < n ∧ Q r ∧ ∀ j, i ≤ j → j < r → ¬ Q j) ∨ (r = -1 ∧ ∀ j, i ≤ j → j < n → ¬ Q j)) := by
  refine count_up 0 n _ ⟨-1, hend, .inr ⟨rfl, fun j h1 h2 => absurd h2 (by omega)⟩⟩ ?_
  intro i h0 h1 ih
  by_cases hq : Q i
  · exact ⟨i, hyes i h0 h1 hq, .inl ⟨h0, by omega, h1, hq, fun j h2 h3 => absurd h3 (by omega)⟩⟩
  · obtain ⟨r, hr, h⟩ := ih
    refine ⟨r, hno i h0 h1 hq _ hr, ?_⟩
    have ext : ∀ b, (∀ j, i + 1 ≤ j → j < b → ¬ Q j) → ∀ j, i ≤ j → j < b → ¬ Q j := fun b h2 j hj hb => by
      by_cases e : j = i
      · subst e; exact hq
      · exact h2 j (by omega) hb
    rcases h with ⟨a, b, c, d, e⟩ | ⟨a, b⟩
    · exact .inl ⟨a, by omega, c, d, ext r e⟩
    · exact .inr ⟨a, ext n b⟩
end Go.Proofs.YtnhmlneebnkjcaaDoor.PL
namespace Go.Proofs.YtnhmlneebnkjcaaDoor.PL
open Go Go.RowKit Go.Proofs.YtnhmlneebnkjcaaDoorW.PrintWords Go.Proofs.YtnhmlneebnkjcaaDoorW.PrintLast Go.Proofs.YtnhmlneebnkjcaaDoorW.PrintMore Go.Proofs.YtnhmlneebnkjcaaDoor.Pr Go.Proofs.YtnhmlneebnkjcaaDoor.TX Go.Proofs.YtnhmlneebnkjcaaDoor.X
def ba (l : List UInt8) : ByteArray := ⟨l.toArray⟩
theorem ba_data (s : ByteArray) : ba s.data.toList = s := by obtain ⟨⟨l⟩⟩ := s; rfl
theorem ba_size (l : List UInt8) : (ba l).size = l.length := rfl
theorem size_data (s : ByteArray) : s.data.toList.length = s.size := Array.length_toList
theorem ba_app (a b : List UInt8) : ba a ++ ba b = ba (a ++ b) := by
  rw [← ba_data (ba a ++ ba b)]
  congr 1
theorem itoa_f {n : Int} (h0 : -9223372036854775808 ≤ n) (h1 : n ≤ 9223372036854775807) : strconv_Itoa.f n = some (ba (Lib.itoa n)) := by
  unfold strconv_Itoa.f
  rw [if_pos h0, if_pos h1]
  rfl
end Go.Proofs.YtnhmlneebnkjcaaDoor.PL
namespace Go.Proofs.YtnhmlneebnkjcaaDoor.PL
open Go Go.RowKit Go.Proofs.YtnhmlneebnkjcaaDoorW.PrintWords Go.Proofs.YtnhmlneebnkjcaaDoorW.PrintLast Go.Proofs.YtnhmlneebnkjcaaDoorW.PrintMore Go.Proofs.YtnhmlneebnkjcaaDoor.Pr Go.Proofs.YtnhmlneebnkjcaaDoor.Opn Go.Proofs.YtnhmlneebnkjcaaDoor.X
def okB (b : Int) : Prop := (97 ≤ b ∧ b ≤ 122) ∨ (65 ≤ b ∧ b ≤ 90) ∨ (48 ≤ b ∧ b ≤ 57) ∨ b = 45 ∨ b = 46
instance (b : Int) : Decidable (okB b) := by unfold okB; infer_instance
def NameP (s : ByteArray) : Prop := 1 ≤ s.size ∧ s.size ≤ 64 ∧ ∀ i, 0 ≤ i → i < (s.size : Int) → okB (bt s i)
theorem named_step (k : Nat) (s : ByteArray) {i : Int} (h0 : 0 ≤ i) (h1 : i < (s.size : Int)) : cask_named.l0 (k + 1) s (s.size : Int) i = if okB (bt s i) then cask_named.l0 k s (s.size : Int) (wrap64 (i + 1)) else some false := by
  rw [cask_named.l0.eq_2, if_pos h1, if_pos h0, if_pos h1]
  by_cases c : okB (bt s i)
  · rw [if_pos c]
    unfold okB at c
    (repeat' split) <;> first | rfl | (exfalso; omega)
  · rw [if_neg c]
    unfold okB at c
    (repeat' split) <;> first | rfl | (exfalso; omega)
theorem isname_step (k : Nat) (s : ByteArray) {i : Int} (h0 : 0 ≤ i) (h1 : i < (s.size : Int)) : spileref09_IsName.l0 (k + 1) s i = if okB (bt s i) then spileref09_IsName.l0 k s (wrap64 (i + 1)) else some false := by
  rw [spileref09_IsName.l0.eq_2, if_pos h1, if_pos h0]
  by_cases c : okB (bt s i)
  · rw [if_pos c]
    unfold okB at c
    (repeat' split) <;> first | rfl | (exfalso; omega)
  · rw [if_neg c]
    unfold okB at c
    (repeat' split) <;> first | rfl | (exfalso; omega)
theorem name_both (s : ByteArray) (hs : (s.size : Int) ≤ 9223372036854775807) : ∃ b, Ev (fun k => cask_named.f k s) b ∧ Ev (fun k => spileref09_IsName.f k s) b ∧ (b = true ↔ NameP s) := by
  have L1 : ∀ i, 0 ≤ i → i ≤ (s.size : Int) → EvB (fun k => cask_named.l0 k s (s.size : Int) i) (∀ j, i ≤ j → j < (s.size : Int) → okB (bt s j)) := by
    refine evB_all 0 (s.size : Int) (fun j => okB (bt s j)) (fun i k => cask_named.l0 k s (s.size : Int) i) ?_ ?_ ?_
    · exact Ev.step (fun k => cask_named.l0.eq_2 ..) (evn (by omega) (Ev.now _))
    · intro i h0 h1 hq
      exact Ev.step (fun k => named_step k s h0 h1) (evn hq (Ev.now _))
    · intro i h0 h1 hq b hb
      rw [← w64_succ h0 h1 hs] at hb
      exact Ev.step (fun k => named_step k s h0 h1) (evp hq hb)
  have L2 : ∀ i, 0 ≤ i → i ≤ (s.size : Int) → ∃ b, Ev (fun k => spileref09_IsName.l0 k s i) b ∧ (b = true ↔ (1 ≤ s.size ∧ s.size ≤ 64 ∧ ∀ j, i ≤ j → j < (s.size : Int) → okB (bt s j))) := by
    refine count_up 0 (s.size : Int) _ ?_ ?_
    · by_cases c : (s.size : Int) ≥ 1
      · exact ⟨_, Ev.step (fun k => spileref09_IsName.l0.eq_2 ..) (evn (by omega) (evp c (Ev.now _))), by rw [decide_eq_true_eq]; exact ⟨fun h => ⟨by omega, by omega, fun j _ _ => by omega⟩, fun h => by omega⟩⟩
      · exact ⟨_, Ev.step (fun k => spileref09_IsName.l0.eq_2 ..) (evn (by omega) (evn c (Ev.now _))), by simp; omega⟩
    · intro i h0 h1 ih
      by_cases hq : okB (bt s i)
      · obtain ⟨b, hb, hi⟩ := ih
        rw [← w64_succ h0 h1 hs] at hb
        refine ⟨b, Ev.step (fun k => isname_step k s h0 h1) (evp hq hb), hi.trans ⟨fun h => ⟨h.1, h.2.1, fun j h2 h3 => ?_⟩, fun h => ⟨h.1, h.2.1, fun j h2 h3 => h.2.2 j (by omega) h3⟩⟩⟩
        by_cases e : j = i
        · rw [e]; exact hq
        · exact h.2.2 j (by omega) h3
      · exact ⟨false, Ev.step (fun k => isname_step k s h0 h1) (evn hq (Ev.now _)), by simp only [Bool.false_eq_true, false_iff]; exact fun h => hq (h.2.2 i (Int.le_refl _) h1)⟩
  obtain ⟨b2, hb2, hi2⟩ := L2 0 (by omega) (by omega)
  have N2 : b2 = true ↔ NameP s := hi2
  by_cases c1 : (s.size : Int) < 1
  · have hb : b2 = false := by
      rw [Bool.eq_false_iff]
      intro q
      have := (N2.1 q).1
      omega
    subst hb
    exact ⟨false, evp c1 (Ev.step (fun k => cask_named.j0.eq_2 ..) (evp rfl (Ev.now _))), hb2, N2⟩
  by_cases c2 : (s.size : Int) > 64
  · have hb : b2 = false := by
      rw [Bool.eq_false_iff]
      intro q
      have := (N2.1 q).2.1
      omega
    subst hb
    exact ⟨false, evn c1 (Ev.step (fun k => cask_named.j0.eq_2 ..) (evp (decide_eq_true c2) (Ev.now _))), hb2, N2⟩
  obtain ⟨b, hb, hi⟩ := (L1 0 (by omega) (by omega)).get
  have e : b = b2 := by
    have : b = true ↔ b2 = true := hi.trans ⟨fun h => N2.2 ⟨by omega, by omega, h⟩, fun h => (N2.1 h).2.2⟩
    cases b <;> cases b2 <;> simp_all
  subst e
  exact ⟨b, evn c1 (Ev.step (fun k => cask_named.j0.eq_2 ..) (evn (by simp; omega) hb)), hb2, N2⟩
def LenP (x : Int) : Prop := 0 ≤ x ∧ x ≤ 100000
instance (x : Int) : Decidable (LenP x) := by unfold LenP; infer_instance
theorem measure_f (x : Int) : profile_measure.f x = some (decide (LenP x)) := by
  unfold profile_measure.f LenP
  by_cases c : x ≥ 0
  · rw [if_pos c]
    exact congrArg some (decide_eq_decide.2 ⟨fun h => ⟨c, h⟩, fun h => h.2⟩)
  · rw [if_neg c]
    exact congrArg some (decide_eq_false (fun h => c h.1)).symm
theorem isLength_f (x : Int) : spileref08_isLength.f x = some (decide (LenP x)) := by
  unfold spileref08_isLength.f LenP
  by_cases c : x ≥ 0
  · rw [if_pos c]
    exact congrArg some (decide_eq_decide.2 ⟨fun h => ⟨c, h⟩, fun h => h.2⟩)
  · rw [if_neg c]
    exact congrArg some (decide_eq_false (fun h => c h.1)).symm
def PtP (p : S46) : Prop := LenP p.f0 ∧ LenP p.f1
theorem check1_f (p : S46) : ∃ b, profile_Check_1.f p.f0 p.f1 = some b ∧ (b = true ↔ ¬ PtP p) := by
  unfold profile_Check_1.f PtP
  rw [measure_f, measure_f]
  by_cases c : LenP p.f0
  · refine ⟨_, by rw [Option.bind_some, if_pos (decide_eq_true c)]; rfl, ?_⟩
    by_cases d : LenP p.f1 <;> simp [c, d]
  · exact ⟨true, by rw [Option.bind_some, if_neg (by simp [c])], by simp [c]⟩
def AllP (l : List S46) : Prop := ∀ j, 0 ≤ j → j < (l.length : Int) → PtP (rd_T46 l j)
def NonZ (l : List S46) : Prop := ∀ j, 0 ≤ j → j < (l.length : Int) → (rd_T46 l j).f1 ≠ 0
theorem contains56 (l : List S46) (hl : (l.length : Int) ≤ 9223372036854775807) : ∃ b, Ev (fun k => api_Point_55_at_56.f k l) b ∧ (b = true ↔ ¬ AllP l) := by
  obtain ⟨r, hr, h⟩ := index_ev (l.length : Int) (fun i => ¬ PtP (rd_T46 l i)) (fun i k => api_Point_70_at_56.l0 k l (l.length : Int) i)
    (Ev.step (fun k => api_Point_70_at_56.l0.eq_2 ..) (evn (by omega) (Ev.now _)))
    (fun i h0 h1 hq => by
      obtain ⟨b, e, hb⟩ := check1_f (rd_T46 l i)
      exact Ev.step (fun k => api_Point_70_at_56.l0.eq_2 ..) (evp h1 (evp h0 (evp h1 (evb (evc (fun _ => rfl) e) (evp (hb.2 hq) (Ev.now _)))))))
    (fun i h0 h1 hq r hr => by
      obtain ⟨b, e, hb⟩ := check1_f (rd_T46 l i)
      rw [← w64_succ h0 h1 hl] at hr
      exact Ev.step (fun k => api_Point_70_at_56.l0.eq_2 ..) (evp h1 (evp h0 (evp h1 (evb (evc (fun _ => rfl) e) (evn (fun q => hq (hb.1 q)) hr)))))) 0 (by omega) (by omega)
  refine ⟨decide (r ≥ 0), evb hr (Ev.now _), ?_⟩
  rw [decide_eq_true_eq]
  rcases h with ⟨a, _, c, d, _⟩ | ⟨a, b⟩
  · exact ⟨fun _ q => d (q r a c), fun _ => a⟩
  · exact ⟨fun q => by omega, fun q => absurd (fun j h0 h1 => Classical.byContradiction (fun z => b j h0 h1 z)) q⟩
theorem contains59 (l : List S46) (hl : (l.length : Int) ≤ 9223372036854775807) : ∃ b, Ev (fun k => api_Point_55_at_59.f k l) b ∧ (b = true ↔ ¬ NonZ l) := by
  obtain ⟨r, hr, h⟩ := index_ev (l.length : Int) (fun i => (rd_T46 l i).f1 = 0) (fun i k => api_Point_70_at_59.l0 k l (l.length : Int) i)
    (Ev.step (fun k => api_Point_70_at_59.l0.eq_2 ..) (evn (by omega) (Ev.now _)))
    (fun i h0 h1 hq => Ev.step (fun k => api_Point_70_at_59.l0.eq_2 ..) (evp h1 (evp h0 (evp h1 (evb (evc (fun _ => rfl) (show profile_Check_2.f (rd_T46 l i).f0 (rd_T46 l i).f1 = some ((rd_T46 l i).f1 == 0) from rfl)) (evp (beq_iff_eq.2 hq) (Ev.now _)))))))
    (fun i h0 h1 hq r hr => by
      rw [← w64_succ h0 h1 hl] at hr
      exact Ev.step (fun k => api_Point_70_at_59.l0.eq_2 ..) (evp h1 (evp h0 (evp h1 (evb (evc (fun _ => rfl) (show profile_Check_2.f (rd_T46 l i).f0 (rd_T46 l i).f1 = some ((rd_T46 l i).f1 == 0) from rfl)) (evn (by simpa using hq) hr)))))) 0 (by omega) (by omega)
  refine ⟨decide (r ≥ 0), evb hr (Ev.now _), ?_⟩
  rw [decide_eq_true_eq]
  rcases h with ⟨a, _, c, d, _⟩ | ⟨a, b⟩
  · exact ⟨fun _ q => q r a c d, fun _ => a⟩
  · exact ⟨fun q => by omega, fun q => absurd (fun j h0 h1 => b j h0 h1) q⟩
theorem nbs_drop {l : List S46} {i : Int} (h0 : 1 ≤ i) (h1 : i < (l.length : Int)) : (nbs l).drop (i - 1).toNat = (rd_T46 l (i - 1), rd_T46 l i) :: (nbs l).drop i.toNat := by
  have h : (i - 1).toNat < (nbs l).length := by rw [nbs_len]; omega
  rw [List.drop_eq_getElem_cons h, show (i - 1).toNat + 1 = i.toNat from by omega]
  congr 1
  have g : (nbs l)[(i - 1).toNat]? = some (rd_T46 l (i - 1), rd_T46 l i) := by
    unfold nbs
    rw [List.getElem?_zip_eq_some]
    constructor
    · unfold rd_T46
      rw [List.getD_eq_getElem?_getD, List.getElem?_eq_getElem (show (i - 1).toNat < l.length by omega)]
      rfl
    · unfold rd_T46
      show l.tail[(i - 1).toNat]? = some (l.getD i.toNat z46)
      rw [List.getElem?_tail, List.getD_eq_getElem?_getD, show (i - 1).toNat + 1 = i.toNat from by omega, List.getElem?_eq_getElem (show i.toNat < l.length by omega)]
      rfl
  exact Option.some.inj ((List.getElem?_eq_getElem h).symm.trans g)
theorem nbs_end (l : List S46) {i : Int} (h : (l.length : Int) ≤ i) : (nbs l).drop (i - 1).toNat = [] := List.drop_eq_nil_of_le (by rw [nbs_len]; omega)
theorem falls_or : ∀ t l, profile_Check.falls t l = 0 ∨ profile_Check.falls t l = 10
  | _, [] => .inl rfl
  | t, x :: r => by
    unfold profile_Check.falls
    split
    · exact .inr rfl
    · exact falls_or _ r
theorem ref_falls (l : List S46) (hl : (l.length : Int) ≤ 9223372036854775807) : ∀ i, 1 ≤ i → ∀ t, (i ≤ (l.length : Int) ∨ l.length = 0) → Ev (fun k => spileref08_Check.l3 k l t i) (profile_Check.falls t ((nbs l).drop (i - 1).toNat)) := by
  intro i h0 t hi
  by_cases c : i ≤ (l.length : Int)
  case neg =>
    rw [nbs_end l (by omega)]
    exact Ev.step (fun k => spileref08_Check.l3.eq_2 ..) (evn (by omega) (Ev.now _))
  refine count_up 1 (l.length : Int) (fun i => ∀ t, Ev (fun k => spileref08_Check.l3 k l t i) (profile_Check.falls t ((nbs l).drop (i - 1).toNat))) ?_ ?_ i h0 c t
  · intro t
    rw [nbs_end l (Int.le_refl _)]
    exact Ev.step (fun k => spileref08_Check.l3.eq_2 ..) (evn (by omega) (Ev.now _))
  · intro i h0 h1 ih t
    have w0 : wrap64 (i - 1) = i - 1 := w64 (by omega) (by omega)
    have w1 : wrap64 (i + 1) = i + 1 := w64 (by omega) (by omega)
    rw [nbs_drop h0 h1]
    unfold profile_Check.falls
    rw [show i + 1 - 1 = i from by omega] at ih
    refine Ev.step (fun k => spileref08_Check.l3.eq_2 ..) (evp h1 ?_)
    rw [w0, w1]
    cases t with
    | true =>
      refine evp rfl (evp (by omega) (evp (by omega) (evp (by omega) ?_)))
      by_cases q : (rd_T46 l i).f1 > (rd_T46 l (i - 1)).f1
      · rw [if_pos ⟨rfl, q⟩]
        exact evp q (Ev.now _)
      · rw [if_neg (fun z => q z.2)]
        exact evn q (by simpa using ih true)
    | false =>
      rw [if_neg (fun z => by cases z.1)]
      exact evn (by decide) (evp (by omega) (evp (by omega) (evp (by omega) (by simpa using ih (decide ((rd_T46 l i).f1 < (rd_T46 l (i - 1)).f1))))))
theorem ref_zero (l : List S46) (hl : (l.length : Int) ≤ 9223372036854775807) (r3 : Int) (h3 : Ev (fun k => spileref08_Check.l3 k l false 1) r3) : ∀ i, 0 ≤ i → i ≤ (l.length : Int) → ∃ e, Ev (fun k => spileref08_Check.l2 k l i) e ∧ ((∀ j, i ≤ j → j < (l.length : Int) → (rd_T46 l j).f1 ≠ 0) → e = r3) ∧ (¬ (∀ j, i ≤ j → j < (l.length : Int) → (rd_T46 l j).f1 ≠ 0) → e = 16) := by
  refine count_up 0 (l.length : Int) _ ?_ ?_
  · exact ⟨r3, Ev.step (fun k => spileref08_Check.l2.eq_2 ..) (evn (by omega) h3), fun _ => rfl, fun h => absurd (fun j a b => by omega) h⟩
  · intro i h0 h1 ih
    by_cases c : (rd_T46 l i).f1 = 0
    · exact ⟨16, Ev.step (fun k => spileref08_Check.l2.eq_2 ..) (evp h1 (evp h0 (evp c (Ev.now _)))), fun h => absurd c (h i (Int.le_refl _) h1), fun _ => rfl⟩
    · obtain ⟨e, he, a, b⟩ := ih
      rw [← w64_succ h0 h1 hl] at he
      refine ⟨e, Ev.step (fun k => spileref08_Check.l2.eq_2 ..) (evp h1 (evp h0 (evn c he))), fun h => a (fun j x y => h j (by omega) y), fun h => b (fun z => h (fun j x y => ?_))⟩
      by_cases q : j = i
      · rw [q]; exact c
      · exact z j (by omega) y
theorem ref_steps (l : List S46) (hl : (l.length : Int) ≤ 9223372036854775807) (r2 : Int) (h2 : Ev (fun k => spileref08_Check.l2 k l 0) r2) : ∀ i, 1 ≤ i → i ≤ (l.length : Int) → Ev (fun k => spileref08_Check.l1 k l i) (if profile_Check.steps ((nbs l).drop (i - 1).toNat) = 0 then r2 else 5) := by
  refine count_up 1 (l.length : Int) _ ?_ ?_
  · rw [nbs_end l (Int.le_refl _)]
    exact Ev.step (fun k => spileref08_Check.l1.eq_2 ..) (evn (by omega) h2)
  · intro i h0 h1 ih
    have w0 : wrap64 (i - 1) = i - 1 := w64 (by omega) (by omega)
    have w1 : wrap64 (i + 1) = i + 1 := w64 (by omega) (by omega)
    rw [show i + 1 - 1 = i from by omega] at ih
    rw [nbs_drop h0 h1]
    unfold profile_Check.steps
    refine Ev.step (fun k => spileref08_Check.l1.eq_2 ..) (evp h1 ?_)
    rw [w0, w1]
    refine evn (by omega) (evp (by omega) (evp (by omega) (evp (by omega) (evp (by omega) ?_))))
    by_cases q : (rd_T46 l (i - 1)).f0 ≥ (rd_T46 l i).f0
    · rw [if_pos q, if_neg (by decide)]
      exact evp q (Ev.now _)
    · rw [if_neg q]
      exact evn q ih
theorem ref_all (l : List S46) (hl : (l.length : Int) ≤ 9223372036854775807) (r1 : Int) (h1 : Ev (fun k => spileref08_Check.l1 k l 0) r1) : ∀ i, 0 ≤ i → i ≤ (l.length : Int) → ∃ e, Ev (fun k => spileref08_Check.l0 k l i) e ∧ ((∀ j, i ≤ j → j < (l.length : Int) → PtP (rd_T46 l j)) → e = r1) ∧ (¬ (∀ j, i ≤ j → j < (l.length : Int) → PtP (rd_T46 l j)) → e = 2) := by
  refine count_up 0 (l.length : Int) _ ?_ ?_
  · exact ⟨r1, Ev.step (fun k => spileref08_Check.l0.eq_2 ..) (evn (by omega) h1), fun _ => rfl, fun h => absurd (fun j a b => by omega) h⟩
  · intro i h0 h1 ih
    by_cases c : LenP (rd_T46 l i).f0
    · by_cases d : LenP (rd_T46 l i).f1
      · obtain ⟨e, he, a, b⟩ := ih
        rw [← w64_succ h0 h1 hl] at he
        refine ⟨e, Ev.step (fun k => spileref08_Check.l0.eq_2 ..) (evp h1 (evp h0 (evb (evc (fun _ => rfl) (isLength_f _)) (evp (decide_eq_true c) (evb (evc (fun _ => rfl) (isLength_f _)) (evp (decide_eq_true d) he)))))), fun h => a (fun j x y => h j (by omega) y), fun h => b (fun z => h (fun j x y => ?_))⟩
        by_cases q : j = i
        · rw [q]; exact ⟨c, d⟩
        · exact z j (by omega) y
      · exact ⟨2, Ev.step (fun k => spileref08_Check.l0.eq_2 ..) (evp h1 (evp h0 (evb (evc (fun _ => rfl) (isLength_f _)) (evp (decide_eq_true c) (evb (evc (fun _ => rfl) (isLength_f _)) (evn (by simp [d]) (Ev.now _))))))), fun h => absurd (h i (Int.le_refl _) h1).2 d, fun _ => rfl⟩
    · exact ⟨2, Ev.step (fun k => spileref08_Check.l0.eq_2 ..) (evp h1 (evp h0 (evb (evc (fun _ => rfl) (isLength_f _)) (evn (by simp [c]) (Ev.now _))))), fun h => absurd (h i (Int.le_refl _) h1).1 c, fun _ => rfl⟩
def OKP (l : List S46) : Prop := 2 ≤ (l.length : Int) ∧ (l.length : Int) ≤ 32 ∧ AllP l ∧ (rd_T46 l 0).f0 = 0 ∧ profile_Check.steps (nbs l) = 0 ∧ NonZ l ∧ profile_Check.falls false (nbs l) = 0
theorem prof_both (l : List S46) (hl : (l.length : Int) ≤ 9223372036854775807) : ∃ e, Ev (fun k => profile_Check.f k l) e ∧ Ev (fun k => spileref08_Check.f k l) e ∧ (e = 0 ↔ OKP l) ∧ e ≠ 3 := by
  by_cases c1 : (l.length : Int) < 2
  · exact ⟨9, evp c1 (Ev.now _), evp c1 (Ev.now _), ⟨fun h => absurd h (by decide), fun h => by have := h.1; omega⟩, by decide⟩
  by_cases c2 : (l.length : Int) > 32
  · exact ⟨8, evn c1 (evp c2 (Ev.now _)), evn c1 (evp c2 (Ev.now _)), ⟨fun h => absurd h (by decide), fun h => by have := h.2.1; omega⟩, by decide⟩
  obtain ⟨b1, hb1, hi1⟩ := contains56 l hl
  obtain ⟨b2, hb2, hi2⟩ := contains59 l hl
  have h3 := ref_falls l hl 1 (by omega) false (.inl (by omega))
  rw [show ((1 : Int) - 1).toNat = 0 from rfl, List.drop_zero] at h3
  obtain ⟨r2, h2, a2, z2⟩ := ref_zero l hl _ h3 0 (by omega) (by omega)
  have h1 := ref_steps l hl r2 h2 1 (by omega) (by omega)
  rw [show ((1 : Int) - 1).toNat = 0 from rfl, List.drop_zero] at h1
  have h10 : Ev (fun k => spileref08_Check.l1 k l 0) (if (rd_T46 l 0).f0 = 0 then (if profile_Check.steps (nbs l) = 0 then r2 else 5) else 5) := by
    refine Ev.step (fun k => spileref08_Check.l1.eq_2 ..) (evp (by omega) (evp rfl (evp (by omega) ?_)))
    by_cases q : (rd_T46 l 0).f0 = 0
    · rw [if_pos q]
      exact evp q (evn (by omega) (by rw [show wrap64 ((0 : Int) + 1) = 1 from w64 (by omega) (by omega)]; exact h1))
    · rw [if_neg q]
      exact evn q (Ev.now _)
  obtain ⟨e, he, ea, ez⟩ := ref_all l hl _ h10 0 (by omega) (by omega)
  have hE2 : Ev (fun k => spileref08_Check.f k l) e := evn c1 (evn c2 he)
  by_cases ha : AllP l
  case neg =>
    obtain rfl := ez ha
    exact ⟨2, evn c1 (evn c2 (evb hb1 (evp (hi1.2 ha) (Ev.now _)))), hE2, ⟨fun h => absurd h (by decide), fun h => absurd h.2.2.1 ha⟩, by decide⟩
  have hb1f : ¬ b1 = true := fun q => hi1.1 q ha
  have he1 := ea ha
  by_cases h0 : (rd_T46 l 0).f0 = 0
  case neg =>
    rw [if_neg h0] at he1
    subst he1
    exact ⟨5, evn c1 (evn c2 (evb hb1 (evn hb1f (evn h0 (Ev.now _))))), hE2, ⟨fun h => absurd h (by decide), fun h => absurd h.2.2.2.1 h0⟩, by decide⟩
  rw [if_pos h0] at he1
  by_cases hs : profile_Check.steps (nbs l) = 0
  case neg =>
    rw [if_neg hs] at he1
    subst he1
    exact ⟨5, evn c1 (evn c2 (evb hb1 (evn hb1f (evp h0 (evn hs (Ev.now _)))))), hE2, ⟨fun h => absurd h (by decide), fun h => absurd h.2.2.2.2.1 hs⟩, by decide⟩
  rw [if_pos hs] at he1
  by_cases hz : NonZ l
  case neg =>
    have := z2 hz
    subst he1
    subst this
    exact ⟨16, evn c1 (evn c2 (evb hb1 (evn hb1f (evp h0 (evp hs (evb hb2 (evp (hi2.2 hz) (Ev.now _)))))))), hE2, ⟨fun h => absurd h (by decide), fun h => absurd h.2.2.2.2.2.1 hz⟩, by decide⟩
  have := a2 hz
  subst he1
  subst this
  refine ⟨_, evn c1 (evn c2 (evb hb1 (evn hb1f (evp h0 (evp hs (evb hb2 (evn (fun q => hi2.1 q hz) (Ev.now _)))))))), hE2, ⟨fun h => ⟨by omega, by omega, ha, h0, hs, hz, h⟩, fun h => h.2.2.2.2.2.2⟩, ?_⟩
  rcases falls_or false (nbs l) with q | q <;> rw [q] <;> decide
def OKC (x : S27) : Prop := NameP x.f0 ∧ (x.f1 = 1 ∨ x.f1 = 2) ∧ 0 ≤ x.f3 ∧ x.f3 ≤ 1073741824 ∧ OKP x.f2
/-- Of sizes that a machine can have. -/
def Sm (x : S27) : Prop := x.f0.size < 4294967296 ∧ x.f2.length < 4294967296
theorem check_both (x : S27) (hx : Sm x) : ∃ e, Ev (fun k => cask_Check.f k x.f0 x.f1 x.f2 x.f3) e ∧ Ev (fun k => spileref09_Check.f k x.f0 x.f1 x.f2 x.f3) e ∧ (e = 0 ↔ OKC x) ∧ e ≠ 3 := by
  obtain ⟨b, n1, n2, n3⟩ := name_both x.f0 (by have := hx.1; omega)
  obtain ⟨e, p1, p2, p3, p4⟩ := prof_both x.f2 (by have := hx.2; omega)
  cases b with
  | false =>
    exact ⟨4, evb n1 (evn (by decide) (Ev.now _)), evb n2 (evn (by decide) (Ev.now _)), ⟨fun h => absurd h (by decide), fun h => absurd (n3.2 h.1) (by decide)⟩, by decide⟩
  | true =>
    have hn := n3.1 rfl
    have fin : (x.f1 = 1 ∨ x.f1 = 2) → ∃ e, Ev (fun k => cask_Check.j0 k false x.f0 x.f1 x.f2 x.f3) e ∧ Ev (fun k => if x.f3 < 0 then some 2 else if x.f3 > 1073741824 then some 2 else (spileref08_Check.f k x.f2).bind fun t => some t) e ∧ (e = 0 ↔ OKC x) ∧ e ≠ 3 := by
      intro hpos
      by_cases d1 : x.f3 < 0
      · exact ⟨2, Ev.step (fun k => cask_Check.j0.eq_2 ..) (evn (by decide) (evp d1 (Ev.now _))), evp d1 (Ev.now _), ⟨fun h => absurd h (by decide), fun h => by have := h.2.2.1; omega⟩, by decide⟩
      by_cases d2 : x.f3 > 1073741824
      · exact ⟨2, Ev.step (fun k => cask_Check.j0.eq_2 ..) (evn (by decide) (evn d1 (evp d2 (Ev.now _)))), evn d1 (evp d2 (Ev.now _)), ⟨fun h => absurd h (by decide), fun h => by have := h.2.2.2.1; omega⟩, by decide⟩
      exact ⟨e, Ev.step (fun k => cask_Check.j0.eq_2 ..) (evn (by decide) (evn d1 (evn d2 (evb p1 (Ev.now _))))), evn d1 (evn d2 (evb p2 (Ev.now _))), p3.trans ⟨fun h => ⟨hn, hpos, by omega, by omega, h⟩, fun h => h.2.2.2.2⟩, p4⟩
    by_cases c1 : x.f1 = 1
    · obtain ⟨e, a, b, c, d⟩ := fin (.inl c1)
      exact ⟨e, evb n1 (evp rfl (evp c1 a)), evb n2 (evp rfl (evp c1 b)), c, d⟩
    · by_cases c2 : x.f1 = 2
      · obtain ⟨e, a, b, c, d⟩ := fin (.inr c2)
        exact ⟨e, evb n1 (evp rfl (evn c1 (by rw [show (x.f1 != 2) = false from by simp [c2]]; exact a))), evb n2 (evp rfl (evn c1 (evp c2 b))), c, d⟩
      · refine ⟨2, evb n1 (evp rfl (evn c1 (Ev.step (fun k => cask_Check.j0.eq_2 ..) (evp (by simp [c2]) (Ev.now _))))), evb n2 (evp rfl (evn c1 (evn c2 (Ev.now _)))), ⟨fun h => absurd h (by decide), fun h => ?_⟩, by decide⟩
        rcases h.2.1 with q | q
        · exact absurd q c1
        · exact absurd q c2
def SmL (l : List S27) : Prop := l.length < 4294967296 ∧ ∀ x, x ∈ l → Sm x
theorem rd27_mem {l : List S27} {i : Int} (h0 : 0 ≤ i) (h : i < (l.length : Int)) : rd_T27 l i ∈ l := by
  unfold rd_T27
  rw [List.getD_eq_getElem?_getD, List.getElem?_eq_getElem (by omega)]
  exact List.getElem_mem _
theorem drop27 {l : List S27} {i : Int} (h0 : 0 ≤ i) (h1 : i < (l.length : Int)) : l.drop i.toNat = rd_T27 l i :: l.drop (i + 1).toNat := by
  have hl : i.toNat < l.length := by omega
  have g : rd_T27 l i = l[i.toNat] := by
    unfold rd_T27
    simp [List.getD_eq_getElem?_getD, List.getElem?_eq_getElem hl]
  rw [g, show (i + 1).toNat = i.toNat + 1 from by omega, ← List.drop_eq_getElem_cons hl]
theorem drop46 {l : List S46} {i : Int} (h0 : 0 ≤ i) (h1 : i < (l.length : Int)) : l.drop i.toNat = rd_T46 l i :: l.drop (i + 1).toNat := by
  have hl : i.toNat < l.length := by omega
  have g : rd_T46 l i = l[i.toNat] := by
    unfold rd_T46
    simp [List.getD_eq_getElem?_getD, List.getElem?_eq_getElem hl]
  rw [g, show (i + 1).toNat = i.toNat + 1 from by omega, ← List.drop_eq_getElem_cons hl]
def nm (x : S27) : List UInt8 := x.f0.data.toList
/-- No name from i on stands ahead of itself. -/
def NoDup (l : List S27) (i : Int) : Prop := ∀ j, i ≤ j → j < (l.length : Int) → ∀ m, 0 ≤ m → m < j → nm (rd_T27 l j) ≠ nm (rd_T27 l m)
theorem tw_ev (l : List S27) (hl : SmL l) : ∀ i, 0 ≤ i → i ≤ (l.length : Int) → ∀ s, (∀ x, x ∈ s ↔ ∃ m, 0 ≤ m ∧ m < i ∧ nm (rd_T27 l m) = x) →
    ∃ e, cask_List.tw s (l.drop i.toNat) = some e ∧ (NoDup l i → e = 0) ∧ (¬ NoDup l i → e = 6) := by
  refine count_up 0 (l.length : Int) _ ?_ ?_
  · intro s hs
    rw [List.drop_eq_nil_of_le (by omega)]
    exact ⟨0, rfl, fun _ => rfl, fun h => absurd (fun j a b => by omega) h⟩
  · intro i h0 h1 ih s hs
    rw [drop27 h0 h1]
    unfold cask_List.tw
    rw [if_pos (hl.2 _ (rd27_mem h0 h1)).1]
    by_cases c : (rd_T27 l i).f0.data.toList ∈ s
    · refine ⟨6, by rw [if_pos c], fun h => ?_, fun _ => rfl⟩
      obtain ⟨m, m0, m1, m2⟩ := (hs _).1 c
      exact absurd m2.symm (h i (Int.le_refl _) h1 m m0 m1)
    · obtain ⟨e, e1, e2, e3⟩ := ih ((rd_T27 l i).f0.data.toList :: s) (fun x => by
        rw [List.mem_cons, hs]
        constructor
        · rintro (q | ⟨m, m0, m1, m2⟩)
          · exact ⟨i, h0, by omega, q.symm⟩
          · exact ⟨m, m0, by omega, m2⟩
        · rintro ⟨m, m0, m1, m2⟩
          by_cases q : m = i
          · subst q; exact .inl m2.symm
          · exact .inr ⟨m, m0, by omega, m2⟩)
      refine ⟨e, by rw [if_neg c]; exact e1, fun h => e2 (fun j a b => h j (by omega) b), fun h => e3 (fun z => h (fun j a b m m0 m1 => ?_))⟩
      by_cases q : j = i
      · subst q
        exact fun z2 => c ((hs _).2 ⟨m, m0, m1, z2.symm⟩)
      · exact z j (by omega) b m m0 m1
theorem toL (s : ByteArray) : s.toList = s.data.toList := Lib.toList_data s
theorem ref_dup (l : List S27) (hl : SmL l) : ∀ i, 0 ≤ i → i ≤ (l.length : Int) → ∃ e, Ev (fun k => spileref09_List.l1 k l i) e ∧ (NoDup l i → e = 0) ∧ (¬ NoDup l i → e = 6) := by
  have hz := hl.1
  refine count_up 0 (l.length : Int) _ ?_ ?_
  · exact ⟨0, Ev.step (fun k => spileref09_List.l1.eq_2 ..) (evn (by omega) (Ev.now _)), fun _ => rfl, fun h => absurd (fun j a b => by omega) h⟩
  · intro i h0 h1 ⟨e, e1, e2, e3⟩
    rw [← w64_succ h0 h1 (by omega)] at e1
    have key : ∀ m, 0 ≤ m → m ≤ i → ∃ e', Ev (fun k => spileref09_List.l2 k l i m) e' ∧ ((∀ q, m ≤ q → q < i → nm (rd_T27 l i) ≠ nm (rd_T27 l q)) → e' = e) ∧ (¬ (∀ q, m ≤ q → q < i → nm (rd_T27 l i) ≠ nm (rd_T27 l q)) → e' = 6) := by
      refine count_up 0 i _ ?_ ?_
      · exact ⟨e, Ev.step (fun k => spileref09_List.l2.eq_2 ..) (evn (by omega) e1), fun _ => rfl, fun h => absurd (fun q a b => by omega) h⟩
      · intro m m0 m1 ⟨f, f1, f2, f3⟩
        by_cases c : ((rd_T27 l i).f0).toList = ((rd_T27 l m).f0).toList
        · exact ⟨6, Ev.step (fun k => spileref09_List.l2.eq_2 ..) (evp m1 (evp h0 (evp h1 (evp m0 (evp (by omega) (evp c (Ev.now _))))))), fun h => absurd (by rw [toL, toL] at c; exact c) (h m (Int.le_refl _) m1), fun _ => rfl⟩
        · rw [← w64_succ m0 m1 (by omega)] at f1
          refine ⟨f, Ev.step (fun k => spileref09_List.l2.eq_2 ..) (evp m1 (evp h0 (evp h1 (evp m0 (evp (by omega) (evn c f1)))))), fun h => f2 (fun q a b => h q (by omega) b), fun h => f3 (fun z => h (fun q a b => ?_))⟩
          by_cases qe : q = m
          · subst qe
            exact fun z2 => c (by rw [toL, toL]; exact z2)
          · exact z q (by omega) b
    obtain ⟨f, f1, f2, f3⟩ := key 0 (by omega) h0
    refine ⟨f, Ev.step (fun k => spileref09_List.l1.eq_2 ..) (evp h1 f1), fun h => ?_, fun h => ?_⟩
    · rw [f2 (fun q a b => h i (Int.le_refl _) h1 q a b)]
      exact e2 (fun j a b => h j (by omega) b)
    · by_cases z : ∀ q, 0 ≤ q → q < i → nm (rd_T27 l i) ≠ nm (rd_T27 l q)
      · rw [f2 z]
        refine e3 (fun y => h (fun j a b m m0 m1 => ?_))
        by_cases q : j = i
        · subst q; exact z m m0 m1
        · exact y j (by omega) b m m0 m1
      · exact f3 z
def OKL (l : List S27) : Prop := (l.length : Int) ≤ 32 ∧ (∀ x, x ∈ l → OKC x) ∧ NoDup l 0
theorem ck_both (l : List S27) (hl : SmL l) (r1 : Int) (h1 : Ev (fun k => spileref09_List.l1 k l 0) r1) : ∀ i, 0 ≤ i → i ≤ (l.length : Int) → ∃ e f, Ev (fun k => cask_List.ck k (l.drop i.toNat)) e ∧ Ev (fun k => spileref09_List.l0 k l i) f ∧ e ≠ 3 ∧
    ((∀ x, x ∈ l.drop i.toNat → OKC x) → e = 0 ∧ f = r1) ∧ (¬ (∀ x, x ∈ l.drop i.toNat → OKC x) → e ≠ 0 ∧ f = e) := by
  have hz := hl.1
  refine count_up 0 (l.length : Int) _ ?_ ?_
  · rw [List.drop_eq_nil_of_le (by omega)]
    exact ⟨0, r1, evr rfl, Ev.step (fun k => spileref09_List.l0.eq_2 ..) (evn (by omega) h1), by decide, fun _ => ⟨rfl, rfl⟩, fun h => absurd (fun x hx => by cases hx) h⟩
  · intro i h0 h1 ⟨e, f, e1, f1, e3, a, b⟩
    obtain ⟨c, c1, c2, c3, c4⟩ := check_both (rd_T27 l i) (hl.2 _ (rd27_mem h0 h1))
    rw [← w64_succ h0 h1 (by omega)] at f1
    rw [drop27 h0 h1]
    by_cases z : c = 0
    · have hok := c3.1 z
      refine ⟨e, f, evb c1 (evp z e1), Ev.step (fun k => spileref09_List.l0.eq_2 ..) (evp h1 (evp h0 (evb c2 (evp z f1)))), e3, fun h => a (fun x hx => h x (List.mem_cons_of_mem _ hx)), fun h => b (fun y => h (fun x hx => ?_))⟩
      rcases List.mem_cons.1 hx with q | q
      · rw [q]; exact hok
      · exact y x q
    · exact ⟨c, c, evb c1 (evn z (Ev.now _)), Ev.step (fun k => spileref09_List.l0.eq_2 ..) (evp h1 (evp h0 (evb c2 (evn z (Ev.now _))))), c4, fun h => absurd (c3.2 (h _ (List.mem_cons_self ..))) z, fun _ => ⟨z, rfl⟩⟩
theorem list_both (l : List S27) (hl : SmL l) : ∃ e, Ev (fun k => cask_List.f k l) e ∧ Ev (fun k => spileref09_List.f k l) e ∧ (e = 0 ↔ OKL l) ∧ e ≠ 3 := by
  by_cases c : (l.length : Int) > 32
  · exact ⟨8, evp c (Ev.now _), evp c (Ev.now _), ⟨fun h => absurd h (by decide), fun h => by have := h.1; omega⟩, by decide⟩
  obtain ⟨t, t1, t2, t3⟩ := tw_ev l hl 0 (by omega) (by omega) [] (fun x => ⟨fun h => (by cases h), fun ⟨m, a, b, _⟩ => (by omega)⟩)
  obtain ⟨d, d1, d2, d3⟩ := ref_dup l hl 0 (by omega) (by omega)
  obtain ⟨e, f, e1, f1, e3, a, b⟩ := ck_both l hl d d1 0 (by omega) (by omega)
  rw [show (0 : Int).toNat = 0 from rfl, List.drop_zero] at t1 e1 a b
  have htd : t = d ∧ (t = 0 ↔ NoDup l 0) ∧ t ≠ 3 := by
    by_cases q : NoDup l 0
    · rw [t2 q, d2 q]; exact ⟨rfl, ⟨fun _ => q, fun _ => rfl⟩, by decide⟩
    · rw [t3 q, d3 q]; exact ⟨rfl, ⟨fun h => absurd h (by decide), fun h => absurd h q⟩, by decide⟩
  by_cases ok : ∀ x, x ∈ l → OKC x
  · obtain ⟨rfl, rfl⟩ := a ok
    refine ⟨t, evn c (evb e1 (evp rfl (evc (fun _ => rfl) t1))), evn c (by rw [htd.1]; exact f1), htd.2.1.trans ⟨fun h => ⟨by omega, ok, h⟩, fun h => h.2.2⟩, htd.2.2⟩
  · obtain ⟨z, rfl⟩ := b ok
    exact ⟨f, evn c (evb e1 (evn z (Ev.now _))), evn c f1, ⟨fun h => absurd h z, fun h => absurd h.2.1 ok⟩, e3⟩
end Go.Proofs.YtnhmlneebnkjcaaDoor.PL
namespace Go.Proofs.YtnhmlneebnkjcaaDoor.PL
open Go Go.RowKit Go.Proofs.YtnhmlneebnkjcaaDoorW.PrintWords Go.Proofs.YtnhmlneebnkjcaaDoorW.PrintLast Go.Proofs.YtnhmlneebnkjcaaDoorW.PrintMore Go.Proofs.YtnhmlneebnkjcaaDoor.Pr Go.Proofs.YtnhmlneebnkjcaaDoor.Opn Go.Proofs.YtnhmlneebnkjcaaDoor.X
def FewP (l : List S27) : Prop := (l.length : Int) ≤ 33 ∧ ∀ x, x ∈ l → x.f2.length ≤ 33 ∧ x.f0.size ≤ 70
theorem FewP.sm {l : List S27} (h : FewP l) : SmL l := ⟨by have := h.1; omega, fun x hx => ⟨by have := (h.2 x hx).2; omega, by have := (h.2 x hx).1; omega⟩⟩
theorem few_ev (l : List S27) (hl : (l.length : Int) ≤ 9223372036854775807) : ∃ b, Ev (fun k => spileref09_Few.f k l) b ∧ (b = true → FewP l) := by
  have key : ∀ i, 0 ≤ i → i ≤ (l.length : Int) → ∃ b, Ev (fun k => spileref09_Few.l0 k l i) b ∧ (b = true → (l.length : Int) ≤ 33 ∧ ∀ x, x ∈ l.drop i.toNat → x.f2.length ≤ 33 ∧ x.f0.size ≤ 70) := by
    refine count_up 0 (l.length : Int) _ ?_ ?_
    · refine ⟨_, Ev.step (fun k => spileref09_Few.l0.eq_2 ..) (evn (by omega) (Ev.now _)), fun h => ⟨of_decide_eq_true h, fun x hx => ?_⟩⟩
      rw [List.drop_eq_nil_of_le (by omega)] at hx
      cases hx
    · intro i h0 h1 ⟨b, hb, hi⟩
      have hf : Ev (fun _ : Nat => spileref08_Few.f (rd_T27 l i).f2) (decide (((rd_T27 l i).f2.length : Int) ≤ 33)) := Ev.now _
      by_cases c : ((rd_T27 l i).f2.length : Int) ≤ 33
      · by_cases d : ((rd_T27 l i).f0.size : Int) > 70
        · exact ⟨false, Ev.step (fun k => spileref09_Few.l0.eq_2 ..) (evp h1 (evp h0 (evb hf (evp (decide_eq_true c) (evp d (Ev.now _)))))), fun h => by cases h⟩
        · rw [← w64_succ h0 h1 hl] at hb
          refine ⟨b, Ev.step (fun k => spileref09_Few.l0.eq_2 ..) (evp h1 (evp h0 (evb hf (evp (decide_eq_true c) (evn d hb))))), fun h => ⟨(hi h).1, fun x hx => ?_⟩⟩
          rw [drop27 h0 h1] at hx
          rcases List.mem_cons.1 hx with q | q
          · rw [q]; exact ⟨by omega, by omega⟩
          · exact (hi h).2 x q
      · exact ⟨false, Ev.step (fun k => spileref09_Few.l0.eq_2 ..) (evp h1 (evp h0 (evb hf (evn (by simpa using c) (Ev.now _))))), fun h => by cases h⟩
  obtain ⟨b, hb, hi⟩ := key 0 (by omega) (by omega)
  exact ⟨b, hb, fun h => by have := hi h; rwa [show (0 : Int).toNat = 0 from rfl, List.drop_zero] at this⟩
theorem copy_ev (l : List S27) (hl : SmL l) : Ev (fun k => spileref09_Copy.f k l) l := by
  have hz := hl.1
  have key : ∀ i, 0 ≤ i → i ≤ (l.length : Int) → Ev (fun k => spileref09_Copy.l0 k l (l.take i.toNat) i) l := by
    refine count_up 0 (l.length : Int) _ ?_ ?_
    · rw [show ((l.length : Int)).toNat = l.length from by omega, List.take_length]
      exact Ev.step (fun k => spileref09_Copy.l0.eq_2 ..) (evn (by omega) (Ev.now _))
    · intro i h0 h1 ih
      have hs := (hl.2 _ (rd27_mem h0 h1)).2
      rw [← w64_succ h0 h1 (by omega)] at ih
      have e : l.take (wrap64 (i + 1)).toNat = l.take i.toNat ++ [(⟨(rd_T27 l i).f0, (rd_T27 l i).f1, ([] : List S46) ++ (rd_T27 l i).f2, (rd_T27 l i).f3⟩ : S27)] := by
        rw [w64_succ h0 h1 (by omega), show (i + 1).toNat = i.toNat + 1 from by omega, List.take_add_one, List.nil_append]
        congr 1
        rw [List.getElem?_eq_getElem (by omega)]
        unfold rd_T27
        rw [List.getD_eq_getElem?_getD, List.getElem?_eq_getElem (by omega)]
        rfl
      rw [e] at ih
      refine Ev.step (fun k => spileref09_Copy.l0.eq_2 ..) (evp h1 (evp h0 (evb (Ev.now ([] : List S46)) (evp (by simp; omega) (evp (by rw [List.length_take]; omega) ih)))))
  have := key 0 (by omega) (by omega)
  rwa [show (0 : Int).toNat = 0 from rfl, List.take_zero] at this
end Go.Proofs.YtnhmlneebnkjcaaDoor.PL
namespace Go.Proofs.YtnhmlneebnkjcaaDoor.PL
open Go Go.RowKit Go.Proofs.YtnhmlneebnkjcaaDoorW.PrintWords Go.Proofs.YtnhmlneebnkjcaaDoorW.PrintLast Go.Proofs.YtnhmlneebnkjcaaDoorW.PrintMore Go.Proofs.YtnhmlneebnkjcaaDoor.Pr Go.Proofs.YtnhmlneebnkjcaaDoor.TX Go.Proofs.YtnhmlneebnkjcaaDoor.X
section
variable {α : Type}
/-- Line by line: the first line that has no such thing, or no line feed, stops it. -/
def run (lineL : List UInt8 → Option α) (e : Bool) : List (List UInt8) → List α → List α × Option Nat
  | [], out => (out, none)
  | l :: r, out => match lineL l with
    | none => ([], some out.length)
    | some x => if r = [] ∧ e = false then ([], some out.length) else run lineL e r (out ++ [x])
def printL (lineT : α → List UInt8) : List α → List UInt8
  | [] => []
  | x :: r => lineT x ++ 10 :: printL lineT r
theorem printL_len {lineT : α → List UInt8} {m : Nat} : ∀ l : List α, (∀ x, x ∈ l → (lineT x).length ≤ m) → (printL lineT l).length ≤ (m + 1) * l.length
  | [], _ => by simp [printL]
  | x :: r, h => by
    have a := h x (by simp)
    have b := printL_len r (fun z hz => h z (by simp [hz]))
    simp only [printL, List.length_append, List.length_cons]
    rw [Nat.mul_add, Nat.mul_one]; omega
end
theorem itoa_dig {n : Int} (h0 : 0 ≤ n) : Lib.itoa n = Lib.decDigits n.toNat := by unfold Lib.itoa; rw [if_neg (by omega)]
theorem itoa_le {n : Int} {m : Nat} (h0 : 0 ≤ n) (h1 : n < 10 ^ m) (hm : 1 ≤ m) : (Lib.itoa n).length ≤ m := by
  rw [itoa_dig h0]
  refine digits_length_le ?_ hm
  have : ((n.toNat : Nat) : Int) < ((10 ^ m : Nat) : Int) := by rw [Int.natCast_pow]; show ((n.toNat : Nat) : Int) < 10 ^ m; omega
  exact Int.ofNat_lt.1 this
end Go.Proofs.YtnhmlneebnkjcaaDoor.PL
namespace Go.Proofs.YtnhmlneebnkjcaaDoor.PL
open Go Go.RowKit Go.Proofs.YtnhmlneebnkjcaaDoorW.PrintWords Go.Proofs.YtnhmlneebnkjcaaDoorW.PrintLast Go.Proofs.YtnhmlneebnkjcaaDoorW.PrintMore Go.Proofs.YtnhmlneebnkjcaaDoor.Pr Go.Proofs.YtnhmlneebnkjcaaDoor.Opn Go.Proofs.YtnhmlneebnkjcaaDoor.TX Go.Proofs.YtnhmlneebnkjcaaDoor.X
def cCask : List UInt8 := [99, 97, 115, 107]
def cDecl : List UInt8 := [100, 101, 99, 108, 97, 114, 101, 100]
def cAt : List UInt8 := [97, 116]
def cRad : List UInt8 := [114, 97, 100, 105, 117, 115]
def cEnd : List UInt8 := [101, 110, 100]
def cLying : List UInt8 := [108, 121, 105, 110, 103]
def cStand : List UInt8 := [115, 116, 97, 110, 100, 105, 110, 103]
def posL (p : List UInt8) : Option Int := if p = cLying then some 1 else if p = cStand then some 2 else none
def outL : List (List UInt8) → Option S27
  | [a, b, c, d, e] => if a = cCask ∧ b ≠ [] ∧ d = cDecl then (match posL c with
    | none => none
    | some p => match numP 10 e with
      | none => none
      | some v => some ⟨ba b, p, [], (v : Int)⟩) else none
  | _ => none
theorem outL5 (a b c d e : List UInt8) : outL [a, b, c, d, e] = if a = cCask ∧ b ≠ [] ∧ d = cDecl then (match posL c with
    | none => none
    | some p => match numP 10 e with
      | none => none
      | some v => some ⟨ba b, p, [], (v : Int)⟩) else none := rfl
theorem outL_len {ws : List (List UInt8)} (h : ws.length ≠ 5) : outL ws = none := by
  unfold outL
  split
  · exact absurd rfl h
  · rfl
theorem five {ws : List (List UInt8)} (h : ws.length = 5) : ∃ a b c d e, ws = [a, b, c, d, e] := by
  match ws, h with
  | [a, b, c, d, e], _ => exact ⟨a, b, c, d, e, rfl⟩
end Go.Proofs.YtnhmlneebnkjcaaDoor.PL
namespace Go.Proofs.YtnhmlneebnkjcaaDoor.PL
open Go Go.RowKit Go.Proofs.YtnhmlneebnkjcaaDoorW.PrintWords Go.Proofs.YtnhmlneebnkjcaaDoorW.PrintLast Go.Proofs.YtnhmlneebnkjcaaDoorW.PrintMore Go.Proofs.YtnhmlneebnkjcaaDoor.Pr Go.Proofs.YtnhmlneebnkjcaaDoor.Opn Go.Proofs.YtnhmlneebnkjcaaDoor.TX Go.Proofs.YtnhmlneebnkjcaaDoor.X
def InvA (acc : List S27) (n : Nat) : Prop := acc.length ≤ n ∧ ∀ x, x ∈ acc → x.f0.size ≤ 70000 ∧ x.f2.length ≤ n
theorem InvA.sm {acc : List S27} {n : Nat} (h : InvA acc n) (hn : n ≤ 200000) : SmL acc := ⟨by have := h.1; omega, fun x hx => ⟨by have := (h.2 x hx).1; omega, by have := (h.2 x hx).2; omega⟩⟩
theorem InvA.up {acc : List S27} {n : Nat} (h : InvA acc n) : InvA acc (n + 1) := ⟨Nat.le_succ_of_le h.1, fun x hx => ⟨(h.2 x hx).1, Nat.le_succ_of_le (h.2 x hx).2⟩⟩
theorem part_le (c : UInt8) : ∀ s p : List UInt8, p ∈ parts c s → p.length ≤ s.length
  | [], p, h => by simp [parts] at h; simp [h]
  | b :: r, p, h => by
    rw [parts_cons] at h
    by_cases e : b = c
    · rw [if_pos e] at h
      rcases List.mem_cons.1 h with h | h
      · simp [h]
      · have := part_le c r p h; simp; omega
    · rw [if_neg e] at h
      cases hp : parts c r with
      | nil => exact absurd hp (parts_ne c r)
      | cons q t =>
        rw [hp] at h
        rcases List.mem_cons.1 h with h | h
        · have := part_le c r q (by rw [hp]; simp)
          rw [h]; simp; omega
        · have := part_le c r p (by rw [hp]; exact List.mem_cons_of_mem _ h); simp; omega
theorem outL_some {ws : List (List UInt8)} {q : S27} (h : outL ws = some q) : ∃ a b c d e v, ws = [a, b, c, d, e] ∧ a = cCask ∧ b ≠ [] ∧ d = cDecl ∧ posL c = some q.f1 ∧ numP 10 e = some v ∧ q = ⟨ba b, q.f1, [], (v : Int)⟩ := by
  by_cases h5 : ws.length = 5
  case neg => rw [outL_len h5] at h; cases h
  obtain ⟨a, b, c, d, e, rfl⟩ := five h5
  rw [outL5] at h
  by_cases hc : a = cCask ∧ b ≠ [] ∧ d = cDecl
  case neg => rw [if_neg hc] at h; cases h
  rw [if_pos hc] at h
  cases hp : posL c with
  | none => rw [hp] at h; cases h
  | some p =>
    rw [hp] at h
    cases hn : numP 10 e with
    | none => rw [hn] at h; cases h
    | some v =>
      rw [hn] at h
      cases h
      exact ⟨a, b, c, d, e, v, rfl, hc.1, hc.2.1, hc.2.2, hp, hn, rfl⟩
theorem InvA.out {acc : List S27} {n : Nat} {l : List UInt8} {q : S27} (h : InvA acc n) (hq : outL (parts 32 l) = some q) (hl : l.length ≤ 70000) : InvA (acc ++ [q]) (n + 1) := by
  obtain ⟨a, b, c, d, e, v, hw, _, _, _, _, _, hq2⟩ := outL_some hq
  have hb := part_le 32 l b (by rw [hw]; simp)
  refine ⟨by rw [List.length_append]; have := h.1; simp; omega, fun x hx => ?_⟩
  rcases List.mem_append.1 hx with hx | hx
  · have := h.2 x hx; exact ⟨this.1, by omega⟩
  · rw [List.mem_singleton] at hx
    rw [hx, hq2]
    exact ⟨by show (ba b).size ≤ _; rw [ba_size]; omega, by simp⟩
end Go.Proofs.YtnhmlneebnkjcaaDoor.PL
namespace Go.Proofs.YtnhmlneebnkjcaaDoor.PL
open Go Go.RowKit Go.Proofs.YtnhmlneebnkjcaaDoorW.PrintWords Go.Proofs.YtnhmlneebnkjcaaDoorW.PrintLast Go.Proofs.YtnhmlneebnkjcaaDoorW.PrintMore Go.Proofs.YtnhmlneebnkjcaaDoor.Pr Go.Proofs.YtnhmlneebnkjcaaDoor.Opn Go.Proofs.YtnhmlneebnkjcaaDoor.TX Go.Proofs.YtnhmlneebnkjcaaDoor.X
def posT (p : Int) : List UInt8 := if p = 2 then cStand else cLying
def headT (x : S27) : List UInt8 := cCask ++ 32 :: (nm x ++ 32 :: (posT x.f1 ++ 32 :: (cDecl ++ 32 :: Lib.itoa x.f3)))
def ptT (p : S46) : List UInt8 := cAt ++ 32 :: (Lib.itoa p.f0 ++ 32 :: (cRad ++ 32 :: Lib.itoa p.f1))
def linesOf (x : S27) : List (List UInt8) := headT x :: (x.f2.map ptT ++ [cEnd])
def tl (ls : List (List UInt8)) : List UInt8 := printL (fun x => x) ls
def castT (l : List S27) : List UInt8 := tl (l.flatMap linesOf)
theorem tl_cons (x : List UInt8) (r : List (List UInt8)) : tl (x :: r) = x ++ 10 :: tl r := rfl
theorem tl_app : ∀ a b, tl (a ++ b) = tl a ++ tl b
  | [], b => rfl
  | x :: r, b => by rw [List.cons_append, tl_cons, tl_cons, tl_app r b]; simp
theorem pos_len (p : Int) : (posT p).length ≤ 8 := by unfold posT; split <;> decide
def Rng (x : S27) : Prop := x.f0.size ≤ 64 ∧ 0 ≤ x.f3 ∧ x.f3 ≤ 1073741824 ∧ (x.f2.length : Int) ≤ 32 ∧ AllP x.f2
theorem OKC.rng {x : S27} (h : OKC x) : Rng x := ⟨h.1.2.1, h.2.2.1, h.2.2.2.1, h.2.2.2.2.2.1, h.2.2.2.2.2.2.1⟩
theorem head_len {x : S27} (h : Rng x) : (headT x).length ≤ 120 := by
  have a := itoa_le (n := x.f3) (m := 10) (by have := h.2.1; omega) (by have := h.2.2.1; omega) (by omega)
  have b := pos_len x.f1
  have c := size_data x.f0
  have d := h.1
  unfold headT nm
  simp only [List.length_append, List.length_cons, cCask, cDecl, List.length_nil]
  omega
theorem pt_len {p : S46} (h : PtP p) : (ptT p).length ≤ 40 := by
  have a := itoa_le (n := p.f0) (m := 10) (by have := h.1.1; omega) (by have := h.1.2; omega) (by omega)
  have b := itoa_le (n := p.f1) (m := 10) (by have := h.2.1; omega) (by have := h.2.2; omega) (by omega)
  unfold ptT
  simp only [List.length_append, List.length_cons, cAt, cRad, List.length_nil]
  omega
theorem lits : (⟨#[99, 97, 115, 107, 32]⟩ : ByteArray) = ba [99, 97, 115, 107, 32] ∧ (⟨#[32]⟩ : ByteArray) = ba [32] ∧ (⟨#[32, 100, 101, 99, 108, 97, 114, 101, 100, 32]⟩ : ByteArray) = ba [32, 100, 101, 99, 108, 97, 114, 101, 100, 32] ∧ (⟨#[10]⟩ : ByteArray) = ba [10] ∧
    (⟨#[97, 116, 32]⟩ : ByteArray) = ba [97, 116, 32] ∧ (⟨#[32, 114, 97, 100, 105, 117, 115, 32]⟩ : ByteArray) = ba [32, 114, 97, 100, 105, 117, 115, 32] ∧ (⟨#[101, 110, 100, 10]⟩ : ByteArray) = ba [101, 110, 100, 10] := ⟨rfl, rfl, rfl, rfl, rfl, rfl, rfl⟩
theorem word_ba (p : Int) : cask_Print.word p = ba (posT p) := by unfold cask_Print.word posT; split <;> rfl
theorem head_eq {x : S27} (h : Rng x) : cask_Print.head x = some (ba (headT x ++ [10])) := by
  have a := itoa_le (n := x.f3) (m := 10) (by have := h.2.1; omega) (by have := h.2.2.1; omega) (by omega)
  have e0 : x.f0 = ba (nm x) := (ba_data _).symm
  unfold cask_Print.head
  rw [itoa_f (by have := h.2.1; omega) (by have := h.2.2.1; omega), Option.bind_some, if_pos ⟨by rw [ba_size]; omega, by have := h.1; omega⟩, lits.1, lits.2.1, lits.2.2.1, lits.2.2.2.1, word_ba]
  refine congrArg some ?_
  rw [show ba [99, 97, 115, 107, 32] ++ x.f0 = ba ([99, 97, 115, 107, 32] ++ nm x) from by rw [← ba_app, ← e0], ba_app, ba_app, ba_app, ba_app, ba_app]
  simp [headT, cCask, cDecl]
theorem part_eq {p : S46} (h : PtP p) : cask_Print.part p = some (ba (ptT p ++ [10])) := by
  have a := itoa_le (n := p.f0) (m := 10) (by have := h.1.1; omega) (by have := h.1.2; omega) (by omega)
  have b := itoa_le (n := p.f1) (m := 10) (by have := h.2.1; omega) (by have := h.2.2; omega) (by omega)
  unfold cask_Print.part
  rw [itoa_f (by have := h.1.1; omega) (by have := h.1.2; omega), itoa_f (by have := h.2.1; omega) (by have := h.2.2; omega), Option.bind_some, Option.bind_some, if_pos ⟨by rw [ba_size]; omega, by rw [ba_size]; omega⟩, lits.2.2.2.1, lits.2.2.2.2.1, lits.2.2.2.2.2.1]
  refine congrArg some ?_
  rw [ba_app, ba_app, ba_app, ba_app]
  simp [ptT, cAt, cRad]
theorem app_eq (acc s : List UInt8) (h : acc.length + s.length ≤ 140737488355328) : cask_Print.app acc (ba s) = some (acc ++ s) := by
  unfold cask_Print.app
  rw [ba_size, if_pos h]
  rfl
theorem print_pts (l : List S27) (i : Int) (h : AllP (rd_T27 l i).f2) (hn : ((rd_T27 l i).f2.length : Int) ≤ 32) : ∀ j, 0 ≤ j → j ≤ ((rd_T27 l i).f2.length : Int) → ∀ acc : List UInt8, (acc.length : Int) + 41 * (((rd_T27 l i).f2.length : Int) - j) ≤ 1000000 →
    ∀ r, Ev (fun k => cask_Print.l0 k l (acc ++ tl (((rd_T27 l i).f2.drop j.toNat).map ptT ++ [cEnd])) (wrap64 (i + 1))) r → Ev (fun k => cask_Print.l1 k l acc i j) r := by
  refine count_up 0 _ _ ?_ ?_
  · intro acc ha r hr
    rw [List.drop_eq_nil_of_le (by omega)] at hr
    refine Ev.step (fun k => cask_Print.l1.eq_2 ..) (evn (by omega) ?_)
    rw [lits.2.2.2.2.2.2, app_eq _ _ (by simp; omega)]
    simp only [Option.bind_some]
    exact hr
  · intro j h0 h1 ih acc ha r hr
    have hp := h j h0 h1
    have hl := pt_len hp
    refine Ev.step (fun k => cask_Print.l1.eq_2 ..) (evp h1 (evp h0 ?_))
    rw [part_eq hp]
    simp only [Option.bind_some]
    rw [app_eq _ _ (by simp; omega)]
    simp only [Option.bind_some]
    have q := ih (acc ++ (ptT (rd_T46 (rd_T27 l i).f2 j) ++ [10])) (by simp; omega) r
    rw [← w64_succ h0 h1 (by omega)] at q
    refine q ?_
    rw [w64_succ h0 h1 (by omega)]
    rw [drop46 h0 h1, List.map_cons, List.cons_append, tl_cons] at hr
    simp only [List.append_assoc, List.cons_append, List.nil_append] at hr ⊢
    exact hr
theorem print_loop (l : List S27) (hn : (l.length : Int) ≤ 32) (h : ∀ x, x ∈ l → Rng x) : ∀ i, 0 ≤ i → i ≤ (l.length : Int) → ∀ acc : List UInt8, (acc.length : Int) ≤ 1500 * i →
    Ev (fun k => cask_Print.l0 k l acc i) (ba (acc ++ castT (l.drop i.toNat)), 0) := by
  refine count_up 0 (l.length : Int) _ ?_ ?_
  · intro acc ha
    rw [List.drop_eq_nil_of_le (by omega)]
    exact Ev.step (fun k => cask_Print.l0.eq_2 ..) (evn (by omega) (evr (by simp [castT, tl, printL, ba])))
  · intro i h0 h1 ih acc ha
    have hx := h _ (rd27_mem h0 h1)
    have hl := head_len hx
    have hpt := hx.2.2.2.1
    refine Ev.step (fun k => cask_Print.l0.eq_2 ..) (evp h1 (evp h0 ?_))
    rw [head_eq hx]
    simp only [Option.bind_some]
    rw [app_eq _ _ (by simp; omega)]
    simp only [Option.bind_some]
    have hlen : (tl ((rd_T27 l i).f2.map ptT ++ [cEnd])).length ≤ 1320 := by
      rw [tl_app]
      have a : (tl ((rd_T27 l i).f2.map ptT)).length ≤ 41 * ((rd_T27 l i).f2.map ptT).length := printL_len (m := 40) _ (fun x hx2 => by
        obtain ⟨p, hp, rfl⟩ := List.mem_map.1 hx2
        obtain ⟨j, hj⟩ := List.mem_iff_getElem?.1 hp
        have hjl := (List.getElem?_eq_some_iff.1 hj).1
        have := hx.2.2.2.2 (j : Int) (by omega) (by omega)
        unfold rd_T46 at this
        rw [Int.toNat_natCast, List.getD_eq_getElem?_getD, hj] at this
        exact pt_len this)
      rw [List.length_map] at a
      have b : (tl [cEnd]).length = 4 := rfl
      rw [List.length_append, b]
      omega
    refine print_pts l i hx.2.2.2.2 hpt 0 (by omega) (by omega) _ (by simp; omega) _ ?_
    have q := ih (acc ++ (headT (rd_T27 l i) ++ [10]) ++ tl ((rd_T27 l i).f2.map ptT ++ [cEnd])) (by simp only [List.length_append, List.length_cons, List.length_nil] at hlen ⊢; omega)
    rw [← w64_succ h0 h1 (by omega)] at q
    rw [drop27 h0 h1, show (0 : Int).toNat = 0 from rfl, List.drop_zero]
    rw [w64_succ h0 h1 (by omega)] at q ⊢
    have e : castT (rd_T27 l i :: l.drop (i + 1).toNat) = headT (rd_T27 l i) ++ 10 :: (tl ((rd_T27 l i).f2.map ptT ++ [cEnd]) ++ castT (l.drop (i + 1).toNat)) := by
      unfold castT
      rw [List.flatMap_cons, tl_app]
      show tl (headT _ :: _) ++ _ = _
      rw [tl_cons]
      simp
    rw [e]
    simp only [List.append_assoc, List.cons_append, List.nil_append] at q ⊢
    exact q
theorem ref_word (p : Int) (h : p = 1 ∨ p = 2) : spileref09_word.f p = some (ba (posT p)) := by
  unfold spileref09_word.f posT
  rcases h with rfl | rfl <;> rfl
theorem ref_pts (l : List S27) (i : Int) (f0 : ByteArray) (f1 f3 : Int) (pts : List S46) (h : AllP pts) (hn : (pts.length : Int) ≤ 32) : ∀ j, 0 ≤ j → j ≤ (pts.length : Int) → ∀ acc : List UInt8, (acc.length : Int) + 41 * ((pts.length : Int) - j) ≤ 1000000 →
    ∀ r, Ev (fun k => spileref09_Print.l0 k l (ba (acc ++ tl ((pts.drop j.toNat).map ptT ++ [cEnd]))) (wrap64 (i + 1))) r → Ev (fun k => spileref09_Print.l1 k l (ba acc) i j f0 f1 pts f3) r := by
  refine count_up 0 _ _ ?_ ?_
  · intro acc ha r hr
    rw [List.drop_eq_nil_of_le (by omega)] at hr
    refine Ev.step (fun k => spileref09_Print.l1.eq_2 ..) (evn (by omega) ?_)
    rw [lits.2.2.2.2.2.2, ba_app]
    exact evp (by rw [ba_size]; omega) hr
  · intro j h0 h1 ih acc ha r hr
    have hp := h j h0 h1
    have hl := pt_len hp
    have a := itoa_le (n := (rd_T46 pts j).f0) (m := 10) (by have := hp.1.1; omega) (by have := hp.1.2; omega) (by omega)
    have b := itoa_le (n := (rd_T46 pts j).f1) (m := 10) (by have := hp.2.1; omega) (by have := hp.2.2; omega) (by omega)
    refine Ev.step (fun k => spileref09_Print.l1.eq_2 ..) (evp h1 (evp h0 (evb (evc (fun _ => rfl) (itoa_f (by have := hp.1.1; omega) (by have := hp.1.2; omega))) ?_)))
    rw [lits.2.2.2.1, lits.2.2.2.2.1, lits.2.2.2.2.2.1, ba_app, ba_app]
    refine evp (by rw [ba_size]; omega) (evp (by rw [ba_size]; simp; omega) (evb (evc (fun _ => rfl) (itoa_f (by have := hp.2.1; omega) (by have := hp.2.2; omega))) ?_))
    rw [ba_app, ba_app, ba_app]
    refine evp (by rw [ba_size, ba_size]; simp; omega) (evp (by rw [ba_size]; simp; omega) (evp (by rw [ba_size, ba_size]; simp; omega) ?_))
    have q := ih (acc ++ (ptT (rd_T46 pts j) ++ [10])) (by simp; omega) r
    rw [drop46 h0 h1, List.map_cons, List.cons_append, tl_cons] at hr
    have q2 := q (by simpa only [List.append_assoc, List.cons_append, List.nil_append] using hr)
    rw [← w64_succ h0 h1 (by omega)] at q2
    have e : [97, 116, 32] ++ Lib.itoa (rd_T46 pts j).f0 ++ [32, 114, 97, 100, 105, 117, 115, 32] ++ Lib.itoa (rd_T46 pts j).f1 ++ [10] = ptT (rd_T46 pts j) ++ [10] := by simp [ptT, cAt, cRad]
    rw [e]
    exact q2
theorem ref_print_loop (l : List S27) (hn : (l.length : Int) ≤ 32) (h : ∀ x, x ∈ l → Rng x ∧ (x.f1 = 1 ∨ x.f1 = 2)) : ∀ i, 0 ≤ i → i ≤ (l.length : Int) → ∀ acc : List UInt8, (acc.length : Int) ≤ 1500 * i →
    Ev (fun k => spileref09_Print.l0 k l (ba acc) i) (ba (acc ++ castT (l.drop i.toNat)), 0) := by
  refine count_up 0 (l.length : Int) _ ?_ ?_
  · intro acc ha
    rw [List.drop_eq_nil_of_le (by omega)]
    exact Ev.step (fun k => spileref09_Print.l0.eq_2 ..) (evn (by omega) (evr (by simp [castT, tl, printL, ba])))
  · intro i h0 h1 ih acc ha
    obtain ⟨hx, hpos⟩ := h _ (rd27_mem h0 h1)
    have hl := head_len hx
    have hpt := hx.2.2.2.1
    have hlen : (tl ((rd_T27 l i).f2.map ptT ++ [cEnd])).length ≤ 1320 := by
      rw [tl_app]
      have a : (tl ((rd_T27 l i).f2.map ptT)).length ≤ 41 * ((rd_T27 l i).f2.map ptT).length := printL_len (m := 40) _ (fun x hx2 => by
        obtain ⟨p, hp, rfl⟩ := List.mem_map.1 hx2
        obtain ⟨j, hj⟩ := List.mem_iff_getElem?.1 hp
        have hjl := (List.getElem?_eq_some_iff.1 hj).1
        have := hx.2.2.2.2 (j : Int) (by omega) (by omega)
        unfold rd_T46 at this
        rw [Int.toNat_natCast, List.getD_eq_getElem?_getD, hj] at this
        exact pt_len this)
      rw [List.length_map] at a
      have b : (tl [cEnd]).length = 4 := rfl
      rw [List.length_append, b]
      omega
    have hnm : (nm (rd_T27 l i)).length ≤ 64 := by have := hx.1; unfold nm; rw [size_data]; exact this
    have a := itoa_le (n := (rd_T27 l i).f3) (m := 10) (by have := hx.2.1; omega) (by have := hx.2.2.1; omega) (by omega)
    have b := pos_len (rd_T27 l i).f1
    have e0 : (⟨#[99, 97, 115, 107, 32]⟩ : ByteArray) ++ (rd_T27 l i).f0 = ba ([99, 97, 115, 107, 32] ++ nm (rd_T27 l i)) := by
      rw [lits.1, ← ba_app]
      congr 1
    refine Ev.step (fun k => spileref09_Print.l0.eq_2 ..) (evp h1 (evp h0 (evp (by have := hx.1; omega) ?_)))
    rw [e0, lits.2.1, ba_app]
    refine evp (by rw [ba_size]; simp; omega) (evb (evc (fun _ => rfl) (ref_word _ hpos)) ?_)
    rw [lits.2.2.1, ba_app, ba_app]
    refine evp (by rw [ba_size, ba_size]; simp; omega) (evp (by rw [ba_size]; simp; omega) (evb (evc (fun _ => rfl) (itoa_f (by have := hx.2.1; omega) (by have := hx.2.2.1; omega))) ?_))
    rw [lits.2.2.2.1, ba_app, ba_app, ba_app]
    refine evp (by rw [ba_size, ba_size]; simp; omega) (evp (by rw [ba_size]; simp; omega) (evp (by rw [ba_size, ba_size]; simp; omega) ?_))
    refine ref_pts l i _ _ _ _ hx.2.2.2.2 hpt 0 (by omega) (by omega) _ (by simp; omega) _ ?_
    have q := ih (acc ++ (headT (rd_T27 l i) ++ [10]) ++ tl ((rd_T27 l i).f2.map ptT ++ [cEnd])) (by simp only [List.length_append, List.length_cons, List.length_nil] at hlen ⊢; omega)
    rw [drop27 h0 h1, show (0 : Int).toNat = 0 from rfl, List.drop_zero, w64_succ h0 h1 (by omega)]
    have e : castT (rd_T27 l i :: l.drop (i + 1).toNat) = headT (rd_T27 l i) ++ 10 :: (tl ((rd_T27 l i).f2.map ptT ++ [cEnd]) ++ castT (l.drop (i + 1).toNat)) := by
      unfold castT
      rw [List.flatMap_cons, tl_app]
      show tl (headT _ :: _) ++ _ = _
      rw [tl_cons]
      simp
    rw [e]
    have e2 : [99, 97, 115, 107, 32] ++ nm (rd_T27 l i) ++ [32] ++ posT (rd_T27 l i).f1 ++ [32, 100, 101, 99, 108, 97, 114, 101, 100, 32] ++ Lib.itoa (rd_T27 l i).f3 ++ [10] = headT (rd_T27 l i) ++ [10] := by simp [headT, cCask, cDecl]
    rw [e2]
    simp only [List.append_assoc, List.cons_append, List.nil_append] at q ⊢
    exact q
theorem print_both (l : List S27) (hl : SmL l) : ∃ r, Ev (fun k => cask_Print.f k l) r ∧ Ev (fun k => spileref09_Print.f k l) r ∧ (OKL l → r = (ba (castT l), 0)) ∧ (¬ OKL l → r.2 ≠ 0 ∧ r.1 = ba [] ∧ Ev (fun k => cask_List.f k l) r.2) := by
  obtain ⟨e, e1, e2, e3, _⟩ := list_both l hl
  by_cases hg : OKL l
  · obtain rfl := e3.2 hg
    have p1 := print_loop l hg.1 (fun x hx => (hg.2.1 x hx).rng) 0 (by omega) (by omega) [] (by simp)
    have p2 := ref_print_loop l hg.1 (fun x hx => ⟨(hg.2.1 x hx).rng, (hg.2.1 x hx).2.1⟩) 0 (by omega) (by omega) [] (by simp)
    rw [show (0 : Int).toNat = 0 from rfl, List.drop_zero, List.nil_append] at p1 p2
    exact ⟨_, evb e1 (evp rfl p1), evb e2 (evp rfl p2), fun _ => rfl, fun h => absurd hg h⟩
  · have he : ¬ e = 0 := fun q => hg (e3.1 q)
    exact ⟨(ba [], e), evb e1 (evn he (Ev.now _)), evb e2 (evn he (Ev.now _)), fun h => absurd h hg, fun _ => ⟨he, rfl, e1⟩⟩
end Go.Proofs.YtnhmlneebnkjcaaDoor.PL
namespace Go.Proofs.YtnhmlneebnkjcaaDoor.Pure
open Go Go.RowKit Go.Proofs.YtnhmlneebnkjcaaDoorW.PrintWords Go.Proofs.YtnhmlneebnkjcaaDoorW.PrintLast Go.Proofs.YtnhmlneebnkjcaaDoorW.PrintMore Go.Proofs.YtnhmlneebnkjcaaDoor.Pr Go.Proofs.YtnhmlneebnkjcaaDoor.Opn Go.Proofs.YtnhmlneebnkjcaaDoor.X Go.Proofs.YtnhmlneebnkjcaaDoor.PL
theorem CaskPrints : caskPrintsPure := by
  intro l hl
  refine Ev.rounds ?_
  obtain ⟨b, hb, hb2⟩ := few_ev l (len_le hl.1)
  have haw : Ev (fun _ : Nat => spilelaw09_awake.f) true := Ev.now _
  refine evb haw (evp rfl (evb hb ?_))
  cases b with
  | false => exact evn (by decide) (Ev.now _)
  | true =>
    have sm := (hb2 rfl).sm
    obtain ⟨r, r1, r2, _⟩ := print_both l sm
    exact evp rfl (evb (copy_ev l sm) (evb r1 (evb r2 (evp rfl (evr (by simp))))))
end Go.Proofs.YtnhmlneebnkjcaaDoor.Pure
namespace Go.Proofs.YtnhmlneebnkjcaaDoor.X
open Go
variable {H : Type} {enc : TypeId × Value → H}
theorem wrap_shaped {a : Assume} {C : Checked} {os : Os} {f : FuncId} {fn : Func} {s : ChangeSpec} {conds : List PathCond} {apart fresh handsOn again : Bool} {X : World → Array Value → Prop}
    (hX : ∀ (w w' : World) (args : Array Value), w.heap = w'.heap → X w args → X w' args)
    (own : ownKnob C.prog.godebug = none) (started : os.Started) (noInit : C.prog.inits.idxOf? f = none) (hfn : C.prog.funcs[f]? = some fn)
    (witness : ∃ (w : World) (tape : Tape) (i : Input), w.os = os ∧ (w.forCall tape i).Shaped C.prog ∧ i.vars = [] ∧ Input.okWide C.prog (w.forCall tape i) .any w.heap.size f i ∧
      ((s.pre enc C.prog fn conds apart (w.forCall tape i).memory i.args ∧ X (w.forCall tape i).memory i.args) ∧ sizedMet enc C.prog fn (OpenSpec.ofChange s) apart (w.forCall tape i).memory i.args) ∧ a.holds C.prog (lone (Frame.enter C.prog f i.args .normal) [] (w.forCall tape i)))
    (walk : ∀ (W : World) (base : Nat) (args : Array Value) (ds gs : List (DataW H)) (before : List MemPlace),
      (∀ (j : Nat) t v, fn.params[j]? = some t → args[j]? = some v → Value.okWide C.prog W .any base t v) →
      DataW.Whole enc C.prog fn.params.toList s.vars apart W args.toList ds gs before → X W args → W.ShapedOpen C.prog →
      Calls C.prog f args W fun e W' => ∃ v, e = .returned v ∧ s.post enc C.prog fn apart fresh handsOn again W args v W') :
    ReturnsInHanded a C os f .any (fun w args => (s.pre enc C.prog fn conds apart w args ∧ X w args) ∧ sizedMet enc C.prog fn (OpenSpec.ofChange s) apart w args) (s.post enc C.prog fn apart fresh handsOn again) := by
  refine returnsInHanded_of_calls own started noInit witness ?_
  intro w tape i _ hsh _ hok hpre _
  obtain ⟨_, _, _, fn', hfn', _, _, _, _, hval⟩ := hok
  obtain rfl : fn' = fn := Option.some.inj (hfn'.symm.trans hfn)
  obtain ⟨⟨⟨ds, gs, before, hw, _⟩, hx⟩, _⟩ := hpre
  refine (walk (w.forCall tape i) w.heap.size i.args ds gs before hval (DataW.Whole.of_heap (w' := w.forCall tape i) (by rfl) hw) (hX _ _ _ (by rfl) hx) hsh).mono fun e W' ⟨v, he, hp⟩ => ?_
  subst he
  exact ChangeSpec.post_blind hp
end Go.Proofs.YtnhmlneebnkjcaaDoor.X
namespace Go.Proofs.YtnhmlneebnkjcaaDoor.caskPrints
open Go Go.ChangeShapes Go.WideShapes Go.ChangeAt Go.RowKit
open Go.ChangeMaps (open_string shut_string)
open Go.Proofs.YtnhmlneebnkjcaaDoorW.PrintWords Go.Proofs.YtnhmlneebnkjcaaDoor.O Go.Proofs.YtnhmlneebnkjcaaDoor.Opn Go.Proofs.YtnhmlneebnkjcaaDoor.Pr Go.Proofs.YtnhmlneebnkjcaaDoor.X
theorem own : ownKnob Tryd.prog.godebug = none := by kernel_rfl
theorem laidOut : laidOutB Tryd.prog = true := by kernel_rfl
abbrev laidL : List (String × DataW Unit) := [("math/bits.deBruijn32tab", Rows.laid_math_bits_deBruijn32tab), ("math/bits.deBruijn64tab", Rows.laid_math_bits_deBruijn64tab), ("internal/strconv.uint64pow10", Rows.laid_internal_strconv_uint64pow10), ("unicode/utf8.acceptRanges", Rows.laid_unicode_utf8_acceptRanges), ("unicode/utf8.first", Rows.laid_unicode_utf8_first)]
set_option maxRecDepth 100000 in
theorem lifted (os : Os) (started : os.Started) (H : Type) (enc : TypeId × Value → H) :
    ReturnsInHanded {} Tryd.checked os 4 .any (fun w args => (Rows.caskPrintsSpec.pre enc Tryd.prog Tryd.f4 [] false w args ∧ laidMetH Tryd.prog laidL w) ∧ sizedMet enc Tryd.prog Tryd.f4 (OpenSpec.ofChange Rows.caskPrintsSpec) false w args)
      (Rows.caskPrintsSpec.post enc Tryd.prog Tryd.f4 false true false false) := by
  refine wrap_shaped (C := Tryd.checked) (X := (fun w _ => laidMetH Tryd.prog laidL w)) (fun _ _ _ hh h => h.of_heap hh) own started (by kernel_rfl) Tryd.func4
    (ChangeSpec.witness_shaped (enc := enc) (C := Tryd.checked) (os := os) (X := (fun w _ => laidMetH Tryd.prog laidL w)) false (World.laidAll Tryd.prog os laidL) #[.slice none 0 0] 8 (World.laidAll_os _ _ _) (World.shaped_of_ZipB (by kernel_rfl) (by kernel_rfl)) (by kernel_rfl) (by kernel_rfl) (by kernel_rfl) (by rw [MakeChecks.laidMetH_plain _ _ _ (by kernel_rfl)]; exact laidMet_laidAll _ (by kernel_rfl) (by kernel_rfl))) ?_
  intro W base args ds gs before hval0 hW hL hsh
  have hval : ∀ (j : Nat) t v, Tryd.f4.params[j]? = some t → args[j]? = some v → Value.okWide Tryd.prog W .any base t v := hval0
  have hW' := hW
  obtain ⟨p, q, hA0, hV, rfl, hfz, hnd⟩ := hW
  have hA : DataW.TrodAll enc Tryd.prog W 0 (fun _ => true) true Tryd.f4.params.toList args.toList ds p := hA0
  rw [Tryd.params4] at hA hval
  obtain ⟨v0, vs0, d0, ds0, p0, q0, hargs, rfl, rfl, h0, r0⟩ := trodAll_cons hA
  obtain ⟨rfl, rfl, rfl⟩ := trodAll_nil r0
  obtain rfl : args = #[v0] := by cases args; simp_all
  obtain ⟨rfl, rfl⟩ := trodVars_none hV
  obtain ⟨a0_, len0_, cap0_, rfl⟩ := okWide_slice Tryd.underlying22 (hval 0 22 v0 rfl rfl)
  have k0 := h0
  have lt0 : ∀ x ∈ p0, x.block < W.heap.size := by obtain ⟨m, hm⟩ := k0; exact DataW.trod_lt m _ _ _ hm
  obtain ⟨l0, K0, ok0⟩ : ∃ x, (Kd.slice 27 k27).K W x [.slice a0_ len0_ cap0_] ∧ (x.length ≤ maxLen ∧ ∀ x0_, x0_ ∈ x → ok27 x0_) := by
    obtain ⟨fuel, hf⟩ := h0
    exact opens22.2 _ _ _ _ _ _ _ _ _ hf
  obtain ⟨A0, c0, e0, g0, hr0⟩ := K0
  simp only [List.cons.injEq, Value.slice.injEq, and_true] at e0
  obtain ⟨rfl, rfl, rfl⟩ := e0
  clear hA0 hval0
  obtain ⟨k, hp⟩ := Pure.CaskPrints l0 ok0
  have hG : GI W := GI.of_laid laidL (by simp [laidL]) hL hsh
  refine (spilelaw09_CaskPrints.calls k _ _ l0 true W hr0 g0 hG rfl hp).mono fun e W' ⟨he, bel⟩ => ?_
  subst he
  exact ⟨_, rfl, _, _, _, [], _, [], hW', trodAll_mk1 (shut_bool Tryd.underlying4 _), (trodAll_cons_mk (Below.trod laidOut (by kernel_rfl) (of_decide_eq_true (by kernel_rfl)) k0 bel lt0) trodAll_mk0), rfl, bel.frame _, fun h => by cases h⟩
theorem holds : Rows.CaskPrintsSaid :=
  OpenClaim.holds_of_wide 4 Tryd.f4 rfl rfl rfl rfl rfl rfl rfl ⟨rfl, rfl, rfl, rfl, rfl⟩ rfl rfl rfl rfl rfl (by kernel_rfl) Tryd.func4 (by kernel_rfl)
    (of_decide_eq_true (by kernel_rfl)) (by unfold Func.isWrapper; first | (rw [if_pos (by decide +kernel)]; kernel_rfl) | (rw [if_neg (by decide +kernel)]; exact ⟨rfl, rfl⟩))
    (fun os started H enc _ => lifted os started H enc)
theorem card : Rows.CaskPrintsCardSaid :=
  Claim7.holds_tied_plain_at .later [] [.data, .data, .data, .data, .pinned] true (true, "a11ba1a8ff04589e84bf96506875e99c97846a736c580a21adffadd5e088390c") false
    holds (fun _ h => by cases h) (by kernel_rfl) (fun _ h => by cases h) caskPrints_row_tie rfl ⟨rfl, rfl⟩ (by kernel_rfl) rfl
    (fun f fn hf hfn => by
      obtain rfl : f = 4 := Option.some.inj ((show Tryd.prog.funcNamed "spile/spilelaw09.CaskPrints" = some 4 by kernel_rfl).symm.trans hf) |>.symm
      obtain rfl : fn = Tryd.f4 := (Option.some.inj (Tryd.func4.symm.trans hfn)).symm
      exact ⟨by kernel_rfl, fun j t ht => by
        rw [Tryd.params4] at ht
        have hm : t ∈ [22] := by simpa using Array.mem_of_getElem? ht
        have hall : ([22].all fun u => !Tryd.prog.wantsStandIn u) = true := by kernel_rfl
        exact (show Tryd.prog.wantsStandIn t = false by simpa using List.all_eq_true.1 hall t hm)⟩)
    (by kernel_rfl)
end Go.Proofs.YtnhmlneebnkjcaaDoor.caskPrints
namespace Go.Proofs.YtnhmlneebnkjcaaDoor
/-- The card, under a short name, for the claim. -/
theorem caskPrints_holds : Rows.CaskPrintsCardSaid := caskPrints.card
#print axioms caskPrints_holds
end Go.Proofs.YtnhmlneebnkjcaaDoor
