/-
A part of what these laws rest on: contracts of the functions that they reach, and plain lemmas.
-/
import Derived.Lib.LazyBuf
import Derived.Test.YtkolhpacpbhceaaDoorRodCoarserC
set_option linter.unusedVariables false
set_option linter.unusedSimpArgs false
namespace Go.Proofs.YtkolhpacpbhceaaDoor.Pr
open Go.RowKit Go.Proofs.YtkolhpacpbhceaaDoorW.PrintWords Go.Proofs.YtkolhpacpbhceaaDoorW.PrintLast Go.Proofs.YtkolhpacpbhceaaDoorW.PrintMore Go.Proofs.YtkolhpacpbhceaaDoor.X
attribute [local go_sem] max2_int min2_int max_two min_two max_three min_three max_four min_four   -- for this text's walks alone
set_option linter.unusedVariables false
set_option linter.unusedSimpArgs false
def rod_Print.app (acc : List UInt8) (s : ByteArray) : Option (List UInt8) := if acc.length + s.size ≤ 140737488355328 then some (acc ++ s.data.toList) else none
def rod_Print.part (x : S39) : Option ByteArray := (strconv_Itoa.f x.f0).bind fun a => (strconv_Itoa.f x.f1).bind fun b => if a.size ≤ 100 ∧ b.size ≤ 100 then some (((a ++ ⟨#[32]⟩) ++ b) ++ ⟨#[10]⟩) else none
def rod_Print.l0 : Nat → List S39 → List UInt8 → Int → Option (ByteArray × Int)
 | 0, _, _, _ => none
 | k + 1, l, acc, i => if i < (l.length : Int) then (if 0 ≤ i then ((rod_Print.part (rd_T39 l i)).bind fun s => (rod_Print.app acc s).bind fun acc2 => rod_Print.l0 k l acc2 (wrap64 (i + 1))) else none) else some (⟨acc.toArray⟩, 0)
def rod_Print.f (k : Nat) (l0 : List (S39)) : Option (ByteArray × Int) := (rod_Check.f k l0).bind fun t => if t = 0 then rod_Print.l0 k l0 [] 0 else some (⟨#[]⟩, t)
set_option maxHeartbeats 8000000 in
set_option maxRecDepth 100000 in
theorem rod_Print.calls (k : Nat) (A0 : Option Addr) (c0 : Nat) (l0 : List (S39)) (r1 : ByteArray) (r2 : Int) (w : World) (hr0 : Kd.C k39 w A0 l0.length l0) (hc0 : l0.length ≤ c0) (hG : GI w) (h : rod_Print.f k l0 = some (r1, r2)) :
  Calls Tryd.prog 23 #[.slice A0 l0.length c0] w fun e w' => e = .returned (.tuple #[.string r1, .int .i64 r2]) ∧ Below w.heap.size w w' := by
 have HR0 := Aside0.mk hr0
 have HC0 := Aside0.mk hc0
 clear hr0 hc0
 have HG := Aside0.mk hG
 clear hG
 replace h := Option.bind_eq_some_iff.mp h
 obtain ⟨t, ht, h⟩ := h
 have H1 := Aside0.mk ht
 have H2 := Aside0.mk h
 clear ht h
 go_enter Tryd.func23, Tryd.ntmps23
 go_wp2_with (go_at_call 21; refine (rod_Check.calls k A0 c0 l0 t w HR0.out HC0.out H1.out).mono ?_)
 rintro e w1 ⟨rfl, hb1⟩
 have HB := Aside0.mk hb1
 clear hb1
 by_cases ht : t = 0
 case neg =>
  have H := H2.out
  rw [if_neg ht] at H
  have ht0 : (t == 0) = false := beq_eq_false_iff_ne.mpr ht
  have ht1 : (t != 0) = true := bne_iff_ne.mpr ht
  simp only [Option.some.injEq, Prod.mk.injEq] at H
  obtain ⟨rfl, rfl⟩ := H
  go_wp2
  go_ret2
  exact ⟨rfl, HB.out⟩
 case pos =>
  subst ht
  have H := H2.out
  rw [if_pos rfl] at H
  have H' := Aside0.mk H
  clear H H2
  have HBu := Aside0.mk (Lib.IsBuilderF.of (Lib.fresh_isBuilder 63 5 w1))
  have HB0 := HB
  have HB1 := HB0
  replace HB := Aside0.mk (below_alloc HB.out (.cells #[.pointer none, .slice none 0 0] 63))
  clear HB0
  go_wp2
  go_loopg [15] k (fun kq v15 w' => ∃ (x : Int) (acc : List UInt8), v15 = .int .i64 x ∧ Aside0 (rod_Print.l0 kq l0 acc x = some (r1, r2)) ∧ Aside0 (kq ≤ k) ∧ Aside0 (Lib.IsBuilderF 63 5 w1.heap.size w1.heap.size (Lib.byteCells acc) w') ∧ Aside0 (Below w.heap.size w w'))
  case atStart => exact ⟨0, [], rfl, H', ⟨Nat.le_refl _⟩, HBu, HB⟩
  case round =>
   clear H' HBu HB
   have HW1 : Aside0 (w.heap.size ≤ w1.heap.size) := ⟨HB1.out.size⟩
   obtain ⟨x, acc, rfl, HA, HK1, HBu, HB⟩ := hrel
   cases gk with
   | zero => exact absurd HA.out (by simp [rod_Print.l0])
   | succ k1 =>
    have H := HA.out
    clear HA
    simp only [rod_Print.l0] at H
    by_cases c2 : x < (l0.length : Int)
    ·
     rw [if_pos c2] at H
     have c2b : decide (x < (l0.length : Int)) = true := decide_eq_true c2
     by_cases c3 : 0 ≤ x
     ·
      rw [if_pos c3] at H
      have c3b : decide (0 ≤ x) = true := decide_eq_true c3
      obtain ⟨s, hs, H⟩ := Option.bind_eq_some_iff.mp H
      obtain ⟨acc2, ha, H⟩ := Option.bind_eq_some_iff.mp H
      obtain ⟨ta, hta, hs⟩ := Option.bind_eq_some_iff.mp hs
      obtain ⟨tb, htb, hs⟩ := Option.bind_eq_some_iff.mp hs
      by_cases hsz : ta.size ≤ 100 ∧ tb.size ≤ 100
      case neg => rw [if_neg hsz] at hs; cases hs
      rw [if_pos hsz] at hs
      obtain rfl := Option.some.inj hs
      unfold rod_Print.app at ha
      by_cases hln : acc.length + (((ta ++ ⟨#[32]⟩) ++ tb) ++ ⟨#[10]⟩ : ByteArray).size ≤ 140737488355328
      case neg => rw [if_neg hln] at ha; cases ha
      rw [if_pos hln] at ha
      obtain rfl := Option.some.inj ha
      have HLEN := Aside0.mk hln
      have HSZ := Aside0.mk hsz
      have H' := Aside0.mk H
      have HTA := Aside0.mk hta
      have HTB := Aside0.mk htb
      clear H hta htb hs ha hln hsz
      obtain ⟨ad1, e1, hy0, hy1⟩ := at_T39 HR0.out x c3 c2
      cases e1
      replace hy0 := (HB.out.cell (World.block_lt_of_cell? w _ hy0)).trans hy0
      replace hy1 := (HB.out.cell (World.block_lt_of_cell? w _ hy1)).trans hy1
      replace c3 := eq_true c3
      replace c2 := eq_true c2
      go_wp2_with (first | ((with_reducible refine gate_dst (N := 7) rfl ?_); refine box_event ?hg (N := 7) ?hd (cs := #[.int .i64 0, .int .i64 0]) (t := 39) ?hr ?_; (case hd => rfl); (case hg => rfl); (case hr => first | (go_simp; done) | (go_simp; rfl)); intro gs hgs w14 hbox hb; have BK := Aside0.mk hbox; have GS := Aside0.mk hgs; have Hb14 := Aside0.mk hb; have HBu14 := Aside0.mk (bld_below HBu.out hb); clear hbox hb hgs; have hcz0 : w14.cell? ⟨gs, 0, none⟩ = some (.int .i64 0) := (blk_cell BK.out 0).trans rfl; have hcz1 : w14.cell? ⟨gs, 1, none⟩ = some (.int .i64 0) := (blk_cell BK.out 1).trans rfl; have hfz0 := blk_frozen BK.out 0; have hfz1 := blk_frozen BK.out 1))
      have HbW : Aside0 (Below wr.heap.size wr ((w14.setCell ⟨gs, 0, none⟩ (.int .i64 (rd_T39 l0 x).f0)).setCell ⟨gs, 1, none⟩ (.int .i64 (rd_T39 l0 x).f1))) :=
       ⟨(Hb14.out.setCell (p := ⟨gs, 0, none⟩) (Nat.le_of_eq GS.out.symm) _).setCell (p := ⟨gs, 1, none⟩) (Nat.le_of_eq GS.out.symm) _⟩
      have HX : Aside0 (((w14.setCell ⟨gs, 0, none⟩ (.int .i64 (rd_T39 l0 x).f0)).setCell ⟨gs, 1, none⟩ (.int .i64 (rd_T39 l0 x).f1)).heap[gs]? = some (.cells #[.int .i64 (rd_T39 l0 x).f0, .int .i64 (rd_T39 l0 x).f1] 39 (0, 0))) :=
       ⟨blk_put (cs := #[.int .i64 (rd_T39 l0 x).f0, .int .i64 0]) (blk_put (cs := #[.int .i64 0, .int .i64 0]) BK.out 0 _ rfl) 1 _ rfl⟩
      generalize ((w14.setCell ⟨gs, 0, none⟩ (.int .i64 (rd_T39 l0 x).f0)).setCell ⟨gs, 1, none⟩ (.int .i64 (rd_T39 l0 x).f1)) = W at HbW HX ⊢
      have HBuW := Aside0.mk (bld_below HBu.out HbW.out)
      have HBW := Aside0.mk (below_step HB.out HbW.out)
      clear hcz0 hcz1 hfz0 hfz1 hy0 hy1 BK Hb14 HB HBu HbW HBu14
      have hz1 : (⟨#[32]⟩ : ByteArray).size = 1 := rfl
      have hz3 : (⟨#[10]⟩ : ByteArray).size = 1 := rfl
      have ha1 : ∀ w, (Op.stringOp .add ta ⟨#[32]⟩).run Tryd.prog w = .ok (.string (ta ++ ⟨#[32]⟩)) w := fun w => run_string_add_sum _ _ _ (by have := HSZ.out.1; rw [hz1]; omega)
      have ha2 : ∀ w, (Op.stringOp .add (ta ++ ⟨#[32]⟩) tb).run Tryd.prog w = .ok (.string ((ta ++ ⟨#[32]⟩) ++ tb)) w := fun w => run_string_add_sum _ _ _ (by have := HSZ.out; simp only [ByteArray.size_append]; rw [hz1]; omega)
      have ha3 : ∀ w, (Op.stringOp .add ((ta ++ ⟨#[32]⟩) ++ tb) ⟨#[10]⟩).run Tryd.prog w = .ok (.string (((ta ++ ⟨#[32]⟩) ++ tb) ++ ⟨#[10]⟩)) w := fun w => run_string_add_sum _ _ _ (by have := HSZ.out; simp only [ByteArray.size_append]; rw [hz1, hz3]; omega)
      refine start_ (n := 10) (S := fun w' => w'.cell? ⟨gs, 0, none⟩ = some (.int .i64 (rd_T39 l0 x).f0) ∧ w'.cell? ⟨gs, 1, none⟩ = some (.int .i64 (rd_T39 l0 x).f1) ∧ Lib.IsBuilderF 63 5 w1.heap.size w1.heap.size (Lib.byteCells acc) w' ∧ Below w.heap.size w w' ∧ GI w') (ds := [9]) #[false, false, false, false, false, false, false, false, false, false] (by kernel_rfl) rfl rfl ⟨(blk_cell HX.out 0).trans rfl, (blk_cell HX.out 1).trans rfl, HBuW.out, (below_drew1 HBW.out), (GI.below HG.out (below_drew1 HBW.out))⟩ (fun hHeld => ?_)
      generalize W.drew = Wd at hHeld ⊢
      refine pure_ (i := 0) (N := some 19) (v := ?_) (a' := ?_) #[true, false, false, false, false, false, false, false, false, false] rfl rfl (by kernel_rfl) (fun _ _ _ h => h) (Or.inl ⟨by rfl, ?_⟩) ?_ ?_
      rotate_left
      ·
       intro w'
       go_simp
       with_reducible rfl
      rotate_left
      ·
       simp only [Act.put, List.setIfInBounds_toArray, List.set_cons_zero, List.set_cons_succ, i64_w, i32_w]
       rfl
      refine pure_ (i := 4) (N := some 23) (v := ?_) (a' := ?_) #[true, false, false, false, true, false, false, false, false, false] rfl rfl (by kernel_rfl) (fun _ _ _ h => h) (Or.inl ⟨by rfl, ?_⟩) ?_ ?_
      rotate_left
      ·
       intro w'
       go_simp
       with_reducible rfl
      rotate_left
      ·
       simp only [Act.put, List.setIfInBounds_toArray, List.set_cons_zero, List.set_cons_succ, i64_w, i32_w]
       rfl
      refine take_ (i := 1) (N := some 20) (v := ?_) (a' := ?_) #[true, true, false, false, true, false, false, false, false, false] rfl rfl (by kernel_rfl) (fun _ _ _ h => h) (Or.inl ⟨by rfl, ?_⟩) hHeld ?_ ?_
      rotate_left
      ·
       rintro w' ⟨s0, s1, s2, s3, s4⟩
       go_simp
       with_reducible rfl
      rotate_left
      ·
       simp only [Act.put, List.setIfInBounds_toArray, List.set_cons_zero, List.set_cons_succ, i64_w, i32_w]
       rfl
      refine take_ (i := 5) (N := some 24) (v := ?_) (a' := ?_) #[true, true, false, false, true, true, false, false, false, false] rfl rfl (by kernel_rfl) (fun _ _ _ h => h) (Or.inl ⟨by rfl, ?_⟩) hHeld ?_ ?_
      rotate_left
      ·
       rintro w' ⟨s0, s1, s2, s3, s4⟩
       go_simp
       with_reducible rfl
      rotate_left
      ·
       simp only [Act.put, List.setIfInBounds_toArray, List.set_cons_zero, List.set_cons_succ, i64_w, i32_w]
       rfl
      refine one_ (i := 2) (N := some 21) #[true, true, true, false, true, true, false, false, false, false] rfl rfl (by kernel_rfl) (by decide) (fun K hK => ?_)
      refine goes_ Tryd.func43 (by kernel_rfl) rfl #[.int .i64 ((rd_T39 l0 x).f0)] (by rfl) rfl rfl (by simp only [List.map_toArray, List.map_cons, List.map_nil]; rfl) ?_
      with_reducible refine (strconv_Itoa.calls _ _ _ hHeld.2.2.2.2 HTA.out).mono ?_
      rintro e w3 ⟨rfl, hb3⟩
      refine ⟨_, rfl, ?_⟩
      refine hK.out _ _ ⟨((hb3.cell (World.block_lt_of_cell? _ _ (hHeld.1))).trans (hHeld.1)), ((hb3.cell (World.block_lt_of_cell? _ _ (hHeld.2.1))).trans (hHeld.2.1)), bld_below (hHeld.2.2.1) hb3, below_step (hHeld.2.2.2.1) hb3, GI.below (hHeld.2.2.2.2) hb3⟩ (fun hHeld => ?_)
      clear hK K
      refine norm_ (a' := ?_) ?_ ?_
      rotate_left
      ·
       show Act.put _ (some 21) _ = _
       simp only [Act.put, List.setIfInBounds_toArray, List.set_cons_zero, List.set_cons_succ, i64_w, i32_w]
       rfl
      refine pure_ (i := 3) (N := some 22) (v := ?_) (a' := ?_) #[true, true, true, true, true, true, false, false, false, false] rfl rfl (by kernel_rfl) (fun _ _ _ h => h) (Or.inl ⟨by rfl, ?_⟩) ?_ ?_
      rotate_left
      ·
       intro w'
       go_simp
       with_reducible rfl
      rotate_left
      ·
       simp only [Act.put, List.setIfInBounds_toArray, List.set_cons_zero, List.set_cons_succ, i64_w, i32_w]
       rfl
      refine one_ (i := 6) (N := some 25) #[true, true, true, true, true, true, true, false, false, false] rfl rfl (by kernel_rfl) (by decide) (fun K hK => ?_)
      refine goes_ Tryd.func43 (by kernel_rfl) rfl #[.int .i64 ((rd_T39 l0 x).f1)] (by rfl) rfl rfl (by simp only [List.map_toArray, List.map_cons, List.map_nil]; rfl) ?_
      with_reducible refine (strconv_Itoa.calls _ _ _ hHeld.2.2.2.2 HTB.out).mono ?_
      rintro e w3 ⟨rfl, hb3⟩
      refine ⟨_, rfl, ?_⟩
      refine hK.out _ _ ⟨((hb3.cell (World.block_lt_of_cell? _ _ (hHeld.1))).trans (hHeld.1)), ((hb3.cell (World.block_lt_of_cell? _ _ (hHeld.2.1))).trans (hHeld.2.1)), bld_below (hHeld.2.2.1) hb3, below_step (hHeld.2.2.2.1) hb3, GI.below (hHeld.2.2.2.2) hb3⟩ (fun hHeld => ?_)
      clear hK K
      refine norm_ (a' := ?_) ?_ ?_
      rotate_left
      ·
       show Act.put _ (some 25) _ = _
       simp only [Act.put, List.setIfInBounds_toArray, List.set_cons_zero, List.set_cons_succ, i64_w, i32_w]
       rfl
      refine pure_ (i := 7) (N := some 26) (v := ?_) (a' := ?_) #[true, true, true, true, true, true, true, true, false, false] rfl rfl (by kernel_rfl) (fun _ _ _ h => h) (Or.inl ⟨by rfl, ?_⟩) ?_ ?_
      rotate_left
      ·
       intro w'
       go_simp
       with_reducible rfl
      rotate_left
      ·
       simp only [Act.put, List.setIfInBounds_toArray, List.set_cons_zero, List.set_cons_succ, i64_w, i32_w]
       rfl
      refine pure_ (i := 8) (N := some 27) (v := ?_) (a' := ?_) #[true, true, true, true, true, true, true, true, true, false] rfl rfl (by kernel_rfl) (fun _ _ _ h => h) (Or.inl ⟨by rfl, ?_⟩) ?_ ?_
      rotate_left
      ·
       intro w'
       go_simp
       with_reducible rfl
      rotate_left
      ·
       simp only [Act.put, List.setIfInBounds_toArray, List.set_cons_zero, List.set_cons_succ, i64_w, i32_w]
       rfl
      refine last_ (i := 9) (N := some 28) #[true, true, true, true, true, true, true, true, true, true] rfl rfl (by kernel_rfl) (by decide) (fun K hK => ?_)
      refine goes_ Tryd.func42 (by kernel_rfl) rfl #[.pointer (some ⟨w1.heap.size, 0, none⟩), .string (((ta ++ ⟨#[32]⟩) ++ tb) ++ ⟨#[10]⟩)] (by rfl) rfl rfl (by simp only [List.map_toArray, List.map_cons, List.map_nil]; rfl) ?_
      with_reducible refine (writeBytes _ _ _ _ _ (hHeld.2.2.1) HLEN.out).mono ?_
      rintro e w3 ⟨⟨n3, rfl⟩, hbu3, hb3, hk3⟩
      have HBu2 := Aside0.mk hbu3
      have HB2 := Aside0.mk (below_mine (hHeld.2.2.2.1) hb3 HW1.out)
      clear hbu3 hb3 hk3
      refine ⟨_, rfl, ?_⟩
      refine hK.out _ _ ?_
      clear hK K
      refine norm_ (a' := ?_) ?_ ?_
      rotate_left
      ·
       show Act.put _ (some 28) _ = _
       simp only [Act.put, List.setIfInBounds_toArray, List.set_cons_zero, List.set_cons_succ, i64_w, i32_w]
       rfl
      refine done_ (by kernel_rfl) ?_
      clear ha1 ha2 ha3
      go_wp2
      go_roundg k1
      case measure => have := HK1.out; omega
      case rel => exact ⟨wrap64 (x + 1), _, rfl, H', ⟨by have := HK1.out; omega⟩, HBu2, HB2⟩
     ·
      rw [if_neg c3] at H
      cases H
    ·
     rw [if_neg c2] at H
     have c2b : decide (x < (l0.length : Int)) = false := decide_eq_false c2
     clear c2
     obtain ⟨rfl, rfl⟩ := Prod.mk.inj (Option.some.inj H)
     go_wp2_with (go_at_call 44; refine (Tryd.Builder_String_any_k _ _ acc _ HBu.out (bld_size HBu.out)).mono ?_)
     intro e w9 he hq1 hb9 hq2
     subst he
     go_wp2
     go_ret2
     exact ⟨rfl, below_mine HB.out hb9 HW1.out⟩
def rod_number_1.f (a0 : Int) : Option (Bool) := if a0 ≥ 48 then (some (decide (a0 ≤ 57))) else (some false)
set_option maxHeartbeats 8000000 in
set_option maxRecDepth 100000 in
theorem rod_number_1.calls (a0 : Int) (r : Bool) (w : World) (h : rod_number_1.f a0 = some r) :
  Calls Tryd.prog 58 #[.int .u8 a0] w fun e w' => e = .returned (.bool r) ∧ Drawn0 w w' := by
 have H : (if a0 ≥ 48 then (some (decide (a0 ≤ 57))) else (some false)) = some r := h
 clear h
 by_cases c2 : a0 ≥ 48
 ·
  rw [if_pos c2] at H
  have c2b0 : decide (48 ≤ a0) = true := decide_eq_true c2
  clear c2
  obtain rfl := Option.some.inj H
  go_enter Tryd.func58, Tryd.ntmps58
  go_wp2
  go_ret
  exact ⟨by first | rfl | (simp; done) | (simp [*]; done), by repeat (first | exact Drawn0.refl _ | apply Drawn0.step)⟩
 ·
  rw [if_neg c2] at H
  have c2b0 : decide (48 ≤ a0) = false := decide_eq_false c2
  clear c2
  obtain rfl := Option.some.inj H
  go_enter Tryd.func58, Tryd.ntmps58
  go_wp2
  go_ret
  exact ⟨by first | rfl | (simp; done) | (simp [*]; done), by repeat (first | exact Drawn0.refl _ | apply Drawn0.step)⟩
mutual
def rod_number.j0 : Nat → ByteArray → Bool → Option (Int × Bool)
 | 0, _, _ => none
 | k + 1, x0, x24 => if x24 = true then (some (0, false)) else (rod_number.l0 k x0 0 (x0.size : Int) 0)
def rod_number.l0 : Nat → ByteArray → Int → Int → Int → Option (Int × Bool)
 | 0, _, _, _, _ => none
 | k + 1, x0, x5, x26, x27 => if x27 < x26 then (if 0 ≤ x27 then (if x27 < (x0.size : Int) then ((rod_number_1.f (bt x0 x27)).bind fun t168 => (if t168 = true then (rod_number.l0 k x0 (wrap64 ((wrap64 (10 * x5)) + (((bt x0 x27) - 48) % 256))) x26 (wrap64 (x27 + 1))) else (some (0, false)))) else (none)) else (none)) else (some (x5, true))
end
def rod_number.f (k : Nat) (a0 : ByteArray) : Option (Int × Bool) := if (a0.size : Int) < 1 then (rod_number.j0 k a0 true) else (if (a0.size : Int) > 10 then (rod_number.j0 k a0 true) else (if (a0.size : Int) > 1 then (if 0 < (a0.size : Int) then (rod_number.j0 k a0 ((bt a0 0) == 48)) else (none)) else (rod_number.j0 k a0 false)))
set_option maxHeartbeats 8000000 in
set_option maxRecDepth 100000 in
theorem rod_number.calls (k : Nat) (a0 : ByteArray) (r1 : Int) (r2 : Bool) (w : World) (h : rod_number.f k a0 = some (r1, r2)) :
  Calls Tryd.prog 47 #[.string a0] w fun e w' => e = .returned (.tuple #[.int .i64 r1, .bool r2]) ∧ Drawn0 w w' := by
 have H : (if (a0.size : Int) < 1 then (rod_number.j0 k a0 true) else (if (a0.size : Int) > 10 then (rod_number.j0 k a0 true) else (if (a0.size : Int) > 1 then (if 0 < (a0.size : Int) then (rod_number.j0 k a0 ((bt a0 0) == 48)) else (none)) else (rod_number.j0 k a0 false)))) = some (r1, r2) := h
 clear h
 have HC2 := Aside0.mk H
 clear H
 go_enter Tryd.func47, Tryd.ntmps47
 go_upto_region 2 with (fail)
 go_cut [24] (fun v24 wc => ∃ (kq : Nat) (x24_1 : Bool), v24 = .bool x24_1 ∧ Aside0 (rod_number.j0 kq a0 x24_1 = some (r1, r2)) ∧ Aside0 (kq ≤ k) ∧ Drawn0 w wc)
 case first =>
  have H := HC2.out
  clear HC2
  by_cases c3 : (a0.size : Int) < 1
  ·
   rw [if_pos c3] at H
   have c3b0 : decide ((a0.size : Int) < 1) = true := decide_eq_true c3
   have c3b1 : decide (a0.size < 1) = true := decide_eq_true (by omega)
   clear c3
   (first | rw [c3b0] | (simp only [i64_w, i32_w]; rw [c3b0]) | skip)
   have H' := Aside0.mk H
   clear H
   go_wp2
   go_meet
   case rel => exact ⟨_, (true), (by first | rfl | (simp; done) | (simp [*]; done)), H', ⟨by first | omega | exact Nat.le_refl _⟩, by repeat (first | exact Drawn0.refl _ | apply Drawn0.step)⟩
  ·
   rw [if_neg c3] at H
   have c3b0 : decide ((a0.size : Int) < 1) = false := decide_eq_false c3
   have c3b1 : decide (a0.size < 1) = false := decide_eq_false (by omega)
   clear c3
   (first | rw [c3b0] | (simp only [i64_w, i32_w]; rw [c3b0]) | skip)
   by_cases c4 : (a0.size : Int) > 10
   ·
    rw [if_pos c4] at H
    have c4b0 : decide (10 < (a0.size : Int)) = true := decide_eq_true c4
    have c4b1 : decide (10 < a0.size) = true := decide_eq_true (by omega)
    clear c4
    have H' := Aside0.mk H
    clear H
    go_wp2
    go_meet
    case rel => exact ⟨_, (true), (by first | rfl | (simp; done) | (simp [*]; done)), H', ⟨by first | omega | exact Nat.le_refl _⟩, by repeat (first | exact Drawn0.refl _ | apply Drawn0.step)⟩
   ·
    rw [if_neg c4] at H
    have c4b0 : decide (10 < (a0.size : Int)) = false := decide_eq_false c4
    have c4b1 : decide (10 < a0.size) = false := decide_eq_false (by omega)
    clear c4
    by_cases c5 : (a0.size : Int) > 1
    ·
     rw [if_pos c5] at H
     have c5b0 : decide (1 < (a0.size : Int)) = true := decide_eq_true c5
     have c5b1 : decide (1 < a0.size) = true := decide_eq_true (by omega)
     clear c5
     by_cases c6 : 0 < (a0.size : Int)
     ·
      rw [if_pos c6] at H
      have c6b0 : decide (0 < (a0.size : Int)) = true := decide_eq_true c6
      have c6b1 : decide (0 < a0.size) = true := decide_eq_true (by omega)
      clear c6
      have H' := Aside0.mk H
      clear H
      have p7 : 0 ≤ (0 : Int) := (by omega)
      have q7 : 0 < a0.size := (by have : (0 : Int) < (a0.size : Int) := of_decide_eq_true (by first | (with_reducible assumption) | assumption); omega)
      have hx7 : ∀ h : 0 < a0.size, ((a0[0]'h).toNat : Int) = bt a0 0 := bt_at a0 0
      clear p7
      have qi7 : (0 < (a0.size : Int)) = True := eq_true (of_decide_eq_true (by first | (with_reducible assumption) | assumption))
      replace q7 := eq_true q7
      go_wp2
      go_meet
      case rel => exact ⟨_, (((bt a0 0) == 48)), (by first | rfl | (simp; done) | (simp [*]; done)), H', ⟨by first | omega | exact Nat.le_refl _⟩, by repeat (first | exact Drawn0.refl _ | apply Drawn0.step)⟩
     ·
      rw [if_neg c6] at H
      exact absurd H (by simp)
    ·
     rw [if_neg c5] at H
     have c5b0 : decide (1 < (a0.size : Int)) = false := decide_eq_false c5
     have c5b1 : decide (1 < a0.size) = false := decide_eq_false (by omega)
     clear c5
     have H' := Aside0.mk H
     clear H
     go_wp2
     go_meet
     case rel => exact ⟨_, (false), (by first | rfl | (simp; done) | (simp [*]; done)), H', ⟨by first | omega | exact Nat.le_refl _⟩, by repeat (first | exact Drawn0.refl _ | apply Drawn0.step)⟩
 case rest =>
  clear HC2
  try clear p2
  try clear c3
  try clear c3b0
  try clear c3b1
  try clear c4
  try clear c4b0
  try clear c4b1
  try clear c5
  try clear c5b0
  try clear c5b1
  try clear c6
  try clear c6b0
  try clear c6b1
  try clear p7
  try clear q7
  try clear hx7
  try clear qi7
  try clear p7
  try clear q7
  obtain ⟨kq, x24_1, rfl, HA, HJ1, ⟨mc1, rfl⟩⟩ := hcut
  cases kq with
  | zero => exact absurd HA.out (by simp [rod_number.j0])
  | succ kj1 =>
   have H := HA.out
   clear HA
   simp only [rod_number.j0] at H
   by_cases c8 : x24_1 = true
   ·
    subst c8
    have H1 : (some (0, false)) = some (r1, r2) := by rw [if_pos rfl] at H; exact H
    clear H
    have H := H1
    clear H1
    simp only [Option.some.injEq, Prod.mk.injEq] at H
    obtain ⟨rfl, rfl⟩ := H
    go_wp2
    go_ret2
    exact ⟨by first | rfl | (simp; done) | (simp [*]; done), by repeat (first | exact Drawn0.refl _ | apply Drawn0.step)⟩
   ·
    replace c8 := Bool.eq_false_iff.mpr c8
    subst c8
    have H1 : (rod_number.l0 kj1 a0 0 (a0.size : Int) 0) = some (r1, r2) := by rw [if_neg (show ¬ (false = true) by decide)] at H; exact H
    clear H
    have H := H1
    clear H1
    have H' := Aside0.mk H
    clear H
    go_wp2
    go_loopg [5, 27] kj1 (fun kq v5 v27 w' => ∃ (x5_2 : Int) (x27_2 : Int), v5 = .int .i64 x5_2 ∧ v27 = .int .i64 x27_2 ∧ Aside0 (rod_number.l0 kq a0 x5_2 (a0.size : Int) x27_2 = some (r1, r2)) ∧ Aside0 (kq ≤ kj1) ∧ Drawn0 w w')
    case atStart => exact ⟨(0), (0), (by first | rfl | (simp; done) | (simp [*]; done)), (by first | rfl | (simp; done) | (simp [*]; done)), H', ⟨Nat.le_refl _⟩, by repeat (first | exact Drawn0.refl _ | apply Drawn0.step)⟩
    case round =>
     clear H'
     try clear c1
     try clear p2
     try clear c3
     try clear c3b0
     try clear c3b1
     try clear c4
     try clear c4b0
     try clear c4b1
     try clear c5
     try clear c5b0
     try clear c5b1
     try clear c6
     try clear c6b0
     try clear c6b1
     try clear p7
     try clear q7
     try clear hx7
     try clear qi7
     try clear c8
     try clear p2
     try clear p7
     try clear q7
     obtain ⟨x5_2, x27_2, rfl, rfl, HA, HK2, ⟨m2, rfl⟩⟩ := hrel
     cases gk with
     | zero => exact absurd HA.out (by simp [rod_number.l0])
     | succ k2 =>
      have H := HA.out
      clear HA
      simp only [rod_number.l0] at H
      by_cases c9 : x27_2 < (a0.size : Int)
      ·
       rw [if_pos c9] at H
       have c9b0 : decide (x27_2 < (a0.size : Int)) = true := decide_eq_true c9
       clear c9
       by_cases c10 : 0 ≤ x27_2
       ·
        rw [if_pos c10] at H
        have c10b0 : decide (0 ≤ x27_2) = true := decide_eq_true c10
        clear c10
        by_cases c11 : x27_2 < (a0.size : Int)
        ·
         rw [if_pos c11] at H
         have c11b0 : decide (x27_2 < (a0.size : Int)) = true := decide_eq_true c11
         clear c11
         replace H := Option.bind_eq_some_iff.mp H
         obtain ⟨t168, A130, H⟩ := H
         replace H : (if t168 = true then (rod_number.l0 k2 a0 (wrap64 ((wrap64 (10 * x5_2)) + (((bt a0 x27_2) - 48) % 256))) (a0.size : Int) (wrap64 (x27_2 + 1))) else (some (0, false))) = some (r1, r2) := H
         have A13 := Aside0.mk A130
         clear A130
         by_cases c14 : t168 = true
         ·
          subst c14
          have H1 : (rod_number.l0 k2 a0 (wrap64 ((wrap64 (10 * x5_2)) + (((bt a0 x27_2) - 48) % 256))) (a0.size : Int) (wrap64 (x27_2 + 1))) = some (r1, r2) := by rw [if_pos rfl] at H; exact H
          clear H
          have H := H1
          clear H1
          have H' := Aside0.mk H
          clear H
          have p12 : 0 ≤ (x27_2 : Int) := of_decide_eq_true (by first | (with_reducible assumption) | assumption)
          have q12 : x27_2 < (a0.size : Int) := of_decide_eq_true (by first | (with_reducible assumption) | assumption)
          have hx12 := bt_at a0 x27_2
          replace p12 := eq_true p12
          replace q12 := eq_true q12
          go_wp2_with (first | (go_at_call 58; (with_reducible refine (rod_number_1.calls (bt a0 x27_2) true _ A13.out).mono ?_); rintro e w' ⟨rfl, ⟨nd, rfl⟩⟩; have p15 : 0 ≤ (x27_2 : Int) := of_decide_eq_true (by first | (with_reducible assumption) | assumption); have q15 : x27_2 < (a0.size : Int) := of_decide_eq_true (by first | (with_reducible assumption) | assumption); have hx15 := bt_at a0 x27_2; replace p15 := eq_true p15; replace q15 := eq_true q15))
          go_roundg k2
          case measure => have := HJ1.out; have := HK2.out; omega
          case rel => exact ⟨(wrap64 ((wrap64 (10 * x5_2)) + (((bt a0 x27_2) - 48) % 256))), (wrap64 (x27_2 + 1)), (by first | rfl | (simp; done) | (simp [*]; done)), (by first | rfl | (simp; done) | (simp [*]; done)), H', ⟨by have := HJ1.out; have := HK2.out; omega⟩, by repeat (first | exact Drawn0.refl _ | apply Drawn0.step)⟩
         ·
          replace c14 := Bool.eq_false_iff.mpr c14
          subst c14
          have H1 : (some (0, false)) = some (r1, r2) := by rw [if_neg (show ¬ (false = true) by decide)] at H; exact H
          clear H
          have H := H1
          clear H1
          simp only [Option.some.injEq, Prod.mk.injEq] at H
          obtain ⟨rfl, rfl⟩ := H
          have p12 : 0 ≤ (x27_2 : Int) := of_decide_eq_true (by first | (with_reducible assumption) | assumption)
          have q12 : x27_2 < (a0.size : Int) := of_decide_eq_true (by first | (with_reducible assumption) | assumption)
          have hx12 := bt_at a0 x27_2
          replace p12 := eq_true p12
          replace q12 := eq_true q12
          go_wp2_with (first | (go_at_call 58; (with_reducible refine (rod_number_1.calls (bt a0 x27_2) false _ A13.out).mono ?_); rintro e w' ⟨rfl, ⟨nd, rfl⟩⟩))
          go_ret2
          exact ⟨by first | rfl | (simp; done) | (simp [*]; done), by repeat (first | exact Drawn0.refl _ | apply Drawn0.step)⟩
        ·
         rw [if_neg c11] at H
         exact absurd H (by simp)
       ·
        rw [if_neg c10] at H
        exact absurd H (by simp)
      ·
       rw [if_neg c9] at H
       have c9b0 : decide (x27_2 < (a0.size : Int)) = false := decide_eq_false c9
       clear c9
       simp only [Option.some.injEq, Prod.mk.injEq] at H
       obtain ⟨rfl, rfl⟩ := H
       go_wp2
       go_ret2
       exact ⟨by first | rfl | (simp; done) | (simp [*]; done), by repeat (first | exact Drawn0.refl _ | apply Drawn0.step)⟩
def rod_Parse.line (k : Nat) (x : ByteArray × Bool) : Option (Option S39) := (strings_Cut.f x.1 ⟨#[32]⟩).bind fun c => (rod_number.f k c.1).bind fun h => (rod_number.f k c.2.1).bind fun v =>
 if x.2 = true ∧ h.2 = true ∧ v.2 = true then some (some ⟨h.1, v.1⟩) else some none
def rod_Parse.rows (k : Nat) : List (ByteArray × Bool) → List S39 → Option (List S39 × Int × Int)
 | [], acc => (rod_Check.f k acc).bind fun c => if c = 0 then some (acc, 0, 0) else some ([], 0, c)
 | x :: r, acc => if acc.length < 4294967296 then (rod_Parse.line k x).bind fun y => match y with
  | none => some ([], (acc.length : Int) + 1, 3)
  | some g => rod_Parse.rows k r (acc ++ [g]) else none
def rod_Parse.f (k : Nat) (a0 : ByteArray) : Option (List S39 × Int × Int) := if (a0.size : Int) > 4096 then some ([], 0, 8) else rod_Parse.rows k (lns a0) []
def flat39 (l : List S39) : List Value := l.flatMap fun x => [Value.int .i64 x.f0, Value.int .i64 x.f1]
theorem flat39_len (l : List S39) : (flat39 l).length = l.length * 2 := by
 induction l with
 | nil => rfl
 | cons x r ih => show (_ :: _ :: flat39 r).length = _; simp only [List.length_cons, ih]; omega
theorem flat39_get (ys : List S39) : ∀ (j : Nat) (p : S39), ys[j]? = some p → ((flat39 ys).drop (j * 2)).take 2 = [.int .i64 p.f0, .int .i64 p.f1] := by
 induction ys with
 | nil => intro j p hp; simp at hp
 | cons y r ih =>
  intro j p hp
  cases j with
  | zero => obtain rfl := Option.some.inj hp; rfl
  | succ j =>
   have := ih j p (by simpa using hp)
   rw [show (j + 1) * 2 = j * 2 + 1 + 1 from by omega]
   exact this
theorem own_R39 {w : World} {base : Nat} {v : Value} {xs : List S39} (h : w.ownsRow base 39 2 v xs.length (flat39 xs)) : Kd.R k39 39 w base (fun _ => True) v xs :=
 ⟨fun _ _ => trivial, flat39 xs, h, flat39_len xs, fun j p hp => by
  have e := flat39_get xs j p hp
  show k39.M _ _ _ p (((flat39 xs).drop (j * 2)).take 2)
  rw [e]
  exact k39_mkM _ _ _ p⟩
section
attribute [local go_sem] Oper.semAt_some
/-- What stands between two rounds. -/
def rod_Parse.I (k : Nat) (a0 : ByteArray) (r : List S39 × Int × Int) (w : World) (pre : List (ByteArray × Bool)) (W : World) : Prop :=
 ∃ (acc : List S39) (v : Value) (rest : List (ByteArray × Bool)), lns a0 = pre ++ rest ∧ rod_Parse.rows k rest acc = some r ∧ Boxed W (w.heap.size + 3) 22 v ∧ Boxed W (w.heap.size + 4) 3 (.int .i64 (acc.length : Int)) ∧ W.ownsRow (w.heap.size + 6) 39 2 v acc.length (flat39 acc) ∧
  (Boxed W w.heap.size 22 (.slice none 0 0) ∧ Boxed W (w.heap.size + 1) 3 (.int .i64 0) ∧ Boxed W (w.heap.size + 2) 27 (.int .i64 0)) ∧ Below w.heap.size w W ∧ w.heap.size + 6 ≤ W.heap.size
def rod_Parse.Ix (r : List S39 × Int × Int) (w : World) (pre : List (ByteArray × Bool)) (W : World) : Prop :=
 r.1 = [] ∧ (Boxed W w.heap.size 22 (.slice none 0 0) ∧ Boxed W (w.heap.size + 1) 3 (.int .i64 r.2.1) ∧ Boxed W (w.heap.size + 2) 27 (.int .i64 r.2.2)) ∧ Below w.heap.size w W
theorem box_turn {W W' : World} {row : Option Nat} {bt B k : Nat} {t : TypeId} {v : Value} (h : Boxed W k t v) (hg : W.grownBy W' row) (hr : ∀ r, row = some r → r = bt ∨ (B ≤ r ∧ ∃ o : Obj, W.heap[r]? = some o ∧ o.isCells = false)) (h1 : k ≠ bt) (h2 : k < B) : Boxed W' k t v :=
 h.kept hg (fun e => by rcases hr k e.symm with h3 | h3 <;> omega)
theorem own_turn {W W' : World} {row : Option Nat} {bt B : Nat} {v : Value} {n : Nat} {xs : List Value} (h : W.ownsRow B 39 2 v n xs) (hg : W.grownBy W' row) (hr : ∀ r, row = some r → r = bt ∨ (B ≤ r ∧ ∃ o : Obj, W.heap[r]? = some o ∧ o.isCells = false)) (h1 : bt < B) : W'.ownsRow B 39 2 v n xs := by
 refine own_other h hg ?_
 rcases h.2 with ⟨rfl, _⟩ | ⟨g, cap, cur, rfl, hb, hh, _⟩
 ·
  exact .inl rfl
 ·
  refine .inr fun e => ?_
  rcases hr g e.symm with h3 | ⟨_, o, ho, hc⟩
  ·
   omega
  ·
   rw [hh] at ho; cases ho; cases hc
theorem box_facts {W w1 : World} {b : Nat} {t : TypeId} {v : Value} (h : Boxed W b t v) (hb : Below W.heap.size W w1) : w1.cell? ⟨b, 0, none⟩ = some v ∧ w1.frozen? ⟨b, 0, none⟩ = false :=
 have k : Boxed w1 b t v := (hb.block b h.lt).trans h
 ⟨k.cell, k.frozen⟩
theorem rod_Parse.failed {w W w1 : World} {B : Nat} (n : Int) (xs : List (ByteArray × Bool)) (hB : Below w.heap.size w W) (hb1 : Below W.heap.size W w1) (hBw : w.heap.size + 6 ≤ B)
  (y0 : Boxed W w.heap.size 22 (.slice none 0 0)) (y1 : Boxed W (w.heap.size + 1) 3 (.int .i64 0)) (y2 : Boxed W (w.heap.size + 2) 27 (.int .i64 0)) :
  KeepsFrom B W ((((w1.setCell ⟨w.heap.size, 0, none⟩ (.slice none 0 0)).setCell ⟨w.heap.size + 1, 0, none⟩ (.int .i64 n)).setCell ⟨w.heap.size + 1 + 1, 0, none⟩ (.int .i64 3)).drew) ∧
  rod_Parse.Ix ([], n, 3) w xs ((((w1.setCell ⟨w.heap.size, 0, none⟩ (.slice none 0 0)).setCell ⟨w.heap.size + 1, 0, none⟩ (.int .i64 n)).setCell ⟨w.heap.size + 1 + 1, 0, none⟩ (.int .i64 3)).drew) := by
 have b0 : Boxed w1 w.heap.size 22 (.slice none 0 0) := (hb1.block _ y0.lt).trans y0
 have b1 : Boxed w1 (w.heap.size + 1) 3 (.int .i64 0) := (hb1.block _ y1.lt).trans y1
 have b2 : Boxed w1 (w.heap.size + 2) 27 (.int .i64 0) := (hb1.block _ y2.lt).trans y2
 refine ⟨⟨?_, fun k o hk ho hc => ?_⟩, rfl, ⟨?_, ?_, ?_⟩, ?_⟩
 ·
  have := hb1.size
  simpa using this
 ·
  have h1 := (hb1.block k (Array.getElem?_eq_some_iff.1 ho).1).trans ho
  refine (Below.heap_setCell _ _ _ k (by show k ≠ w.heap.size + 1 + 1; omega)).trans ((Below.heap_setCell _ _ _ k (by show k ≠ w.heap.size + 1; omega)).trans ((Below.heap_setCell _ _ _ k (by show k ≠ w.heap.size; omega)).trans h1))
 ·
  exact ((b0.set (.slice none 0 0)).other (by omega) _).other (by omega) _
 ·
  exact ((b1.other (by omega) _).set (.int .i64 n)).other (by omega) _
 ·
  exact ((b2.other (by omega) _).other (by omega) _).set (.int .i64 3)
 ·
  exact ((((below_step hB hb1).setCell (p := ⟨w.heap.size, 0, none⟩) (Nat.le_refl _) _).setCell (p := ⟨w.heap.size + 1, 0, none⟩) (by show w.heap.size ≤ w.heap.size + 1; omega) _).setCell (p := ⟨w.heap.size + 1 + 1, 0, none⟩) (by show w.heap.size ≤ w.heap.size + 1 + 1; omega) _).drew
theorem flat39_snoc (acc : List S39) (g : S39) : flat39 (acc ++ [g]) = flat39 acc ++ [.int .i64 g.f0, .int .i64 g.f1] := by simp [flat39]
theorem box_grown {W w3 w4 : World} {tmp : Obj} {base b : Nat} {t : TypeId} {u v : Value} {n : Nat} {xs : List Value} (h : Boxed W b t u) (h3 : Below W.heap.size W w3) (ht : t ≠ 39) (ho : w3.ownsRow base 39 2 v n xs) (hg : (w3.alloc tmp).grownBy w4 v.ownBlock) : Boxed w4 b t u :=
 have k : Boxed w3 b t u := (h3.block b h.lt).trans h
 (k.alloc tmp).kept hg (k.not_row ht ho)
theorem rod_Parse.went {k : Nat} {a0 : ByteArray} {r : List S39 × Int × Int} {w W w3 w4 : World} {B : Nat} {acc : List S39} {v v' : Value} {g : S39} {pre more : List (ByteArray × Bool)} {x : ByteArray × Bool} {tmp : Obj}
  (hl : lns a0 = (pre ++ [x]) ++ more) (hq : rod_Parse.rows k more (acc ++ [g]) = some r) (hB : Below w.heap.size w W) (h3 : Below W.heap.size W w3)
  (hv : Boxed W (w.heap.size + 3) 22 v) (ho : W.ownsRow (w.heap.size + 6) 39 2 v acc.length (flat39 acc)) (hbt : w.heap.size + 5 < W.heap.size) (y4 : Boxed W (w.heap.size + 4) 3 (.int .i64 ((acc.length : Int) + 1)))
  (y0 : Boxed W w.heap.size 22 (.slice none 0 0)) (y1 : Boxed W (w.heap.size + 1) 3 (.int .i64 0)) (y2 : Boxed W (w.heap.size + 2) 27 (.int .i64 0))
  (hown' : w4.ownsRow (w.heap.size + 6) 39 2 v' (acc.length + 1) (flat39 acc ++ [.int .i64 g.f0, .int .i64 g.f1])) (hgrow : (w3.alloc tmp).grownBy w4 v.ownBlock) :
  KeepsFrom B W (w4.setCell ⟨w.heap.size + 3, 0, none⟩ v') ∧ (w4.setCell ⟨w.heap.size + 3, 0, none⟩ v').heap[w.heap.size + 5]? = W.heap[w.heap.size + 5]? ∧ rod_Parse.I k a0 r w (pre ++ [x]) (w4.setCell ⟨w.heap.size + 3, 0, none⟩ v') := by
 have ho3 : w3.ownsRow (w.heap.size + 6) 39 2 v acc.length (flat39 acc) := pw_own_below ho h3
 have hv3 : Boxed w3 (w.heap.size + 3) 22 v := (h3.block _ hv.lt).trans hv
 have hw3 : Below w.heap.size w w3 := below_step hB h3
 obtain ⟨hv4, hv5, _, hk, hb⟩ := hv3.appended (n₀ := w.heap.size) (by decide) (own_weaken ho3 (by omega)) hw3.size (by omega) (own_weaken hown' (by omega)) hgrow
 have hr5 : (w4.setCell ⟨w.heap.size + 3, 0, none⟩ v').ownsRow (w.heap.size + 6) 39 2 v' (acc.length + 1) (flat39 acc ++ [.int .i64 g.f0, .int .i64 g.f1]) := hown'.kept (grownBy_setCell' w4 _ v') (.inr (hv4.not_row (by decide) hown').symm)
 refine ⟨KeepsFrom.trans ⟨h3.size, fun i o _ hi _ => (h3.block i (Array.getElem?_eq_some_iff.1 hi).1).trans hi⟩ (hk.from B), ?_, acc ++ [g], v', more, hl, hq, hv5, ?_, ?_, ⟨?_, ?_, ?_⟩, hw3.trans hb, ?_⟩
 ·
  refine (Below.heap_setCell _ _ _ _ (by show w.heap.size + 5 ≠ w.heap.size + 3; omega)).trans ?_
  have h4 : w.heap.size + 5 < w3.heap.size := Nat.lt_of_lt_of_le hbt h3.size
  refine (hgrow.block _ (by rw [World.size_alloc]; omega) (fun e => ?_)).trans ((Below.heap_alloc w3 tmp _ h4).trans (h3.block _ hbt))
  have := own_base ho3 _ e.symm
  omega
 ·
  have e : ((acc ++ [g]).length : Int) = (acc.length : Int) + 1 := by simp
  rw [e]
  exact (box_grown y4 h3 (by decide) ho3 hgrow).other (by omega) _
 ·
  rw [flat39_snoc, List.length_append]; exact hr5
 ·
  exact (box_grown y0 h3 (by decide) ho3 hgrow).other (by omega) _
 ·
  exact (box_grown y1 h3 (by decide) ho3 hgrow).other (by omega) _
 ·
  exact (box_grown y2 h3 (by decide) ho3 hgrow).other (by omega) _
 ·
  have e1 := h3.size
  have e2 := hk.size
  omega
theorem two_cells (w : World) (a b : Value) (t : TypeId) : ∀ (j : Nat) (u : Value), [a, b][j]? = some u → (w.alloc (.cells #[a, b] t)).cell? ((⟨w.heap.size, 0, none⟩ : Addr).add j) = some u := by
 intro j u hj
 rw [Addr.add_lit, Nat.zero_add, World.cell?_alloc_at (w := w) _ _ w.heap.size j rfl]
 simpa using hj
theorem results_boxes {W : World} {tmps : Array Value} {g1 g2 g3 : Nat} {v1 v2 v3 : Value} (h1 : tmps.getD 2 undef = .pointer (some ⟨g1, 0, none⟩)) (h2 : tmps.getD 3 undef = .pointer (some ⟨g2, 0, none⟩)) (h3 : tmps.getD 4 undef = .pointer (some ⟨g3, 0, none⟩))
  (b1 : Boxed W g1 22 v1) (b2 : Boxed W g2 3 v2) (b3 : Boxed W g3 27 v3) : (results Tryd.f25 tmps).run Tryd.prog W = .ok (.tuple #[v1, v2, v3]) W := by
 have a22 : ∀ W : World, (isAgg 22).run Tryd.prog W = .ok false W := fun W => by kernel_rfl
 have a3 : ∀ W : World, (isAgg 3).run Tryd.prog W = .ok false W := fun W => by kernel_rfl
 have a27 : ∀ W : World, (isAgg 27).run Tryd.prog W = .ok false W := fun W => by kernel_rfl
 have c1 := b1.cell
 have c2 := b2.cell
 have c3 := b3.cell
 have h1' : tmps[2]?.getD undef = .pointer (some ⟨g1, 0, none⟩) := by simpa using h1
 have h2' : tmps[3]?.getD undef = .pointer (some ⟨g2, 0, none⟩) := by simpa using h2
 have h3' : tmps[4]?.getD undef = .pointer (some ⟨g3, 0, none⟩) := by simpa using h3
 unfold results
 rw [show Tryd.f25.results = [ResultVar.cell 2 22, ResultVar.cell 3 3, ResultVar.cell 4 27].toArray from rfl, List.mapM_toArray]
 simp only [Sem.run_bind, Sem.run_map]
 simp [List.mapM_cons, h1', h2', h3', asAddr, loadVar, a22, a3, a27, c1, c2, c3]
theorem rod_Parse.leave {n : Nat} {w W : World} {D : Nat} {v1 : Value} {r2 r3 : Int} {tmps : Array Value} {xs : List S39} (hK : W.heap[D]? = some (.deferred (some []))) (hD : w.heap.size + 6 ≤ D)
  (y0 : Boxed W w.heap.size 22 v1) (y1 : Boxed W (w.heap.size + 1) 3 (.int .i64 r2)) (y2 : Boxed W (w.heap.size + 2) 27 (.int .i64 r3)) (hB : Below w.heap.size w W) (hrow : W.ownsRow (w.heap.size + 6) 39 2 v1 xs.length (flat39 xs))
  (t2 : tmps.getD 2 undef = .pointer (some ⟨w.heap.size, 0, none⟩)) (t3 : tmps.getD 3 undef = .pointer (some ⟨w.heap.size + 1, 0, none⟩)) (t4 : tmps.getD 4 undef = .pointer (some ⟨w.heap.size + 1 + 1, 0, none⟩)) :
  LeavesInM Fence.wide n Tryd.prog Tryd.f25 tmps (fun e w' => ∃ v0_, e = .returned (.tuple #[v0_, .int .i64 r2, .int .i64 r3]) ∧ Kd.R k39 39 w' w.heap.size (fun _ => True) v0_ xs ∧ Below w.heap.size w w') [{ target := .collected D, args := #[] }] .returning W := by
 have hg := grownBy_putObj' W D (.deferred none)
 have ne : ∀ b, b < w.heap.size + 6 → some b ≠ some D := fun b hb e => by have := Option.some.inj e; omega
 refine ⟨by simp, .inl ⟨_, _, rfl, run_takeDeferred hK, ⟨_, results_boxes t2 t3 t4 (y0.kept hg (ne _ (by omega))) (y1.kept hg (ne _ (by omega))) (y2.kept hg (ne _ (by omega))), v1, rfl, own_R39 (own_weaken (ownsRow_putObj hrow _ hK rfl) (by omega)), ?_⟩⟩⟩
 exact hB.grown hg hB.size (fun k e => by cases e; omega)
theorem rod_Parse.stored {w W W1 : World} {D : Nat} {u1 u2 u3 : Value} (v1 v2 v3 : Value) {n : Nat} {xs : List Value} (hK : W.heap[D]? = some (.deferred (some []))) (h1 : Below W.heap.size W W1) (hD : w.heap.size + 6 ≤ D)
  (y0 : Boxed W w.heap.size 22 u1) (y1 : Boxed W (w.heap.size + 1) 3 u2) (y2 : Boxed W (w.heap.size + 2) 27 u3) (hB : Below w.heap.size w W) (hrow : W.ownsRow (w.heap.size + 6) 39 2 v1 n xs) :
  (((W1.setCell ⟨w.heap.size, 0, none⟩ v1).setCell ⟨w.heap.size + 1, 0, none⟩ v2).setCell ⟨w.heap.size + 1 + 1, 0, none⟩ v3).heap[D]? = some (.deferred (some [])) ∧
  Boxed (((W1.setCell ⟨w.heap.size, 0, none⟩ v1).setCell ⟨w.heap.size + 1, 0, none⟩ v2).setCell ⟨w.heap.size + 1 + 1, 0, none⟩ v3) w.heap.size 22 v1 ∧
  Boxed (((W1.setCell ⟨w.heap.size, 0, none⟩ v1).setCell ⟨w.heap.size + 1, 0, none⟩ v2).setCell ⟨w.heap.size + 1 + 1, 0, none⟩ v3) (w.heap.size + 1) 3 v2 ∧
  Boxed (((W1.setCell ⟨w.heap.size, 0, none⟩ v1).setCell ⟨w.heap.size + 1, 0, none⟩ v2).setCell ⟨w.heap.size + 1 + 1, 0, none⟩ v3) (w.heap.size + 2) 27 v3 ∧
  Below w.heap.size w (((W1.setCell ⟨w.heap.size, 0, none⟩ v1).setCell ⟨w.heap.size + 1, 0, none⟩ v2).setCell ⟨w.heap.size + 1 + 1, 0, none⟩ v3) ∧
  (((W1.setCell ⟨w.heap.size, 0, none⟩ v1).setCell ⟨w.heap.size + 1, 0, none⟩ v2).setCell ⟨w.heap.size + 1 + 1, 0, none⟩ v3).ownsRow (w.heap.size + 6) 39 2 v1 n xs := by
 have b0 : Boxed W1 w.heap.size 22 u1 := (h1.block _ y0.lt).trans y0
 have b1 : Boxed W1 (w.heap.size + 1) 3 u2 := (h1.block _ y1.lt).trans y1
 have b2 : Boxed W1 (w.heap.size + 2) 27 u3 := (h1.block _ y2.lt).trans y2
 have ho1 := pw_own_below hrow h1
 have no : ∀ b, b < w.heap.size + 6 → some b ≠ v1.ownBlock := fun b hb e => by have := own_base ho1 b e.symm; omega
 refine ⟨?_, ?_, ?_, ?_, ?_, ?_⟩
 ·
  have hd := (h1.block _ (Array.getElem?_eq_some_iff.1 hK).1).trans hK
  exact (Below.heap_setCell _ _ _ _ (by show D ≠ w.heap.size + 1 + 1; omega)).trans ((Below.heap_setCell _ _ _ _ (by show D ≠ w.heap.size + 1; omega)).trans ((Below.heap_setCell _ _ _ _ (by show D ≠ w.heap.size; omega)).trans hd))
 ·
  exact ((b0.set v1).other (by omega) _).other (by omega) _
 ·
  exact ((b1.other (by omega) _).set v2).other (by omega) _
 ·
  exact ((b2.other (by omega) _).other (by omega) _).set v3
 ·
  exact (((below_step hB h1).setCell (p := ⟨w.heap.size, 0, none⟩) (Nat.le_refl _) _).setCell (p := ⟨w.heap.size + 1, 0, none⟩) (by show w.heap.size ≤ w.heap.size + 1; omega) _).setCell (p := ⟨w.heap.size + 1 + 1, 0, none⟩) (by show w.heap.size ≤ w.heap.size + 1 + 1; omega) _
 ·
  exact own_setCell (own_setCell (own_setCell ho1 (no _ (by show w.heap.size < _; omega)) _) (no _ (by show w.heap.size + 1 < _; omega)) _) (no _ (by show w.heap.size + 1 + 1 < _; omega)) _
theorem keeps_set {W : World} {B b : Nat} {t : TypeId} {u : Value} (h : Boxed W b t u) (v : Value) : KeepsFrom B W (W.setCell ⟨b, 0, none⟩ v) := by
 refine ⟨by simp, fun k o hk ho hc => ?_⟩
 by_cases e : k = b
 ·
  subst e
  have h2 : W.heap[k]? = some (.cells #[u] t (0, 0)) := h
  rw [h2] at ho
  cases ho
  cases hc
 ·
  exact (Below.heap_setCell _ _ _ k e).trans ho
set_option maxHeartbeats 8000000 in
set_option maxRecDepth 100000 in
theorem rod_Parse.calls (k : Nat) (a0 : ByteArray) (r1 : List (S39)) (r2 : Int) (r3 : Int) (w : World) (hG : GI w) (h : rod_Parse.f k a0 = some (r1, r2, r3)) :
  Calls Tryd.prog 25 #[.string a0] w fun e w' => ∃ v0_ : Value, e = .returned (.tuple #[v0_, .int .i64 r2, .int .i64 r3]) ∧ Kd.R k39 39 w' w.heap.size (fun _ => True) v0_ r1 ∧ Below w.heap.size w w' := by
 have hu22 := Tryd.underlying22
 unfold rod_Parse.f at h
 refine (callsIn_wide (n := 5)).1 ?_
 refine callsIn_of_wp_marks Tryd.func25 rfl trivial ?_ rfl
 simp only [Tryd.ntmps25, List.size_toArray, List.length_cons, List.length_nil, Nat.reduceAdd, Nat.reduceSub, Array.replicate_succ, Array.replicate_zero, List.push_toArray, List.append_toArray, List.nil_append, List.cons_append]
 by_cases hbig : (a0.size : Int) > 4096
 ·
  rw [if_pos hbig] at h
  cases h
  gi_wp2
  refine ⟨_, results_boxes (g1 := w.heap.size) (g2 := w.heap.size + 1) (g3 := w.heap.size + 1 + 1) rfl rfl rfl (((Boxed.new w 22 _).alloc _).alloc _) ?_ ?_, ⟨_, rfl, Kd.R_nil _ _ _ _ _, ?_⟩⟩
  ·
   have := (Boxed.new (w.alloc (.cells #[.slice none 0 0] 22)) 3 (.int .i64 0)).alloc (.cells #[.int .i64 8] 27)
   rwa [World.size_alloc] at this
  ·
   have := Boxed.new ((w.alloc (.cells #[.slice none 0 0] 22)).alloc (.cells #[.int .i64 0] 3)) 27 (.int .i64 8)
   rwa [World.size_alloc, World.size_alloc] at this
  ·
   exact below_alloc (below_alloc (below_alloc (Below.refl _ _) _) _) _
 ·
  rw [if_neg hbig] at h
  obtain ⟨W0, hW0⟩ : ∃ W0, W0 = (((((w.alloc (.cells #[.slice none 0 0] 22)).alloc (.cells #[.int .i64 0] 3)).alloc (.cells #[.int .i64 0] 27)).alloc (.cells #[.slice none 0 0] 22)).alloc (.cells #[.int .i64 0] 3)).alloc (.cells #[.string a0] 9) := ⟨_, rfl⟩
  have hsz : W0.heap.size = w.heap.size + 6 := by rw [hW0]; simp [World.size_alloc]
  have hB0 : Below w.heap.size w W0 := by rw [hW0]; exact below_alloc (below_alloc (below_alloc (below_alloc (below_alloc (below_alloc (Below.refl _ _) _) _) _) _) _) _
  have x0 : Boxed W0 w.heap.size 22 (.slice none 0 0) := by rw [hW0]; exact (((((Boxed.new w 22 _).alloc _).alloc _).alloc _).alloc _).alloc _
  have x1 : Boxed W0 (w.heap.size + 1) 3 (.int .i64 0) := by
   rw [hW0]
   have := ((((Boxed.new (w.alloc (.cells #[.slice none 0 0] 22)) 3 (.int .i64 0)).alloc (.cells #[.int .i64 0] 27)).alloc (.cells #[.slice none 0 0] 22)).alloc (.cells #[.int .i64 0] 3)).alloc (.cells #[.string a0] 9)
   simpa only [World.size_alloc] using this
  have x2 : Boxed W0 (w.heap.size + 2) 27 (.int .i64 0) := by
   rw [hW0]
   have := (((Boxed.new ((w.alloc (.cells #[.slice none 0 0] 22)).alloc (.cells #[.int .i64 0] 3)) 27 (.int .i64 0)).alloc (.cells #[.slice none 0 0] 22)).alloc (.cells #[.int .i64 0] 3)).alloc (.cells #[.string a0] 9)
   simpa only [World.size_alloc] using this
  have x3 : Boxed W0 (w.heap.size + 3) 22 (.slice none 0 0) := by
   rw [hW0]
   have := ((Boxed.new (((w.alloc (.cells #[.slice none 0 0] 22)).alloc (.cells #[.int .i64 0] 3)).alloc (.cells #[.int .i64 0] 27)) 22 (.slice none 0 0)).alloc (.cells #[.int .i64 0] 3)).alloc (.cells #[.string a0] 9)
   simpa only [World.size_alloc] using this
  have x4 : Boxed W0 (w.heap.size + 4) 3 (.int .i64 0) := by
   rw [hW0]
   have := (Boxed.new ((((w.alloc (.cells #[.slice none 0 0] 22)).alloc (.cells #[.int .i64 0] 3)).alloc (.cells #[.int .i64 0] 27)).alloc (.cells #[.slice none 0 0] 22)) 3 (.int .i64 0)).alloc (.cells #[.string a0] 9)
   simpa only [World.size_alloc] using this
  have x5 : Boxed W0 (w.heap.size + 5) 9 (.string a0) := by
   rw [hW0]
   have := Boxed.new (((((w.alloc (.cells #[.slice none 0 0] 22)).alloc (.cells #[.int .i64 0] 3)).alloc (.cells #[.int .i64 0] 27)).alloc (.cells #[.slice none 0 0] 22)).alloc (.cells #[.int .i64 0] 3)) 9 (.string a0)
   simpa only [World.size_alloc] using this
  gi_wp2_with (refine ⟨trivial, ?_⟩; gi_at_call 45; refine (lines_calls a0 _).mono ?_; rintro e w' ⟨rfl, rfl⟩)
  have hseq := lines_box (w.heap.size + 5) a0 (by omega) W0 x5
  try simp only [World.size_alloc]
  rw [← hW0]
  refine wpIn_rangeFunc_box (F := Fence.wide) (n := 5) (b := w.heap.size + 5) rfl (by decide) (gf := 56) (lb := #[.pointer (some ⟨w.heap.size + 5, 0, none⟩)]) rfl trivial (enters_of Tryd.func56 (by kernel_rfl) rfl) hseq (by omega) (Below.refl _ _) (fun _ => rfl)
   (rod_Parse.I k a0 (r1, r2, r3) w) (rod_Parse.Ix (r1, r2, r3) w) ?hIG ?hI ?hIx ?h0
   (fun x => { tmps := #[.string a0, undef, .pointer (some ⟨w.heap.size, 0, none⟩), .pointer (some ⟨w.heap.size + 1, 0, none⟩), .pointer (some ⟨w.heap.size + 1 + 1, 0, none⟩), .pointer (some ⟨w.heap.size + 1 + 1 + 1, 0, none⟩), .pointer (some ⟨w.heap.size + 1 + 1 + 1 + 1, 0, none⟩), .string x.1, .bool x.2, undef, undef, undef, undef, undef, undef, undef, undef, .string a0, .int .i64 (a0.size : Int), .bool false, .string a0, .func (.func 56) #[] #[.pointer (some ⟨w.heap.size + 1 + 1 + 1 + 1 + 1, 0, none⟩)], .string x.1, .bool x.2, undef, undef, undef, undef, undef, undef, undef, undef, undef, undef, undef, undef, undef, undef, undef, undef, undef, undef, undef, undef, undef, undef, undef, undef, undef, undef, undef, undef, undef, undef, undef, undef, undef, undef, undef, undef, undef, undef, undef, undef, undef], defers := [] }) ?assign ?body ?done ?stop
  case hIG =>
   rintro pre W ⟨_, _, _, _, _, _, _, _, _, hB, _⟩
   exact GI.below hG hB
  case hI =>
   rintro s W W' row ⟨acc, v, rest, q1, q2, hv, hn, ho, ⟨y0, y1, y2⟩, hB, hW5⟩ hg hr
   rw [hsz] at hr
   exact ⟨acc, v, rest, q1, q2, box_turn hv hg hr (by omega) (by omega), box_turn hn hg hr (by omega) (by omega), own_turn ho hg hr (by omega), ⟨box_turn y0 hg hr (by omega) (by omega), box_turn y1 hg hr (by omega) (by omega), box_turn y2 hg hr (by omega) (by omega)⟩, hB.grown hg hB.size (fun k e => by rcases hr k e with q | q <;> omega), Nat.le_trans hW5 hg.size⟩
  case hIx =>
   rintro s W W' row ⟨q1, ⟨y0, y1, y2⟩, hB⟩ hg hr
   rw [hsz] at hr
   exact ⟨q1, ⟨box_turn y0 hg hr (by omega) (by omega), box_turn y1 hg hr (by omega) (by omega), box_turn y2 hg hr (by omega) (by omega)⟩, hB.grown hg hB.size (fun k e => by rcases hr k e with q | q <;> omega)⟩
  case h0 => exact ⟨[], _, lns a0, rfl, h, x3, x4, World.ownsRow_nil _ _ _ _, ⟨x0, x1, x2⟩, hB0, by omega⟩
  case assign =>
   intro l x W K hK
   dsimp only [lencs]
   gi_wp2
   exact hK
  case body =>
   rintro l pre x W2 ⟨acc, v, rest, q1, q2, hv2, hn2, ho2, ⟨z0, z1, z2⟩, hB2, hW52⟩ hpre
   obtain ⟨more, hmore⟩ := hpre
   have hrest : rest = x :: more := by
    rw [← hmore, List.append_assoc] at q1
    exact (List.append_cancel_left q1).symm
   subst hrest
   unfold rod_Parse.rows at q2
   by_cases hacc : acc.length < 4294967296
   case neg => rw [if_neg hacc] at q2; cases q2
   rw [if_pos hacc] at q2
   replace q2 := Option.bind_eq_some_iff.mp q2
   obtain ⟨y, hy, q2⟩ := q2
   unfold rod_Parse.line at hy
   replace hy := Option.bind_eq_some_iff.mp hy
   obtain ⟨⟨ca, cb, cc⟩, hcut, hy⟩ := hy
   replace hy := Option.bind_eq_some_iff.mp hy
   obtain ⟨⟨n1, o1⟩, hn1, hy⟩ := hy
   replace hy := Option.bind_eq_some_iff.mp hy
   obtain ⟨⟨n3, o3⟩, hn3, hy⟩ := hy
   dsimp only at hn1 hn3 hy
   obtain ⟨Av, cv, rfl⟩ := own_slice ho2
   have hGW2 := GI.below hG hB2
   have mixed : Tryd.prog.follows Departure.mixedOrders = true := by kernel_rfl
   have hinc : wrap64 ((acc.length : Int) + 1) = (acc.length : Int) + 1 := by unfold wrap64; omega
   have hc := hn2.cell
   have hf := hn2.frozen
   obtain ⟨W, hW⟩ : ∃ W, W = W2.setCell ⟨w.heap.size + 1 + 1 + 1 + 1, 0, none⟩ (.int .i64 ((acc.length : Int) + 1)) := ⟨_, rfl⟩
   have ne2 : ∀ b, b < w.heap.size + 6 → some b ≠ (Value.slice Av acc.length cv).ownBlock := fun b hb e => by have := own_base ho2 b e.symm; omega
   have hv : Boxed W (w.heap.size + 3) 22 (.slice Av acc.length cv) := by rw [hW]; exact hv2.other (by omega) _
   have hn : Boxed W (w.heap.size + 4) 3 (.int .i64 ((acc.length : Int) + 1)) := by rw [hW]; exact hn2.set _
   have y0 : Boxed W w.heap.size 22 (.slice none 0 0) := by rw [hW]; exact z0.other (by omega) _
   have y1 : Boxed W (w.heap.size + 1) 3 (.int .i64 0) := by rw [hW]; exact z1.other (by omega) _
   have y2 : Boxed W (w.heap.size + 2) 27 (.int .i64 0) := by rw [hW]; exact z2.other (by omega) _
   have ho : W.ownsRow (w.heap.size + 6) 39 2 (.slice Av acc.length cv) acc.length (flat39 acc) := by rw [hW]; exact own_setCell ho2 (ne2 _ (by show w.heap.size + 1 + 1 + 1 + 1 < _; omega)) _
   have hB : Below w.heap.size w W := by rw [hW]; exact hB2.setCell (p := ⟨w.heap.size + 1 + 1 + 1 + 1, 0, none⟩) (by show w.heap.size ≤ w.heap.size + 1 + 1 + 1 + 1; omega) _
   have hW5 : w.heap.size + 6 ≤ W.heap.size := by rw [hW]; simpa using hW52
   have hKW : KeepsFrom W0.heap.size W2 W := by rw [hW]; exact keeps_set hn2 _
   have hbx : W.heap[w.heap.size + 5]? = W2.heap[w.heap.size + 5]? := by rw [hW]; exact Below.heap_setCell _ _ _ _ (by show w.heap.size + 5 ≠ w.heap.size + 1 + 1 + 1 + 1; omega)
   have hGW := GI.below hG hB
   obtain ⟨xs, xb⟩ := x
   dsimp only at hcut hy ⊢
   by_cases hgood : xb = true ∧ o1 = true ∧ o3 = true
   case neg =>
    rw [if_neg hgood] at hy
    cases hy
    cases q2
    have hwhich : xb = false ∨ (xb = true ∧ o1 = false) ∨ (xb = true ∧ o1 = true ∧ o3 = false) := by
     cases xb <;> cases o1 <;> cases o3 <;> simp_all
    rcases hwhich with rfl | ⟨rfl, rfl⟩ | ⟨rfl, rfl, rfl⟩
    all_goals
     gi_wp2_with (first | (refine ⟨trivial, ?_⟩; gi_at_call 46; (try simp only [hinc]); rw [← hW]; refine (CallsIn.inRound l (callsIn_wide.2 (strings_Cut.calls xs ⟨#[32]⟩ ca cb cc W hGW hcut))).mono ?_; rintro e w1 ⟨rfl, hb1⟩) | (refine ⟨trivial, ?_⟩; gi_at_call 47; refine (CallsIn.inRound l (callsIn_wide.2 (rod_number.calls k ca n1 _ w1 hn1))).mono ?_; rintro e w2 ⟨rfl, hd2⟩; have hb2 := hd2.below; clear hn1) | (refine ⟨trivial, ?_⟩; gi_at_call 47; refine (CallsIn.inRound l (callsIn_wide.2 (rod_number.calls k cb n3 _ w2 hn3))).mono ?_; rintro e w3 ⟨rfl, hd3⟩; have hb3 := hd3.below; have hb13 := below_step (below_step hb1 hb2) hb3; have zn : w3.cell? ⟨w.heap.size + 1 + 1 + 1 + 1, 0, none⟩ = some (.int .i64 ((acc.length : Int) + 1)) := (box_facts hn hb13).1; have z0 : w3.cell? ⟨w.heap.size, 0, none⟩ = some (.slice none 0 0) := (box_facts y0 hb13).1; have z1 : w3.cell? ⟨w.heap.size + 1, 0, none⟩ = some (.int .i64 0) := (box_facts y1 hb13).1; have z2 : w3.cell? ⟨w.heap.size + 1 + 1, 0, none⟩ = some (.int .i64 0) := (box_facts y2 hb13).1; have z3 : w3.cell? ⟨w.heap.size + 1 + 1 + 1, 0, none⟩ = some (.slice Av acc.length cv) := (box_facts hv hb13).1; have g0 : w3.frozen? ⟨w.heap.size, 0, none⟩ = false := (box_facts y0 hb13).2; have g1 : w3.frozen? ⟨w.heap.size + 1, 0, none⟩ = false := (box_facts y1 hb13).2; have g2 : w3.frozen? ⟨w.heap.size + 1 + 1, 0, none⟩ = false := (box_facts y2 hb13).2))
     gi_region_o
     all_goals gi_wp2
     all_goals exact ⟨hKW.trans (rod_Parse.failed (B := W0.heap.size) ((acc.length : Int) + 1) [] hB hb13 (by omega) y0 y1 y2).1, (rod_Parse.failed (B := W0.heap.size) ((acc.length : Int) + 1) _ hB hb13 (by omega) y0 y1 y2).2⟩
   case pos =>
    rw [if_pos hgood] at hy
    cases hy
    obtain ⟨rfl, rfl, rfl⟩ := hgood
    obtain ⟨i0, hi0, hz0, hzs, hzb⟩ := info_parts info39
    gi_wp2_with (first | (refine ⟨trivial, ?_⟩; gi_at_call 46; (try simp only [hinc]); rw [← hW]; refine (CallsIn.inRound l (callsIn_wide.2 (strings_Cut.calls xs ⟨#[32]⟩ ca cb cc W hGW hcut))).mono ?_; rintro e w1 ⟨rfl, hb1⟩) | (refine ⟨trivial, ?_⟩; gi_at_call 47; refine (CallsIn.inRound l (callsIn_wide.2 (rod_number.calls k ca n1 _ w1 hn1))).mono ?_; rintro e w2 ⟨rfl, hd2⟩; have hb2 := hd2.below; clear hn1) | (refine ⟨trivial, ?_⟩; gi_at_call 47; refine (CallsIn.inRound l (callsIn_wide.2 (rod_number.calls k cb n3 _ w2 hn3))).mono ?_; rintro e w3 ⟨rfl, hd3⟩; have hb3 := hd3.below; have hb13 := below_step (below_step hb1 hb2) hb3; have zn : w3.cell? ⟨w.heap.size + 1 + 1 + 1 + 1, 0, none⟩ = some (.int .i64 ((acc.length : Int) + 1)) := (box_facts hn hb13).1; have z0 : w3.cell? ⟨w.heap.size, 0, none⟩ = some (.slice none 0 0) := (box_facts y0 hb13).1; have z1 : w3.cell? ⟨w.heap.size + 1, 0, none⟩ = some (.int .i64 0) := (box_facts y1 hb13).1; have z2 : w3.cell? ⟨w.heap.size + 1 + 1, 0, none⟩ = some (.int .i64 0) := (box_facts y2 hb13).1; have z3 : w3.cell? ⟨w.heap.size + 1 + 1 + 1, 0, none⟩ = some (.slice Av acc.length cv) := (box_facts hv hb13).1; have g0 : w3.frozen? ⟨w.heap.size, 0, none⟩ = false := (box_facts y0 hb13).2; have g1 : w3.frozen? ⟨w.heap.size + 1, 0, none⟩ = false := (box_facts y1 hb13).2; have g2 : w3.frozen? ⟨w.heap.size + 1 + 1, 0, none⟩ = false := (box_facts y2 hb13).2) | (gi_at_builtin; refine wpListIn_append_own _ rfl _ _ 22 rfl (w.heap.size + 6) 39 i0 (.agg #[(.int .i64 0), (.int .i64 0)]) 2 16 Tryd.underlying22 hi0 hz0 hzs hzb rfl (by decide) _ _ _ rfl (own_alloc (pw_own_below ho hb13) _) ⟨w3.heap.size, 0, none⟩ 1 1 [.int .i64 n1, .int .i64 n3] rfl rfl (two_cells _ _ _ _) (by simp [Value.oneCell']) (by unfold maxLen; omega) (by omega) (by have := hb13.size; rw [World.size_alloc]; omega) ?_; intro v' w4 hown' hgrow _; obtain ⟨g', cap', rfl⟩ := ownsRow_succ hown'; have hc4 : w4.cell? ⟨w.heap.size + 1 + 1 + 1, 0, none⟩ = some (.slice Av acc.length cv) := (box_grown hv hb13 (by decide) (pw_own_below ho hb13) hgrow).cell; have hf4 : w4.frozen? ⟨w.heap.size + 1 + 1 + 1, 0, none⟩ = false := (box_grown hv hb13 (by decide) (pw_own_below ho hb13) hgrow).frozen))
    have hwent := rod_Parse.went (B := W0.heap.size) (a0 := a0) (pre := pre) (x := (xs, true)) (by rw [q1, List.append_assoc]; rfl) q2 hB hb13 hv ho (by omega) hn y0 y1 y2 hown' hgrow
    exact ⟨hKW.trans hwent.1, hwent.2.1.trans hbx, hwent.2.2⟩
  case done =>
   rintro W ⟨acc, v, rest, q1, q2, hv, hn, ho, ⟨y0, y1, y2⟩, hB, hW5⟩ hD
   have hrest : rest = [] := by simpa using q1
   subst hrest
   unfold rod_Parse.rows at q2
   replace q2 := Option.bind_eq_some_iff.mp q2
   obtain ⟨d2, hck, q2⟩ := q2
   obtain ⟨Av, cv, hse, hle, hC⟩ := Kd.R_reads (own_R39 ho)
   subst hse
   have hc : W.cell? ⟨w.heap.size + 1 + 1 + 1, 0, none⟩ = some (.slice Av acc.length cv) := hv.cell
   have hDs : w.heap.size + 6 ≤ W0.heap.size := by omega
   by_cases hd : d2 = 0
   ·
    rw [if_pos hd] at q2
    cases q2
    subst hd
    gi_wp2_with (refine ⟨trivial, ?_⟩; gi_at_call 21; refine (callsIn_wide.2 (rod_Check.calls k Av cv r1 0 W hC hle hck)).mono ?_; rintro e w1 ⟨rfl, hb1⟩; have z0 : w1.cell? ⟨w.heap.size, 0, none⟩ = some (.slice none 0 0) := (box_facts y0 hb1).1; have z1 : w1.cell? ⟨w.heap.size + 1, 0, none⟩ = some (.int .i64 0) := (box_facts y1 hb1).1; have z2 : w1.cell? ⟨w.heap.size + 1 + 1, 0, none⟩ = some (.int .i64 0) := (box_facts y2 hb1).1; have z3 : w1.cell? ⟨w.heap.size + 1 + 1 + 1, 0, none⟩ = some (.slice Av r1.length cv) := (box_facts hv hb1).1; have g0 : w1.frozen? ⟨w.heap.size, 0, none⟩ = false := (box_facts y0 hb1).2; have g1 : w1.frozen? ⟨w.heap.size + 1, 0, none⟩ = false := (box_facts y1 hb1).2; have g2 : w1.frozen? ⟨w.heap.size + 1 + 1, 0, none⟩ = false := (box_facts y2 hb1).2)
    have hDD : W0.heap.size = w.heap.size + 1 + 1 + 1 + 1 + 1 + 1 := by omega
    rw [hDD] at hD hDs
    obtain ⟨hK, b0, b1, b2, hB', hrow⟩ := rod_Parse.stored (.slice Av r1.length cv) (.int .i64 0) (.int .i64 0) hD hb1 hDs y0 y1 y2 hB ho
    exact rod_Parse.leave hK hDs b0 b1 b2 hB' hrow rfl rfl rfl
   ·
    rw [if_neg hd] at q2
    cases q2
    have hdd : ¬ (r3 = 0) := hd
    gi_wp2_with (refine ⟨trivial, ?_⟩; gi_at_call 21; refine (callsIn_wide.2 (rod_Check.calls k Av cv acc r3 W hC hle hck)).mono ?_; rintro e w1 ⟨rfl, hb1⟩; have z0 : w1.cell? ⟨w.heap.size, 0, none⟩ = some (.slice none 0 0) := (box_facts y0 hb1).1; have z1 : w1.cell? ⟨w.heap.size + 1, 0, none⟩ = some (.int .i64 0) := (box_facts y1 hb1).1; have z2 : w1.cell? ⟨w.heap.size + 1 + 1, 0, none⟩ = some (.int .i64 0) := (box_facts y2 hb1).1; have z3 : w1.cell? ⟨w.heap.size + 1 + 1 + 1, 0, none⟩ = some (.slice Av acc.length cv) := (box_facts hv hb1).1; have g0 : w1.frozen? ⟨w.heap.size, 0, none⟩ = false := (box_facts y0 hb1).2; have g1 : w1.frozen? ⟨w.heap.size + 1, 0, none⟩ = false := (box_facts y1 hb1).2; have g2 : w1.frozen? ⟨w.heap.size + 1 + 1, 0, none⟩ = false := (box_facts y2 hb1).2)
    have hDD : W0.heap.size = w.heap.size + 1 + 1 + 1 + 1 + 1 + 1 := by omega
    rw [hDD] at hD hDs
    obtain ⟨hK, b0, b1, b2, hB', hrow⟩ := rod_Parse.stored (.slice none 0 0) (.int .i64 0) (.int .i64 r3) hD hb1 hDs y0 y1 y2 hB (World.ownsRow_nil _ _ _ _ : W.ownsRow (w.heap.size + 6) 39 2 (.slice none 0 0) 0 [])
    exact rod_Parse.leave (xs := []) hK hDs b0 b1 b2 hB' hrow rfl rfl rfl
  case stop =>
   rintro pre W _ ⟨hr1, ⟨y0, y1, y2⟩, hB⟩ hD
   dsimp only at hr1 y1 y2
   subst hr1
   gi_wp2
   exact rod_Parse.leave hD (by omega) y0 y1 y2 hB (World.ownsRow_nil _ _ _ _) rfl rfl rfl
end
end Go.Proofs.YtkolhpacpbhceaaDoor.Pr
namespace Go.Proofs.YtkolhpacpbhceaaDoor.Pr
open Go.RowKit Go.Proofs.YtkolhpacpbhceaaDoorW.PrintWords Go.Proofs.YtkolhpacpbhceaaDoorW.PrintLast Go.Proofs.YtkolhpacpbhceaaDoorW.PrintMore Go.Proofs.YtkolhpacpbhceaaDoor.X
attribute [local go_sem] max2_int min2_int max_two min_two max_three min_three max_four min_four   -- for this text's walks alone
set_option linter.unusedVariables false
set_option linter.unusedSimpArgs false
def spilelaw14_Steps.f  : Option ((List (S39)) × Int) := some ((([(⟨0, 0⟩ : S39), (⟨10, 100⟩ : S39), (⟨20, 100⟩ : S39)] : List (S39))), 0)
set_option maxHeartbeats 8000000 in
set_option maxRecDepth 100000 in
theorem spilelaw14_Steps.calls  (r1 : List (S39)) (r2 : Int) (w : World) (h : spilelaw14_Steps.f  = some (r1, r2)) :
  Calls Tryd.prog 30 #[] w fun e w' => ∃ v0_ : Value, e = .returned (.agg #[v0_, .int .i64 r2]) ∧ Kd.R k39 39 w' w.heap.size (fun _ => True) v0_ r1 ∧ Below w.heap.size w w' := by
 have hu24 := Tryd.underlying24
 have hu39 := Tryd.underlying39
 have HB := Aside0.mk (Below.refl w.heap.size w)
 have H : (some ((([(⟨0, 0⟩ : S39), (⟨10, 100⟩ : S39), (⟨20, 100⟩ : S39)] : List (S39))), 0)) = some (r1, r2) := h
 clear h
 obtain ⟨y170, hy170⟩ : ∃ y_ : List (S39), y_ = (([(⟨0, 0⟩ : S39), (⟨10, 100⟩ : S39), (⟨20, 100⟩ : S39)] : List (S39))) := ⟨_, rfl⟩
 replace H : (some (y170, 0)) = some (r1, r2) := by first | (rw [hy170]; with_reducible exact H) | (have H2_ := (Option.bind_some _ _).symm.trans H; rw [hy170]; with_reducible exact H2_) | (have H2_ := (Option.bind_some _ _).symm.trans H; with_reducible exact H2_) | with_reducible exact H | (rw [hy170]; exact H) | exact H
 have Ny170 := Aside0.mk hy170
 clear hy170
 simp only [Option.some.injEq, Prod.mk.injEq] at H
 obtain ⟨rfl, rfl⟩ := H
 go_enter Tryd.func30, Tryd.ntmps30
 go_wp2_with (first | ((with_reducible refine gate_dst (N := 0) rfl ?_); refine box_event ?hg (N := 0) ?hd (cs := #[.slice none 0 0, .int .i64 0]) (t := 24) ?hr ?_; (case hd => rfl); (case hg => rfl); (case hr => first | (go_simp; done) | (go_simp; rfl)); intro gb169 hg w1 hbox hb; have n0_ := Aside0.mk (below_step (by repeat (first | (with_reducible first | exact HB.out | apply below_alloc | apply pw_below_drewN | apply below_drew1) | exact HB.out)) hb); have n1_ := Aside0.mk (hbox); have n2_ := Aside0.mk ((by rw [hg]; exact (below_size (by repeat (first | (with_reducible first | exact HB.out | apply below_alloc | apply pw_below_drewN | apply below_drew1) | exact HB.out))) : w.heap.size ≤ gb169)); have n3_ := Aside0.mk ((by rw [hg]; exact (below_size (by repeat (first | (with_reducible first | exact HB.out | apply below_alloc | apply pw_below_drewN | apply below_drew1) | exact HB.out))) : w.heap.size ≤ gb169)); clear HB; have HB := n0_; have BK169 := n1_; have GW169 := n2_; have GE169 := n3_; clear n0_ n1_ n2_ n3_; clear hb hbox hg) | ((with_reducible refine gate_dst (N := 4) rfl ?_); refine Kd.R_lit k39 _ 39 ?hg (N := 4) ?hd (xs := ([(⟨0, 0⟩ : S39), (⟨10, 100⟩ : S39), (⟨20, 100⟩ : S39)] : List (S39))) (inner := [.int .i64 0, .int .i64 0, .int .i64 10, .int .i64 100, .int .i64 20, .int .i64 100]) (ok := fun _ => True) (okp := fun _ => True) ?hr ?hp (fun _ hk => hk) trivial (Below.refl _ _) (Nat.le_refl _) (by simp) ?_; (case hd => rfl); (case hg => rfl); (case hr => first | (go_simp; done) | (go_simp; rfl)); (case hp => exact (Reps.c2 (show Kd.M k39 _ _ _ (⟨0, 0⟩ : S39) [.int .i64 0, .int .i64 0] from (k39_mkM _ _ _ (⟨0, 0⟩ : S39) )) (Reps.c2 (show Kd.M k39 _ _ _ (⟨10, 100⟩ : S39) [.int .i64 10, .int .i64 100] from (k39_mkM _ _ _ (⟨10, 100⟩ : S39) )) (Reps.c2 (show Kd.M k39 _ _ _ (⟨20, 100⟩ : S39) [.int .i64 20, .int .i64 100] from (k39_mkM _ _ _ (⟨20, 100⟩ : S39) )) (Reps.none _ _))))); intro v171 w2 ho3 hb hg_ hnew_; clear hg_ hnew_; (first | rw [← Ny170.out] at ho3 | (simp only [Int.reduceToNat] at ho3; rw [← Ny170.out] at ho3)); have n0_ := Aside0.mk (Kd.R_lower ho3 (below_size (by repeat (first | (with_reducible first | exact HB.out | apply below_alloc | apply pw_below_drewN | apply below_drew1 | refine below_set ?_ GE169.out) | exact HB.out)))); have n1_ := Aside0.mk (blk_below (g := gb169) (o := .cells #[.slice none 0 0, .int .i64 0] 24 (0, 0)) (by (with_reducible repeat (first | refine blk_drewN ?_ _ | refine blk_drew ?_ | refine blk_alloc ?_ _)); exact BK169.out) hb); have n2_ := Aside0.mk (below_step (by repeat (first | (with_reducible first | exact HB.out | apply below_alloc | apply pw_below_drewN | apply below_drew1 | refine below_set ?_ GE169.out) | exact HB.out)) hb); clear BK169; clear HB; have HO172 := n0_; have BK169 := n1_; have HB := n2_; clear n0_ n1_ n2_; clear hb ho3; obtain ⟨Ao4, co4, eo4⟩ := Kd.R_slice HO172.out; subst eo4; have hcz5_0 : w2.cell? ⟨gb169, 0, none⟩ = some (.slice none 0 0) := (blk_cell BK169.out 0).trans rfl; have hcz5_1 : w2.cell? ⟨gb169, 1, none⟩ = some (.int .i64 0) := (blk_cell BK169.out 1).trans rfl; have hfz5_0 := blk_frozen BK169.out 0; have hfz5_1 := blk_frozen BK169.out 1))
 refine bodyPost_ret (results_cell_row rfl _ _ gb169 24 #[.slice Ao4 y170.length co4, .int .i64 0] (0, 0) _ rfl (by (with_reducible repeat (first | refine blk_drewN ?_ _ | refine blk_drew ?_ | refine blk_alloc ?_ _)); refine blk_put (cs := #[.slice Ao4 y170.length co4, .int .i64 0]) ?_ 1 _ rfl; (with_reducible repeat (first | refine blk_drewN ?_ _ | refine blk_drew ?_ | refine blk_alloc ?_ _)); refine blk_put (cs := #[.slice none 0 0, .int .i64 0]) ?_ 0 _ rfl; (with_reducible repeat (first | refine blk_drewN ?_ _ | refine blk_drew ?_ | refine blk_alloc ?_ _)); exact BK169.out) Tryd.underlying24 rfl (by kernel_rfl)) rfl ?_
 exact ⟨_, by first | rfl | (simp [errW_none, errW_some] <;> rfl) | (simp [*, errW_none, errW_some] <;> rfl), by (with_reducible repeat (first | apply Kd.R_alloc | apply Kd.R_drewN | apply Kd.R_drew)); exact Kd.R_mono (Kd.R_far (p := ⟨gb169, 1, none⟩) (Kd.R_far (p := ⟨gb169, 0, none⟩) (Kd.R_types HO172.out BK169.out (by decide)) (fun _ hk => hk.2) (.slice Ao4 y170.length co4)) (fun _ hk => hk.2) (.int .i64 0)) (fun _ hk => trivial), by repeat (first | (with_reducible first | exact HB.out | apply below_alloc | apply pw_below_drewN | apply below_drew1 | refine below_set ?_ GE169.out) | exact HB.out)⟩
def spilelaw14_awake.f  : Option (Bool) := some true
set_option maxHeartbeats 8000000 in
set_option maxRecDepth 100000 in
theorem spilelaw14_awake.calls  (r : Bool) (w : World) (hG : GI w) (h : spilelaw14_awake.f  = some r) :
  Calls Tryd.prog 10 #[] w fun e w' => e = .returned (.bool r) ∧ Below w.heap.size w w' := by
 have hu34 := Tryd.underlying34
 have hu39 := Tryd.underlying39
 have HG := Aside0.mk hG
 clear hG
 have HB := Aside0.mk (Below.refl w.heap.size w)
 have H : (some true) = some r := h
 clear h
 have A1 := Aside0.mk (show (spilelaw14_Steps.f) = some ([(⟨0, 0⟩ : S39), (⟨10, 100⟩ : S39), (⟨20, 100⟩ : S39)], 0) from by kernel_rfl)
 have A2 := Aside0.mk (show (rod_Make.f 400 [(⟨0, 0⟩ : S39), (⟨10, 100⟩ : S39), (⟨20, 100⟩ : S39)] 0 30) = some ([(⟨3, 30⟩ : S39), (⟨6, 60⟩ : S39), (⟨9, 90⟩ : S39)], 0) from by kernel_rfl)
 have A3 := Aside0.mk (show (rod_Reading.f 400 [(⟨3, 30⟩ : S39), (⟨6, 60⟩ : S39), (⟨9, 90⟩ : S39)] 7) = some (60, 89, 0) from by kernel_rfl)
 have A4 := Aside0.mk (show (rod_Reading.f 400 [(⟨3, 30⟩ : S39), (⟨6, 60⟩ : S39), (⟨9, 90⟩ : S39)] 2) = some (0, 29, 0) from by kernel_rfl)
 have A5 := Aside0.mk (show (rod_Reading.f 400 [(⟨3, 30⟩ : S39), (⟨6, 60⟩ : S39), (⟨9, 90⟩ : S39)] 9) = some (90, 90, 0) from by kernel_rfl)
 have A6 := Aside0.mk (show (spilelaw14_Steps.f) = some ([(⟨0, 0⟩ : S39), (⟨10, 100⟩ : S39), (⟨20, 100⟩ : S39)], 0) from by kernel_rfl)
 have A7 := Aside0.mk (show (rod_Compare.f 400 [(⟨3, 30⟩ : S39), (⟨6, 60⟩ : S39), (⟨9, 90⟩ : S39)] [(⟨0, 0⟩ : S39), (⟨10, 100⟩ : S39), (⟨20, 100⟩ : S39)] 0 0) = some ((-1), 0) from by kernel_rfl)
 have A8 := Aside0.mk (show (rod_Print.f 400 [(⟨3, 30⟩ : S39), (⟨6, 60⟩ : S39), (⟨9, 90⟩ : S39)]) = some ((⟨#[51, 32, 51, 48, 10, 54, 32, 54, 48, 10, 57, 32, 57, 48, 10]⟩ : ByteArray), 0) from by kernel_rfl)
 have A9 := Aside0.mk (show (rod_Parse.f 400 (⟨#[51, 32, 51, 48, 10, 54, 32, 54, 48, 10, 57, 32, 57, 48, 10]⟩ : ByteArray)) = some ([(⟨3, 30⟩ : S39), (⟨6, 60⟩ : S39), (⟨9, 90⟩ : S39)], 0, 0) from by kernel_rfl)
 obtain ⟨y184, hy184⟩ : ∃ y_ : List (S39), y_ = (([(⟨3, 30⟩ : S39), (⟨6, 60⟩ : S39), (⟨9, 90⟩ : S39)] : List (S39))) := ⟨_, rfl⟩
 have Ny184 := Aside0.mk hy184
 clear hy184
 have A10 := Aside0.mk (show (spileref14_Same.f 400 [(⟨3, 30⟩ : S39), (⟨6, 60⟩ : S39), (⟨9, 90⟩ : S39)] y184) = some true from by (try rw [Ny184.out]); kernel_rfl)
 have A11 := Aside0.mk (show (spileref14_Same.f 400 [(⟨3, 30⟩ : S39), (⟨6, 60⟩ : S39), (⟨9, 90⟩ : S39)] [(⟨3, 30⟩ : S39), (⟨6, 60⟩ : S39), (⟨9, 90⟩ : S39)]) = some true from by kernel_rfl)
 have A12 := Aside0.mk (show (rod_Check.f 400 [(⟨3, 30⟩ : S39), (⟨6, 60⟩ : S39), (⟨9, 90⟩ : S39)]) = some 0 from by kernel_rfl)
 obtain rfl := Option.some.inj H
 go_enter Tryd.func10, Tryd.ntmps10
 try simp only [List.append_eq, List.cons_append, List.nil_append]
 go_wp2_with (first | ((with_reducible refine gate_callee (f := 30) rfl ?_); refine goesL_ (some 17) rfl rfl Tryd.func30 (by kernel_rfl) rfl #[] rfl (by (try simp only [List.map_toArray, List.map_cons, List.map_nil]); first | done | rfl | (simp only [List.length_drop, List.length_take]; rfl)) ?_; (with_reducible refine (spilelaw14_Steps.calls  [(⟨0, 0⟩ : S39), (⟨10, 100⟩ : S39), (⟨20, 100⟩ : S39)] 0 _ A1.out).mono ?_); rintro e w13 ⟨v173, rfl, ho0, hb⟩; refine ⟨_, rfl, ?_⟩; have n0_ := Aside0.mk (Kd.R_lower ho0 (below_size (by repeat (first | (with_reducible first | exact HB.out | apply below_alloc | apply pw_below_drewN | apply below_drew1) | exact HB.out)))); have n1_ := Aside0.mk (below_step (by repeat (first | (with_reducible first | exact HB.out | apply below_alloc | apply pw_below_drewN | apply below_drew1) | exact HB.out)) hb); clear HB; have HO174 := n0_; have HB := n1_; clear n0_ n1_; (try clear hb); (try clear hb2); (try clear hk); (try clear hi); (try clear ho0); obtain ⟨Ao14, co14, eo14⟩ := Kd.R_slice HO174.out; subst eo14) | ((with_reducible refine gate_callee (f := 12) rfl ?_); refine goesL_ (some 18) rfl rfl Tryd.func12 (by kernel_rfl) rfl #[.agg #[.slice Ao14 [(⟨0, 0⟩ : S39), (⟨10, 100⟩ : S39), (⟨20, 100⟩ : S39)].length co14, .int .i64 0], .int .i64 30] rfl (by (try simp only [List.map_toArray, List.map_cons, List.map_nil]); first | done | rfl | (simp only [List.length_drop, List.length_take]; rfl)) ?_; (with_reducible refine (rod_Make.calls 400 _ _ [(⟨0, 0⟩ : S39), (⟨10, 100⟩ : S39), (⟨20, 100⟩ : S39)] 0 30 [(⟨3, 30⟩ : S39), (⟨6, 60⟩ : S39), (⟨9, 90⟩ : S39)] 0 _ ?side1 ?side2 A2.out).mono ?_); (case side1 => repeat (first | exact (Kd.R_reads' HO174.out).2.2 | (with_reducible refine Kd.C_alloc ?_ _) | (with_reducible refine Kd.C_drewN ?_ _) | (with_reducible refine Kd.C_drew ?_))); (case side2 => exact (Kd.R_reads' HO174.out).2.1); rintro e w15 ⟨v175, rfl, ho0, hb⟩; refine ⟨_, rfl, ?_⟩; have n0_ := Aside0.mk (Kd.R_elder' (by (with_reducible repeat (first | apply Kd.R_alloc | apply Kd.R_drewN | apply Kd.R_drew)); exact HO174.out) (Kd.R_base ho0) hb); have n1_ := Aside0.mk (Kd.R_lower (Kd.R_new' ho0 (Kd.R_lt (by (with_reducible repeat (first | apply Kd.R_alloc | apply Kd.R_drewN | apply Kd.R_drew)); exact HO174.out))) (below_size (by repeat (first | (with_reducible first | exact HB.out | apply below_alloc | apply pw_below_drewN | apply below_drew1) | exact HB.out)))); have n2_ := Aside0.mk (below_step (by repeat (first | (with_reducible first | exact HB.out | apply below_alloc | apply pw_below_drewN | apply below_drew1) | exact HB.out)) hb); clear HO174; clear HB; have HO174 := n0_; have HO176 := n1_; have HB := n2_; clear n0_ n1_ n2_; (try clear hb); (try clear hb2); (try clear hk); (try clear hi); (try clear ho0); obtain ⟨Ao16, co16, eo16⟩ := Kd.R_slice HO176.out; subst eo16) | ((with_reducible refine gate_callee (f := 16) rfl ?_); refine goesL_ (some 23) rfl rfl Tryd.func16 (by kernel_rfl) rfl #[.slice Ao16 [(⟨3, 30⟩ : S39), (⟨6, 60⟩ : S39), (⟨9, 90⟩ : S39)].length co16, .int .i64 7] rfl (by (try simp only [List.map_toArray, List.map_cons, List.map_nil]); first | done | rfl | (simp only [List.length_drop, List.length_take]; rfl)) ?_; (with_reducible refine (rod_Reading.calls 400 _ _ [(⟨3, 30⟩ : S39), (⟨6, 60⟩ : S39), (⟨9, 90⟩ : S39)] 7 60 89 0 _ ?side1 ?side2 A3.out).mono ?_); (case side1 => repeat (first | exact (Kd.R_reads' HO176.out).2.2 | (with_reducible refine Kd.C_alloc ?_ _) | (with_reducible refine Kd.C_drewN ?_ _) | (with_reducible refine Kd.C_drew ?_))); (case side2 => exact (Kd.R_reads' HO176.out).2.1); rintro e w17 ⟨rfl, hb⟩; refine ⟨_, rfl, ?_⟩; have n0_ := Aside0.mk (Kd.R_below (by (with_reducible repeat (first | apply Kd.R_alloc | apply Kd.R_drewN | apply Kd.R_drew)); exact HO174.out) hb); have n1_ := Aside0.mk (Kd.R_below (by (with_reducible repeat (first | apply Kd.R_alloc | apply Kd.R_drewN | apply Kd.R_drew)); exact HO176.out) hb); have n2_ := Aside0.mk (below_step (by repeat (first | (with_reducible first | exact HB.out | apply below_alloc | apply pw_below_drewN | apply below_drew1) | exact HB.out)) hb); clear HO174; clear HO176; clear HB; have HO174 := n0_; have HO176 := n1_; have HB := n2_; clear n0_ n1_ n2_; (try clear hb); (try clear hb2); (try clear hk); (try clear hi)) | ((with_reducible refine gate_dst (N := 3) rfl ?_); (try (refine gate_guard (by rfl) ?_; dsimp only)); refine box_event ?hg (N := 3) ?hd (cs := #[.int .i64 0, .int .i64 0]) (t := 34) ?hr ?_; (case hd => rfl); (case hg => rfl); (case hr => first | (go_simp; done) | (go_simp; rfl)); intro gb177 hg w18 hbox hb; have n0_ := Aside0.mk (Kd.R_below (by (with_reducible repeat (first | apply Kd.R_alloc | apply Kd.R_drewN | apply Kd.R_drew)); exact HO174.out) hb); have n1_ := Aside0.mk (Kd.R_below (by (with_reducible repeat (first | apply Kd.R_alloc | apply Kd.R_drewN | apply Kd.R_drew)); exact HO176.out) hb); have n2_ := Aside0.mk (below_step (by repeat (first | (with_reducible first | exact HB.out | apply below_alloc | apply pw_below_drewN | apply below_drew1) | exact HB.out)) hb); have n3_ := Aside0.mk (hbox); have n4_ := Aside0.mk ((by rw [hg]; exact (below_size (by repeat (first | (with_reducible first | exact HB.out | apply below_alloc | apply pw_below_drewN | apply below_drew1) | exact HB.out))) : w.heap.size ≤ gb177)); have n5_ := Aside0.mk ((by rw [hg]; exact (below_size (by repeat (first | (with_reducible first | exact HB.out | apply below_alloc | apply pw_below_drewN | apply below_drew1) | exact HB.out))) : w.heap.size ≤ gb177)); clear HO174; clear HO176; clear HB; have HO174 := n0_; have HO176 := n1_; have HB := n2_; have BK177 := n3_; have GW177 := n4_; have GE177 := n5_; clear n0_ n1_ n2_ n3_ n4_ n5_; clear hb hbox hg; have hcz19_0 : w18.cell? ⟨gb177, 0, none⟩ = some (.int .i64 0) := (blk_cell BK177.out 0).trans rfl; have hcz19_1 : w18.cell? ⟨gb177, 1, none⟩ = some (.int .i64 0) := (blk_cell BK177.out 1).trans rfl; have hfz19_0 := blk_frozen BK177.out 0; have hfz19_1 := blk_frozen BK177.out 1) | ((with_reducible refine gate_callee (f := 16) rfl ?_); refine goesL_ (some 28) rfl rfl Tryd.func16 (by kernel_rfl) rfl #[.slice Ao16 [(⟨3, 30⟩ : S39), (⟨6, 60⟩ : S39), (⟨9, 90⟩ : S39)].length co16, .int .i64 2] rfl (by (try simp only [List.map_toArray, List.map_cons, List.map_nil]); first | done | rfl | (simp only [List.length_drop, List.length_take]; rfl)) ?_; (with_reducible refine (rod_Reading.calls 400 _ _ [(⟨3, 30⟩ : S39), (⟨6, 60⟩ : S39), (⟨9, 90⟩ : S39)] 2 0 29 0 _ ?side1 ?side2 A4.out).mono ?_); (case side1 => refine (Kd.R_reads' (e := 39) (base := w.heap.size) (ok := fun k_ => (True ∧ some k_ ≠ (.slice Ao14 [(⟨0, 0⟩ : S39), (⟨10, 100⟩ : S39), (⟨20, 100⟩ : S39)].length co14 : Value).ownBlock)) (n := [(⟨3, 30⟩ : S39), (⟨6, 60⟩ : S39), (⟨9, 90⟩ : S39)].length) (c := co16) ?_).2.2; exact (by (with_reducible repeat (first | apply Kd.R_alloc | apply Kd.R_drewN | apply Kd.R_drew)); exact (Kd.R_mono (Kd.R_far (p := ⟨gb177, 1, none⟩) (Kd.R_far (p := ⟨gb177, 0, none⟩) (Kd.R_types HO176.out BK177.out (by decide)) (fun _ hk => hk.2) (.int .i64 60)) (fun _ hk => hk.2) (.int .i64 89)) (fun _ h_ => h_.1)))); (case side2 => exact (Kd.R_reads' HO176.out).2.1); rintro e w20 ⟨rfl, hb⟩; refine ⟨_, rfl, ?_⟩; have n0_ := Aside0.mk (Kd.R_below (by (with_reducible repeat (first | apply Kd.R_alloc | apply Kd.R_drewN | apply Kd.R_drew)); exact (Kd.R_mono (Kd.R_far (p := ⟨gb177, 1, none⟩) (Kd.R_far (p := ⟨gb177, 0, none⟩) (Kd.R_types HO174.out BK177.out (by decide)) (fun _ hk => hk.2) (.int .i64 60)) (fun _ hk => hk.2) (.int .i64 89)) (fun _ h_ => h_.1))) hb); have n1_ := Aside0.mk (Kd.R_below (by (with_reducible repeat (first | apply Kd.R_alloc | apply Kd.R_drewN | apply Kd.R_drew)); exact (Kd.R_mono (Kd.R_far (p := ⟨gb177, 1, none⟩) (Kd.R_far (p := ⟨gb177, 0, none⟩) (Kd.R_types HO176.out BK177.out (by decide)) (fun _ hk => hk.2) (.int .i64 60)) (fun _ hk => hk.2) (.int .i64 89)) (fun _ h_ => h_.1))) hb); have n2_ := Aside0.mk (blk_below (g := gb177) (o := .cells #[.int .i64 60, .int .i64 89] 34 (0, 0)) (by (with_reducible repeat (first | refine blk_drewN ?_ _ | refine blk_drew ?_ | refine blk_alloc ?_ _)); refine blk_put (cs := #[.int .i64 60, .int .i64 0]) ?_ 1 _ rfl; (with_reducible repeat (first | refine blk_drewN ?_ _ | refine blk_drew ?_ | refine blk_alloc ?_ _)); refine blk_put (cs := #[.int .i64 0, .int .i64 0]) ?_ 0 _ rfl; (with_reducible repeat (first | refine blk_drewN ?_ _ | refine blk_drew ?_ | refine blk_alloc ?_ _)); exact BK177.out) hb); have n3_ := Aside0.mk (below_step (by repeat (first | (with_reducible first | exact HB.out | apply below_alloc | apply pw_below_drewN | apply below_drew1 | refine below_set ?_ GE177.out) | exact HB.out)) hb); clear HO174; clear HO176; clear BK177; clear HB; have HO174 := n0_; have HO176 := n1_; have BK177 := n2_; have HB := n3_; clear n0_ n1_ n2_ n3_; (try clear hb); (try clear hb2); (try clear hk); (try clear hi)) | ((with_reducible refine gate_dst (N := 5) rfl ?_); (try (refine gate_guard (by rfl) ?_; dsimp only)); refine box_event ?hg (N := 5) ?hd (cs := #[.int .i64 0, .int .i64 0]) (t := 34) ?hr ?_; (case hd => rfl); (case hg => rfl); (case hr => first | (go_simp; done) | (go_simp; rfl)); intro gb178 hg w21 hbox hb; have n0_ := Aside0.mk (Kd.R_below (by (with_reducible repeat (first | apply Kd.R_alloc | apply Kd.R_drewN | apply Kd.R_drew)); exact HO174.out) hb); have n1_ := Aside0.mk (Kd.R_below (by (with_reducible repeat (first | apply Kd.R_alloc | apply Kd.R_drewN | apply Kd.R_drew)); exact HO176.out) hb); have n2_ := Aside0.mk (blk_below (g := gb177) (o := .cells #[.int .i64 60, .int .i64 89] 34 (0, 0)) (by (with_reducible repeat (first | refine blk_drewN ?_ _ | refine blk_drew ?_ | refine blk_alloc ?_ _)); exact BK177.out) hb); have n3_ := Aside0.mk (below_step (by repeat (first | (with_reducible first | exact HB.out | apply below_alloc | apply pw_below_drewN | apply below_drew1 | refine below_set ?_ GE177.out) | exact HB.out)) hb); have n4_ := Aside0.mk (hbox); have n5_ := Aside0.mk ((by rw [hg]; exact (below_size (by repeat (first | (with_reducible first | exact HB.out | apply below_alloc | apply pw_below_drewN | apply below_drew1 | refine below_set ?_ GE177.out) | exact HB.out))) : w.heap.size ≤ gb178)); have n6_ := Aside0.mk ((by rw [hg]; exact (below_size (by repeat (first | (with_reducible first | exact HB.out | apply below_alloc | apply pw_below_drewN | apply below_drew1 | refine below_set ?_ GE177.out) | exact HB.out))) : w.heap.size ≤ gb178)); have n7_ := Aside0.mk ((by rw [hg]; exact Nat.ne_of_lt (blk_lt (g := gb177) (o := .cells #[.int .i64 60, .int .i64 89] 34 (0, 0)) (by (with_reducible repeat (first | refine blk_drewN ?_ _ | refine blk_drew ?_ | refine blk_alloc ?_ _)); exact BK177.out)) : gb177 ≠ gb178)); have n8_ := Aside0.mk ((by rw [hg]; exact Nat.ne_of_gt (blk_lt (g := gb177) (o := .cells #[.int .i64 60, .int .i64 89] 34 (0, 0)) (by (with_reducible repeat (first | refine blk_drewN ?_ _ | refine blk_drew ?_ | refine blk_alloc ?_ _)); exact BK177.out)) : gb178 ≠ gb177)); clear HO174; clear HO176; clear BK177; clear HB; have HO174 := n0_; have HO176 := n1_; have BK177 := n2_; have HB := n3_; have BK178 := n4_; have GW178 := n5_; have GE178 := n6_; have NB177_178 := n7_; have NB178_177 := n8_; clear n0_ n1_ n2_ n3_ n4_ n5_ n6_ n7_ n8_; clear hb hbox hg; have hnb22 := NB178_177.out; have hnc22 := NB177_178.out; have hcz23_0 : w21.cell? ⟨gb178, 0, none⟩ = some (.int .i64 0) := (blk_cell BK178.out 0).trans rfl; have hcz23_1 : w21.cell? ⟨gb178, 1, none⟩ = some (.int .i64 0) := (blk_cell BK178.out 1).trans rfl; have hfz23_0 := blk_frozen BK178.out 0; have hfz23_1 := blk_frozen BK178.out 1) | ((with_reducible refine gate_callee (f := 16) rfl ?_); refine goesL_ (some 33) rfl rfl Tryd.func16 (by kernel_rfl) rfl #[.slice Ao16 [(⟨3, 30⟩ : S39), (⟨6, 60⟩ : S39), (⟨9, 90⟩ : S39)].length co16, .int .i64 9] rfl (by (try simp only [List.map_toArray, List.map_cons, List.map_nil]); first | done | rfl | (simp only [List.length_drop, List.length_take]; rfl)) ?_; (with_reducible refine (rod_Reading.calls 400 _ _ [(⟨3, 30⟩ : S39), (⟨6, 60⟩ : S39), (⟨9, 90⟩ : S39)] 9 90 90 0 _ ?side1 ?side2 A5.out).mono ?_); (case side1 => refine (Kd.R_reads' (e := 39) (base := w.heap.size) (ok := fun k_ => (True ∧ some k_ ≠ (.slice Ao14 [(⟨0, 0⟩ : S39), (⟨10, 100⟩ : S39), (⟨20, 100⟩ : S39)].length co14 : Value).ownBlock)) (n := [(⟨3, 30⟩ : S39), (⟨6, 60⟩ : S39), (⟨9, 90⟩ : S39)].length) (c := co16) ?_).2.2; exact (by (with_reducible repeat (first | apply Kd.R_alloc | apply Kd.R_drewN | apply Kd.R_drew)); exact (Kd.R_mono (Kd.R_far (p := ⟨gb178, 1, none⟩) (Kd.R_far (p := ⟨gb178, 0, none⟩) (Kd.R_types HO176.out BK178.out (by decide)) (fun _ hk => hk.2) (.int .i64 0)) (fun _ hk => hk.2) (.int .i64 29)) (fun _ h_ => h_.1)))); (case side2 => exact (Kd.R_reads' HO176.out).2.1); rintro e w24 ⟨rfl, hb⟩; refine ⟨_, rfl, ?_⟩; have n0_ := Aside0.mk (Kd.R_below (by (with_reducible repeat (first | apply Kd.R_alloc | apply Kd.R_drewN | apply Kd.R_drew)); exact (Kd.R_mono (Kd.R_far (p := ⟨gb178, 1, none⟩) (Kd.R_far (p := ⟨gb178, 0, none⟩) (Kd.R_types HO174.out BK178.out (by decide)) (fun _ hk => hk.2) (.int .i64 0)) (fun _ hk => hk.2) (.int .i64 29)) (fun _ h_ => h_.1))) hb); have n1_ := Aside0.mk (Kd.R_below (by (with_reducible repeat (first | apply Kd.R_alloc | apply Kd.R_drewN | apply Kd.R_drew)); exact (Kd.R_mono (Kd.R_far (p := ⟨gb178, 1, none⟩) (Kd.R_far (p := ⟨gb178, 0, none⟩) (Kd.R_types HO176.out BK178.out (by decide)) (fun _ hk => hk.2) (.int .i64 0)) (fun _ hk => hk.2) (.int .i64 29)) (fun _ h_ => h_.1))) hb); have n2_ := Aside0.mk (blk_below (g := gb177) (o := .cells #[.int .i64 60, .int .i64 89] 34 (0, 0)) (by (with_reducible repeat (first | refine blk_drewN ?_ _ | refine blk_drew ?_ | refine blk_alloc ?_ _)); refine blk_far ?_ NB177_178.out _; (with_reducible repeat (first | refine blk_drewN ?_ _ | refine blk_drew ?_ | refine blk_alloc ?_ _)); refine blk_far ?_ NB177_178.out _; (with_reducible repeat (first | refine blk_drewN ?_ _ | refine blk_drew ?_ | refine blk_alloc ?_ _)); exact BK177.out) hb); have n3_ := Aside0.mk (blk_below (g := gb178) (o := .cells #[.int .i64 0, .int .i64 29] 34 (0, 0)) (by (with_reducible repeat (first | refine blk_drewN ?_ _ | refine blk_drew ?_ | refine blk_alloc ?_ _)); refine blk_put (cs := #[.int .i64 0, .int .i64 0]) ?_ 1 _ rfl; (with_reducible repeat (first | refine blk_drewN ?_ _ | refine blk_drew ?_ | refine blk_alloc ?_ _)); refine blk_put (cs := #[.int .i64 0, .int .i64 0]) ?_ 0 _ rfl; (with_reducible repeat (first | refine blk_drewN ?_ _ | refine blk_drew ?_ | refine blk_alloc ?_ _)); exact BK178.out) hb); have n4_ := Aside0.mk (below_step (by repeat (first | (with_reducible first | exact HB.out | apply below_alloc | apply pw_below_drewN | apply below_drew1 | refine below_set ?_ GE177.out | refine below_set ?_ GE178.out) | exact HB.out)) hb); clear HO174; clear HO176; clear BK177; clear BK178; clear HB; have HO174 := n0_; have HO176 := n1_; have BK177 := n2_; have BK178 := n3_; have HB := n4_; clear n0_ n1_ n2_ n3_ n4_; (try clear hb); (try clear hb2); (try clear hk); (try clear hi)) | ((with_reducible refine gate_dst (N := 7) rfl ?_); (try (refine gate_guard (by rfl) ?_; dsimp only)); refine box_event ?hg (N := 7) ?hd (cs := #[.int .i64 0, .int .i64 0]) (t := 34) ?hr ?_; (case hd => rfl); (case hg => rfl); (case hr => first | (go_simp; done) | (go_simp; rfl)); intro gb179 hg w25 hbox hb; have n0_ := Aside0.mk (Kd.R_below (by (with_reducible repeat (first | apply Kd.R_alloc | apply Kd.R_drewN | apply Kd.R_drew)); exact HO174.out) hb); have n1_ := Aside0.mk (Kd.R_below (by (with_reducible repeat (first | apply Kd.R_alloc | apply Kd.R_drewN | apply Kd.R_drew)); exact HO176.out) hb); have n2_ := Aside0.mk (blk_below (g := gb177) (o := .cells #[.int .i64 60, .int .i64 89] 34 (0, 0)) (by (with_reducible repeat (first | refine blk_drewN ?_ _ | refine blk_drew ?_ | refine blk_alloc ?_ _)); exact BK177.out) hb); have n3_ := Aside0.mk (blk_below (g := gb178) (o := .cells #[.int .i64 0, .int .i64 29] 34 (0, 0)) (by (with_reducible repeat (first | refine blk_drewN ?_ _ | refine blk_drew ?_ | refine blk_alloc ?_ _)); exact BK178.out) hb); have n4_ := Aside0.mk (below_step (by repeat (first | (with_reducible first | exact HB.out | apply below_alloc | apply pw_below_drewN | apply below_drew1 | refine below_set ?_ GE177.out | refine below_set ?_ GE178.out) | exact HB.out)) hb); have n5_ := Aside0.mk (hbox); have n6_ := Aside0.mk ((by rw [hg]; exact (below_size (by repeat (first | (with_reducible first | exact HB.out | apply below_alloc | apply pw_below_drewN | apply below_drew1 | refine below_set ?_ GE177.out | refine below_set ?_ GE178.out) | exact HB.out))) : w.heap.size ≤ gb179)); have n7_ := Aside0.mk ((by rw [hg]; exact (below_size (by repeat (first | (with_reducible first | exact HB.out | apply below_alloc | apply pw_below_drewN | apply below_drew1 | refine below_set ?_ GE177.out | refine below_set ?_ GE178.out) | exact HB.out))) : w.heap.size ≤ gb179)); have n8_ := Aside0.mk ((by rw [hg]; exact Nat.ne_of_lt (blk_lt (g := gb177) (o := .cells #[.int .i64 60, .int .i64 89] 34 (0, 0)) (by (with_reducible repeat (first | refine blk_drewN ?_ _ | refine blk_drew ?_ | refine blk_alloc ?_ _)); exact BK177.out)) : gb177 ≠ gb179)); have n9_ := Aside0.mk ((by rw [hg]; exact Nat.ne_of_gt (blk_lt (g := gb177) (o := .cells #[.int .i64 60, .int .i64 89] 34 (0, 0)) (by (with_reducible repeat (first | refine blk_drewN ?_ _ | refine blk_drew ?_ | refine blk_alloc ?_ _)); exact BK177.out)) : gb179 ≠ gb177)); have n10_ := Aside0.mk ((by rw [hg]; exact Nat.ne_of_lt (blk_lt (g := gb178) (o := .cells #[.int .i64 0, .int .i64 29] 34 (0, 0)) (by (with_reducible repeat (first | refine blk_drewN ?_ _ | refine blk_drew ?_ | refine blk_alloc ?_ _)); exact BK178.out)) : gb178 ≠ gb179)); have n11_ := Aside0.mk ((by rw [hg]; exact Nat.ne_of_gt (blk_lt (g := gb178) (o := .cells #[.int .i64 0, .int .i64 29] 34 (0, 0)) (by (with_reducible repeat (first | refine blk_drewN ?_ _ | refine blk_drew ?_ | refine blk_alloc ?_ _)); exact BK178.out)) : gb179 ≠ gb178)); clear HO174; clear HO176; clear BK177; clear BK178; clear HB; have HO174 := n0_; have HO176 := n1_; have BK177 := n2_; have BK178 := n3_; have HB := n4_; have BK179 := n5_; have GW179 := n6_; have GE179 := n7_; have NB177_179 := n8_; have NB179_177 := n9_; have NB178_179 := n10_; have NB179_178 := n11_; clear n0_ n1_ n2_ n3_ n4_ n5_ n6_ n7_ n8_ n9_ n10_ n11_; clear hb hbox hg; have hnb26 := NB179_177.out; have hnc26 := NB177_179.out; have hnb27 := NB179_178.out; have hnc27 := NB178_179.out; have hcz28_0 : w25.cell? ⟨gb179, 0, none⟩ = some (.int .i64 0) := (blk_cell BK179.out 0).trans rfl; have hcz28_1 : w25.cell? ⟨gb179, 1, none⟩ = some (.int .i64 0) := (blk_cell BK179.out 1).trans rfl; have hfz28_0 := blk_frozen BK179.out 0; have hfz28_1 := blk_frozen BK179.out 1) | ((with_reducible refine gate_callee (f := 30) rfl ?_); refine goesL_ (some 38) rfl rfl Tryd.func30 (by kernel_rfl) rfl #[] rfl (by (try simp only [List.map_toArray, List.map_cons, List.map_nil]); first | done | rfl | (simp only [List.length_drop, List.length_take]; rfl)) ?_; (with_reducible refine (spilelaw14_Steps.calls  [(⟨0, 0⟩ : S39), (⟨10, 100⟩ : S39), (⟨20, 100⟩ : S39)] 0 _ A6.out).mono ?_); rintro e w29 ⟨v180, rfl, ho0, hb⟩; refine ⟨_, rfl, ?_⟩; have n0_ := Aside0.mk (Kd.R_elder' (by (with_reducible repeat (first | apply Kd.R_alloc | apply Kd.R_drewN | apply Kd.R_drew)); exact (Kd.R_mono (Kd.R_far (p := ⟨gb179, 1, none⟩) (Kd.R_far (p := ⟨gb179, 0, none⟩) (Kd.R_types HO174.out BK179.out (by decide)) (fun _ hk => hk.2) (.int .i64 90)) (fun _ hk => hk.2) (.int .i64 90)) (fun _ h_ => h_.1))) (Kd.R_base ho0) hb); have n1_ := Aside0.mk (Kd.R_elder' (by (with_reducible repeat (first | apply Kd.R_alloc | apply Kd.R_drewN | apply Kd.R_drew)); exact (Kd.R_mono (Kd.R_far (p := ⟨gb179, 1, none⟩) (Kd.R_far (p := ⟨gb179, 0, none⟩) (Kd.R_types HO176.out BK179.out (by decide)) (fun _ hk => hk.2) (.int .i64 90)) (fun _ hk => hk.2) (.int .i64 90)) (fun _ h_ => h_.1))) (Kd.R_base ho0) hb); have n2_ := Aside0.mk (Kd.R_lower (Kd.R_new' (Kd.R_new' ho0 (Kd.R_lt (by (with_reducible repeat (first | apply Kd.R_alloc | apply Kd.R_drewN | apply Kd.R_drew)); exact (Kd.R_mono (Kd.R_far (p := ⟨gb179, 1, none⟩) (Kd.R_far (p := ⟨gb179, 0, none⟩) (Kd.R_types HO174.out BK179.out (by decide)) (fun _ hk => hk.2) (.int .i64 90)) (fun _ hk => hk.2) (.int .i64 90)) (fun _ h_ => h_.1))))) (Kd.R_lt (by (with_reducible repeat (first | apply Kd.R_alloc | apply Kd.R_drewN | apply Kd.R_drew)); exact (Kd.R_mono (Kd.R_far (p := ⟨gb179, 1, none⟩) (Kd.R_far (p := ⟨gb179, 0, none⟩) (Kd.R_types HO176.out BK179.out (by decide)) (fun _ hk => hk.2) (.int .i64 90)) (fun _ hk => hk.2) (.int .i64 90)) (fun _ h_ => h_.1))))) (below_size (by repeat (first | (with_reducible first | exact HB.out | apply below_alloc | apply pw_below_drewN | apply below_drew1 | refine below_set ?_ GE177.out | refine below_set ?_ GE178.out | refine below_set ?_ GE179.out) | exact HB.out)))); have n3_ := Aside0.mk (blk_below (g := gb177) (o := .cells #[.int .i64 60, .int .i64 89] 34 (0, 0)) (by (with_reducible repeat (first | refine blk_drewN ?_ _ | refine blk_drew ?_ | refine blk_alloc ?_ _)); refine blk_far ?_ NB177_179.out _; (with_reducible repeat (first | refine blk_drewN ?_ _ | refine blk_drew ?_ | refine blk_alloc ?_ _)); refine blk_far ?_ NB177_179.out _; (with_reducible repeat (first | refine blk_drewN ?_ _ | refine blk_drew ?_ | refine blk_alloc ?_ _)); exact BK177.out) hb); have n4_ := Aside0.mk (blk_below (g := gb178) (o := .cells #[.int .i64 0, .int .i64 29] 34 (0, 0)) (by (with_reducible repeat (first | refine blk_drewN ?_ _ | refine blk_drew ?_ | refine blk_alloc ?_ _)); refine blk_far ?_ NB178_179.out _; (with_reducible repeat (first | refine blk_drewN ?_ _ | refine blk_drew ?_ | refine blk_alloc ?_ _)); refine blk_far ?_ NB178_179.out _; (with_reducible repeat (first | refine blk_drewN ?_ _ | refine blk_drew ?_ | refine blk_alloc ?_ _)); exact BK178.out) hb); have n5_ := Aside0.mk (blk_below (g := gb179) (o := .cells #[.int .i64 90, .int .i64 90] 34 (0, 0)) (by (with_reducible repeat (first | refine blk_drewN ?_ _ | refine blk_drew ?_ | refine blk_alloc ?_ _)); refine blk_put (cs := #[.int .i64 90, .int .i64 0]) ?_ 1 _ rfl; (with_reducible repeat (first | refine blk_drewN ?_ _ | refine blk_drew ?_ | refine blk_alloc ?_ _)); refine blk_put (cs := #[.int .i64 0, .int .i64 0]) ?_ 0 _ rfl; (with_reducible repeat (first | refine blk_drewN ?_ _ | refine blk_drew ?_ | refine blk_alloc ?_ _)); exact BK179.out) hb); have n6_ := Aside0.mk (below_step (by repeat (first | (with_reducible first | exact HB.out | apply below_alloc | apply pw_below_drewN | apply below_drew1 | refine below_set ?_ GE177.out | refine below_set ?_ GE178.out | refine below_set ?_ GE179.out) | exact HB.out)) hb); clear HO174; clear HO176; clear BK177; clear BK178; clear BK179; clear HB; have HO174 := n0_; have HO176 := n1_; have HO181 := n2_; have BK177 := n3_; have BK178 := n4_; have BK179 := n5_; have HB := n6_; clear n0_ n1_ n2_ n3_ n4_ n5_ n6_; (try clear hb); (try clear hb2); (try clear hk); (try clear hi); (try clear ho0); obtain ⟨Ao30, co30, eo30⟩ := Kd.R_slice HO181.out; subst eo30) | ((with_reducible refine gate_callee (f := 19) rfl ?_); refine goesL_ (some 39) rfl rfl Tryd.func19 (by kernel_rfl) rfl #[.slice Ao16 [(⟨3, 30⟩ : S39), (⟨6, 60⟩ : S39), (⟨9, 90⟩ : S39)].length co16, .agg #[.slice Ao30 [(⟨0, 0⟩ : S39), (⟨10, 100⟩ : S39), (⟨20, 100⟩ : S39)].length co30, .int .i64 0], .int .i64 0] rfl (by (try simp only [List.map_toArray, List.map_cons, List.map_nil]); first | done | rfl | (simp only [List.length_drop, List.length_take]; rfl)) ?_; (with_reducible refine (rod_Compare.calls 400 _ _ [(⟨3, 30⟩ : S39), (⟨6, 60⟩ : S39), (⟨9, 90⟩ : S39)] _ _ [(⟨0, 0⟩ : S39), (⟨10, 100⟩ : S39), (⟨20, 100⟩ : S39)] 0 0 (-1) 0 _ ?side1 ?side2 ?side3 ?side4 A7.out).mono ?_); (case side1 => repeat (first | exact (Kd.R_reads' HO176.out).2.2 | (with_reducible refine Kd.C_alloc ?_ _) | (with_reducible refine Kd.C_drewN ?_ _) | (with_reducible refine Kd.C_drew ?_))); (case side2 => exact (Kd.R_reads' HO176.out).2.1); (case side3 => repeat (first | exact (Kd.R_reads' HO181.out).2.2 | (with_reducible refine Kd.C_alloc ?_ _) | (with_reducible refine Kd.C_drewN ?_ _) | (with_reducible refine Kd.C_drew ?_))); (case side4 => exact (Kd.R_reads' HO181.out).2.1); rintro e w31 ⟨rfl, hb⟩; refine ⟨_, rfl, ?_⟩; have n0_ := Aside0.mk (Kd.R_below (by (with_reducible repeat (first | apply Kd.R_alloc | apply Kd.R_drewN | apply Kd.R_drew)); exact HO174.out) hb); have n1_ := Aside0.mk (Kd.R_below (by (with_reducible repeat (first | apply Kd.R_alloc | apply Kd.R_drewN | apply Kd.R_drew)); exact HO176.out) hb); have n2_ := Aside0.mk (Kd.R_below (by (with_reducible repeat (first | apply Kd.R_alloc | apply Kd.R_drewN | apply Kd.R_drew)); exact HO181.out) hb); have n3_ := Aside0.mk (blk_below (g := gb177) (o := .cells #[.int .i64 60, .int .i64 89] 34 (0, 0)) (by (with_reducible repeat (first | refine blk_drewN ?_ _ | refine blk_drew ?_ | refine blk_alloc ?_ _)); exact BK177.out) hb); have n4_ := Aside0.mk (blk_below (g := gb178) (o := .cells #[.int .i64 0, .int .i64 29] 34 (0, 0)) (by (with_reducible repeat (first | refine blk_drewN ?_ _ | refine blk_drew ?_ | refine blk_alloc ?_ _)); exact BK178.out) hb); have n5_ := Aside0.mk (blk_below (g := gb179) (o := .cells #[.int .i64 90, .int .i64 90] 34 (0, 0)) (by (with_reducible repeat (first | refine blk_drewN ?_ _ | refine blk_drew ?_ | refine blk_alloc ?_ _)); exact BK179.out) hb); have n6_ := Aside0.mk (below_step (by repeat (first | (with_reducible first | exact HB.out | apply below_alloc | apply pw_below_drewN | apply below_drew1 | refine below_set ?_ GE177.out | refine below_set ?_ GE178.out | refine below_set ?_ GE179.out) | exact HB.out)) hb); clear HO174; clear HO176; clear HO181; clear BK177; clear BK178; clear BK179; clear HB; have HO174 := n0_; have HO176 := n1_; have HO181 := n2_; have BK177 := n3_; have BK178 := n4_; have BK179 := n5_; have HB := n6_; clear n0_ n1_ n2_ n3_ n4_ n5_ n6_; (try clear hb); (try clear hb2); (try clear hk); (try clear hi)) | ((with_reducible refine gate_callee (f := 23) rfl ?_); refine goesL_ (some 44) rfl rfl Tryd.func23 (by kernel_rfl) rfl #[.slice Ao16 [(⟨3, 30⟩ : S39), (⟨6, 60⟩ : S39), (⟨9, 90⟩ : S39)].length co16] rfl (by (try simp only [List.map_toArray, List.map_cons, List.map_nil]); first | done | rfl | (simp only [List.length_drop, List.length_take]; rfl)) ?_; (with_reducible refine (rod_Print.calls 400 _ _ [(⟨3, 30⟩ : S39), (⟨6, 60⟩ : S39), (⟨9, 90⟩ : S39)] (⟨#[51, 32, 51, 48, 10, 54, 32, 54, 48, 10, 57, 32, 57, 48, 10]⟩ : ByteArray) 0 _ ?side1 ?side2 ?side3 A8.out).mono ?_); (case side1 => repeat (first | exact (Kd.R_reads' HO176.out).2.2 | (with_reducible refine Kd.C_alloc ?_ _) | (with_reducible refine Kd.C_drewN ?_ _) | (with_reducible refine Kd.C_drew ?_))); (case side2 => exact (Kd.R_reads' HO176.out).2.1); (case side3 => exact GI.below HG.out (by repeat (first | (with_reducible first | exact HB.out | apply below_alloc | apply pw_below_drewN | apply below_drew1 | refine below_set ?_ GE177.out | refine below_set ?_ GE178.out | refine below_set ?_ GE179.out) | exact HB.out))); rintro e w32 ⟨rfl, hb⟩; refine ⟨_, rfl, ?_⟩; have n0_ := Aside0.mk (Kd.R_below (by (with_reducible repeat (first | apply Kd.R_alloc | apply Kd.R_drewN | apply Kd.R_drew)); exact HO174.out) hb); have n1_ := Aside0.mk (Kd.R_below (by (with_reducible repeat (first | apply Kd.R_alloc | apply Kd.R_drewN | apply Kd.R_drew)); exact HO176.out) hb); have n2_ := Aside0.mk (Kd.R_below (by (with_reducible repeat (first | apply Kd.R_alloc | apply Kd.R_drewN | apply Kd.R_drew)); exact HO181.out) hb); have n3_ := Aside0.mk (blk_below (g := gb177) (o := .cells #[.int .i64 60, .int .i64 89] 34 (0, 0)) (by (with_reducible repeat (first | refine blk_drewN ?_ _ | refine blk_drew ?_ | refine blk_alloc ?_ _)); exact BK177.out) hb); have n4_ := Aside0.mk (blk_below (g := gb178) (o := .cells #[.int .i64 0, .int .i64 29] 34 (0, 0)) (by (with_reducible repeat (first | refine blk_drewN ?_ _ | refine blk_drew ?_ | refine blk_alloc ?_ _)); exact BK178.out) hb); have n5_ := Aside0.mk (blk_below (g := gb179) (o := .cells #[.int .i64 90, .int .i64 90] 34 (0, 0)) (by (with_reducible repeat (first | refine blk_drewN ?_ _ | refine blk_drew ?_ | refine blk_alloc ?_ _)); exact BK179.out) hb); have n6_ := Aside0.mk (below_step (by repeat (first | (with_reducible first | exact HB.out | apply below_alloc | apply pw_below_drewN | apply below_drew1 | refine below_set ?_ GE177.out | refine below_set ?_ GE178.out | refine below_set ?_ GE179.out) | exact HB.out)) hb); clear HO174; clear HO176; clear HO181; clear BK177; clear BK178; clear BK179; clear HB; have HO174 := n0_; have HO176 := n1_; have HO181 := n2_; have BK177 := n3_; have BK178 := n4_; have BK179 := n5_; have HB := n6_; clear n0_ n1_ n2_ n3_ n4_ n5_ n6_; (try clear hb); (try clear hb2); (try clear hk); (try clear hi)) | ((with_reducible refine gate_callee (f := 25) rfl ?_); refine goesL_ (some 49) rfl rfl Tryd.func25 (by kernel_rfl) rfl #[.string (⟨#[51, 32, 51, 48, 10, 54, 32, 54, 48, 10, 57, 32, 57, 48, 10]⟩ : ByteArray)] rfl (by (try simp only [List.map_toArray, List.map_cons, List.map_nil]); first | done | rfl | (simp only [List.length_drop, List.length_take]; rfl)) ?_; (with_reducible refine (rod_Parse.calls 400 (⟨#[51, 32, 51, 48, 10, 54, 32, 54, 48, 10, 57, 32, 57, 48, 10]⟩ : ByteArray) [(⟨3, 30⟩ : S39), (⟨6, 60⟩ : S39), (⟨9, 90⟩ : S39)] 0 0 _ ?side1 A9.out).mono ?_); (case side1 => exact GI.below HG.out (by repeat (first | (with_reducible first | exact HB.out | apply below_alloc | apply pw_below_drewN | apply below_drew1 | refine below_set ?_ GE177.out | refine below_set ?_ GE178.out | refine below_set ?_ GE179.out) | exact HB.out))); rintro e w33 ⟨v182, rfl, ho0, hb⟩; refine ⟨_, rfl, ?_⟩; have n0_ := Aside0.mk (Kd.R_elder' (by (with_reducible repeat (first | apply Kd.R_alloc | apply Kd.R_drewN | apply Kd.R_drew)); exact HO174.out) (Kd.R_base ho0) hb); have n1_ := Aside0.mk (Kd.R_elder' (by (with_reducible repeat (first | apply Kd.R_alloc | apply Kd.R_drewN | apply Kd.R_drew)); exact HO176.out) (Kd.R_base ho0) hb); have n2_ := Aside0.mk (Kd.R_elder' (by (with_reducible repeat (first | apply Kd.R_alloc | apply Kd.R_drewN | apply Kd.R_drew)); exact HO181.out) (Kd.R_base ho0) hb); have n3_ := Aside0.mk (Kd.R_lower (Kd.R_new' (Kd.R_new' (Kd.R_new' ho0 (Kd.R_lt (by (with_reducible repeat (first | apply Kd.R_alloc | apply Kd.R_drewN | apply Kd.R_drew)); exact HO174.out))) (Kd.R_lt (by (with_reducible repeat (first | apply Kd.R_alloc | apply Kd.R_drewN | apply Kd.R_drew)); exact HO176.out))) (Kd.R_lt (by (with_reducible repeat (first | apply Kd.R_alloc | apply Kd.R_drewN | apply Kd.R_drew)); exact HO181.out))) (below_size (by repeat (first | (with_reducible first | exact HB.out | apply below_alloc | apply pw_below_drewN | apply below_drew1 | refine below_set ?_ GE177.out | refine below_set ?_ GE178.out | refine below_set ?_ GE179.out) | exact HB.out)))); have n4_ := Aside0.mk (blk_below (g := gb177) (o := .cells #[.int .i64 60, .int .i64 89] 34 (0, 0)) (by (with_reducible repeat (first | refine blk_drewN ?_ _ | refine blk_drew ?_ | refine blk_alloc ?_ _)); exact BK177.out) hb); have n5_ := Aside0.mk (blk_below (g := gb178) (o := .cells #[.int .i64 0, .int .i64 29] 34 (0, 0)) (by (with_reducible repeat (first | refine blk_drewN ?_ _ | refine blk_drew ?_ | refine blk_alloc ?_ _)); exact BK178.out) hb); have n6_ := Aside0.mk (blk_below (g := gb179) (o := .cells #[.int .i64 90, .int .i64 90] 34 (0, 0)) (by (with_reducible repeat (first | refine blk_drewN ?_ _ | refine blk_drew ?_ | refine blk_alloc ?_ _)); exact BK179.out) hb); have n7_ := Aside0.mk (below_step (by repeat (first | (with_reducible first | exact HB.out | apply below_alloc | apply pw_below_drewN | apply below_drew1 | refine below_set ?_ GE177.out | refine below_set ?_ GE178.out | refine below_set ?_ GE179.out) | exact HB.out)) hb); clear HO174; clear HO176; clear HO181; clear BK177; clear BK178; clear BK179; clear HB; have HO174 := n0_; have HO176 := n1_; have HO181 := n2_; have HO183 := n3_; have BK177 := n4_; have BK178 := n5_; have BK179 := n6_; have HB := n7_; clear n0_ n1_ n2_ n3_ n4_ n5_ n6_ n7_; (try clear hb); (try clear hb2); (try clear hk); (try clear hi); (try clear ho0)) | ((with_reducible refine gate_dst (N := 84) rfl ?_); (try (refine gate_guard (by rfl) ?_; dsimp only)); refine Kd.R_lit k39 _ 39 ?hg (N := 84) ?hd (xs := ([(⟨3, 30⟩ : S39), (⟨6, 60⟩ : S39), (⟨9, 90⟩ : S39)] : List (S39))) (inner := [.int .i64 3, .int .i64 30, .int .i64 6, .int .i64 60, .int .i64 9, .int .i64 90]) (ok := fun _ => True) (okp := fun _ => True) ?hr ?hp (fun _ hk => hk) trivial (Below.refl _ _) (Nat.le_refl _) (by simp) ?_; (case hd => rfl); (case hg => rfl); (case hr => first | (go_simp; done) | (go_simp; rfl)); (case hp => exact (Reps.c2 (show Kd.M k39 _ _ _ (⟨3, 30⟩ : S39) [.int .i64 3, .int .i64 30] from (k39_mkM _ _ _ (⟨3, 30⟩ : S39) )) (Reps.c2 (show Kd.M k39 _ _ _ (⟨6, 60⟩ : S39) [.int .i64 6, .int .i64 60] from (k39_mkM _ _ _ (⟨6, 60⟩ : S39) )) (Reps.c2 (show Kd.M k39 _ _ _ (⟨9, 90⟩ : S39) [.int .i64 9, .int .i64 90] from (k39_mkM _ _ _ (⟨9, 90⟩ : S39) )) (Reps.none _ _))))); intro v185 w34 ho35 hb hg_ hnew_; clear hg_ hnew_; (first | rw [← Ny184.out] at ho35 | (simp only [Int.reduceToNat] at ho35; rw [← Ny184.out] at ho35)); have n0_ := Aside0.mk (Kd.R_elder' (by (with_reducible repeat (first | apply Kd.R_alloc | apply Kd.R_drewN | apply Kd.R_drew)); exact HO174.out) (Kd.R_base ho35) hb); have n1_ := Aside0.mk (Kd.R_elder' (by (with_reducible repeat (first | apply Kd.R_alloc | apply Kd.R_drewN | apply Kd.R_drew)); exact HO176.out) (Kd.R_base ho35) hb); have n2_ := Aside0.mk (Kd.R_elder' (by (with_reducible repeat (first | apply Kd.R_alloc | apply Kd.R_drewN | apply Kd.R_drew)); exact HO181.out) (Kd.R_base ho35) hb); have n3_ := Aside0.mk (Kd.R_elder' (by (with_reducible repeat (first | apply Kd.R_alloc | apply Kd.R_drewN | apply Kd.R_drew)); exact HO183.out) (Kd.R_base ho35) hb); have n4_ := Aside0.mk (Kd.R_lower (Kd.R_new' (Kd.R_new' (Kd.R_new' (Kd.R_new' ho35 (Kd.R_lt (by (with_reducible repeat (first | apply Kd.R_alloc | apply Kd.R_drewN | apply Kd.R_drew)); exact HO174.out))) (Kd.R_lt (by (with_reducible repeat (first | apply Kd.R_alloc | apply Kd.R_drewN | apply Kd.R_drew)); exact HO176.out))) (Kd.R_lt (by (with_reducible repeat (first | apply Kd.R_alloc | apply Kd.R_drewN | apply Kd.R_drew)); exact HO181.out))) (Kd.R_lt (by (with_reducible repeat (first | apply Kd.R_alloc | apply Kd.R_drewN | apply Kd.R_drew)); exact HO183.out))) (below_size (by repeat (first | (with_reducible first | exact HB.out | apply below_alloc | apply pw_below_drewN | apply below_drew1 | refine below_set ?_ GE177.out | refine below_set ?_ GE178.out | refine below_set ?_ GE179.out) | exact HB.out)))); have n5_ := Aside0.mk (blk_below (g := gb177) (o := .cells #[.int .i64 60, .int .i64 89] 34 (0, 0)) (by (with_reducible repeat (first | refine blk_drewN ?_ _ | refine blk_drew ?_ | refine blk_alloc ?_ _)); exact BK177.out) hb); have n6_ := Aside0.mk (blk_below (g := gb178) (o := .cells #[.int .i64 0, .int .i64 29] 34 (0, 0)) (by (with_reducible repeat (first | refine blk_drewN ?_ _ | refine blk_drew ?_ | refine blk_alloc ?_ _)); exact BK178.out) hb); have n7_ := Aside0.mk (blk_below (g := gb179) (o := .cells #[.int .i64 90, .int .i64 90] 34 (0, 0)) (by (with_reducible repeat (first | refine blk_drewN ?_ _ | refine blk_drew ?_ | refine blk_alloc ?_ _)); exact BK179.out) hb); have n8_ := Aside0.mk (below_step (by repeat (first | (with_reducible first | exact HB.out | apply below_alloc | apply pw_below_drewN | apply below_drew1 | refine below_set ?_ GE177.out | refine below_set ?_ GE178.out | refine below_set ?_ GE179.out) | exact HB.out)) hb); clear HO174; clear HO176; clear HO181; clear HO183; clear BK177; clear BK178; clear BK179; clear HB; have HO174 := n0_; have HO176 := n1_; have HO181 := n2_; have HO183 := n3_; have HO186 := n4_; have BK177 := n5_; have BK178 := n6_; have BK179 := n7_; have HB := n8_; clear n0_ n1_ n2_ n3_ n4_ n5_ n6_ n7_ n8_; clear hb ho35; obtain ⟨Ao36, co36, eo36⟩ := Kd.R_slice HO186.out; subst eo36) | (go_at_call 15; refine calls_of_args (args' := #[.slice Ao16 [(⟨3, 30⟩ : S39), (⟨6, 60⟩ : S39), (⟨9, 90⟩ : S39)].length co16, .slice Ao36 y184.length co36]) (by first | rfl | done) ?_; (with_reducible refine (spileref14_Same.calls 400 _ _ [(⟨3, 30⟩ : S39), (⟨6, 60⟩ : S39), (⟨9, 90⟩ : S39)] _ _ y184 true _ ?side1 ?side2 ?side3 ?side4 A10.out).mono ?_); (case side1 => repeat (first | exact (Kd.R_reads' HO176.out).2.2 | (with_reducible refine Kd.C_alloc ?_ _) | (with_reducible refine Kd.C_drewN ?_ _) | (with_reducible refine Kd.C_drew ?_))); (case side2 => exact (Kd.R_reads' HO176.out).2.1); (case side3 => repeat (first | exact (Kd.R_reads' HO186.out).2.2 | (with_reducible refine Kd.C_alloc ?_ _) | (with_reducible refine Kd.C_drewN ?_ _) | (with_reducible refine Kd.C_drew ?_))); (case side4 => exact (Kd.R_reads' HO186.out).2.1); rintro e w37 ⟨rfl, hb⟩; have n0_ := Aside0.mk (Kd.R_below (by (with_reducible repeat (first | apply Kd.R_alloc | apply Kd.R_drewN | apply Kd.R_drew)); exact HO174.out) hb); have n1_ := Aside0.mk (Kd.R_below (by (with_reducible repeat (first | apply Kd.R_alloc | apply Kd.R_drewN | apply Kd.R_drew)); exact HO176.out) hb); have n2_ := Aside0.mk (Kd.R_below (by (with_reducible repeat (first | apply Kd.R_alloc | apply Kd.R_drewN | apply Kd.R_drew)); exact HO181.out) hb); have n3_ := Aside0.mk (Kd.R_below (by (with_reducible repeat (first | apply Kd.R_alloc | apply Kd.R_drewN | apply Kd.R_drew)); exact HO183.out) hb); have n4_ := Aside0.mk (Kd.R_below (by (with_reducible repeat (first | apply Kd.R_alloc | apply Kd.R_drewN | apply Kd.R_drew)); exact HO186.out) hb); have n5_ := Aside0.mk (blk_below (g := gb177) (o := .cells #[.int .i64 60, .int .i64 89] 34 (0, 0)) (by (with_reducible repeat (first | refine blk_drewN ?_ _ | refine blk_drew ?_ | refine blk_alloc ?_ _)); exact BK177.out) hb); have n6_ := Aside0.mk (blk_below (g := gb178) (o := .cells #[.int .i64 0, .int .i64 29] 34 (0, 0)) (by (with_reducible repeat (first | refine blk_drewN ?_ _ | refine blk_drew ?_ | refine blk_alloc ?_ _)); exact BK178.out) hb); have n7_ := Aside0.mk (blk_below (g := gb179) (o := .cells #[.int .i64 90, .int .i64 90] 34 (0, 0)) (by (with_reducible repeat (first | refine blk_drewN ?_ _ | refine blk_drew ?_ | refine blk_alloc ?_ _)); exact BK179.out) hb); have n8_ := Aside0.mk (below_step (by repeat (first | (with_reducible first | exact HB.out | apply below_alloc | apply pw_below_drewN | apply below_drew1 | refine below_set ?_ GE177.out | refine below_set ?_ GE178.out | refine below_set ?_ GE179.out) | exact HB.out)) hb); clear HO174; clear HO176; clear HO181; clear HO183; clear HO186; clear BK177; clear BK178; clear BK179; clear HB; have HO174 := n0_; have HO176 := n1_; have HO181 := n2_; have HO183 := n3_; have HO186 := n4_; have BK177 := n5_; have BK178 := n6_; have BK179 := n7_; have HB := n8_; clear n0_ n1_ n2_ n3_ n4_ n5_ n6_ n7_ n8_; (try clear hb); (try clear hb2); (try clear hk); (try clear hi); have hcz38_0 : w37.cell? ⟨gb177, 0, none⟩ = some (.int .i64 60) := (blk_cell BK177.out 0).trans rfl; have hcz38_1 : w37.cell? ⟨gb177, 1, none⟩ = some (.int .i64 89) := (blk_cell BK177.out 1).trans rfl; have hfz38_0 := blk_frozen BK177.out 0; have hfz38_1 := blk_frozen BK177.out 1; have hcz39_0 : w37.cell? ⟨gb178, 0, none⟩ = some (.int .i64 0) := (blk_cell BK178.out 0).trans rfl; have hcz39_1 : w37.cell? ⟨gb178, 1, none⟩ = some (.int .i64 29) := (blk_cell BK178.out 1).trans rfl; have hfz39_0 := blk_frozen BK178.out 0; have hfz39_1 := blk_frozen BK178.out 1; have hcz40_0 : w37.cell? ⟨gb179, 0, none⟩ = some (.int .i64 90) := (blk_cell BK179.out 0).trans rfl; have hcz40_1 : w37.cell? ⟨gb179, 1, none⟩ = some (.int .i64 90) := (blk_cell BK179.out 1).trans rfl; have hfz40_0 := blk_frozen BK179.out 0; have hfz40_1 := blk_frozen BK179.out 1; obtain ⟨Ao41, co41, eo41⟩ := Kd.R_slice HO183.out; subst eo41) | (go_at_call 15; refine calls_of_args (args' := #[.slice Ao41 [(⟨3, 30⟩ : S39), (⟨6, 60⟩ : S39), (⟨9, 90⟩ : S39)].length co41, .slice Ao16 [(⟨3, 30⟩ : S39), (⟨6, 60⟩ : S39), (⟨9, 90⟩ : S39)].length co16]) (by first | rfl | done) ?_; (with_reducible refine (spileref14_Same.calls 400 _ _ [(⟨3, 30⟩ : S39), (⟨6, 60⟩ : S39), (⟨9, 90⟩ : S39)] _ _ [(⟨3, 30⟩ : S39), (⟨6, 60⟩ : S39), (⟨9, 90⟩ : S39)] true _ ?side1 ?side2 ?side3 ?side4 A11.out).mono ?_); (case side1 => repeat (first | exact (Kd.R_reads' HO183.out).2.2 | (with_reducible refine Kd.C_alloc ?_ _) | (with_reducible refine Kd.C_drewN ?_ _) | (with_reducible refine Kd.C_drew ?_))); (case side2 => exact (Kd.R_reads' HO183.out).2.1); (case side3 => repeat (first | exact (Kd.R_reads' HO176.out).2.2 | (with_reducible refine Kd.C_alloc ?_ _) | (with_reducible refine Kd.C_drewN ?_ _) | (with_reducible refine Kd.C_drew ?_))); (case side4 => exact (Kd.R_reads' HO176.out).2.1); rintro e w42 ⟨rfl, hb⟩; have n0_ := Aside0.mk (Kd.R_below (by (with_reducible repeat (first | apply Kd.R_alloc | apply Kd.R_drewN | apply Kd.R_drew)); exact HO174.out) hb); have n1_ := Aside0.mk (Kd.R_below (by (with_reducible repeat (first | apply Kd.R_alloc | apply Kd.R_drewN | apply Kd.R_drew)); exact HO176.out) hb); have n2_ := Aside0.mk (Kd.R_below (by (with_reducible repeat (first | apply Kd.R_alloc | apply Kd.R_drewN | apply Kd.R_drew)); exact HO181.out) hb); have n3_ := Aside0.mk (Kd.R_below (by (with_reducible repeat (first | apply Kd.R_alloc | apply Kd.R_drewN | apply Kd.R_drew)); exact HO183.out) hb); have n4_ := Aside0.mk (Kd.R_below (by (with_reducible repeat (first | apply Kd.R_alloc | apply Kd.R_drewN | apply Kd.R_drew)); exact HO186.out) hb); have n5_ := Aside0.mk (blk_below (g := gb177) (o := .cells #[.int .i64 60, .int .i64 89] 34 (0, 0)) (by (with_reducible repeat (first | refine blk_drewN ?_ _ | refine blk_drew ?_ | refine blk_alloc ?_ _)); exact BK177.out) hb); have n6_ := Aside0.mk (blk_below (g := gb178) (o := .cells #[.int .i64 0, .int .i64 29] 34 (0, 0)) (by (with_reducible repeat (first | refine blk_drewN ?_ _ | refine blk_drew ?_ | refine blk_alloc ?_ _)); exact BK178.out) hb); have n7_ := Aside0.mk (blk_below (g := gb179) (o := .cells #[.int .i64 90, .int .i64 90] 34 (0, 0)) (by (with_reducible repeat (first | refine blk_drewN ?_ _ | refine blk_drew ?_ | refine blk_alloc ?_ _)); exact BK179.out) hb); have n8_ := Aside0.mk (below_step (by repeat (first | (with_reducible first | exact HB.out | apply below_alloc | apply pw_below_drewN | apply below_drew1 | refine below_set ?_ GE177.out | refine below_set ?_ GE178.out | refine below_set ?_ GE179.out) | exact HB.out)) hb); clear HO174; clear HO176; clear HO181; clear HO183; clear HO186; clear BK177; clear BK178; clear BK179; clear HB; have HO174 := n0_; have HO176 := n1_; have HO181 := n2_; have HO183 := n3_; have HO186 := n4_; have BK177 := n5_; have BK178 := n6_; have BK179 := n7_; have HB := n8_; clear n0_ n1_ n2_ n3_ n4_ n5_ n6_ n7_ n8_; (try clear hb); (try clear hb2); (try clear hk); (try clear hi)) | (go_at_call 21; refine calls_of_args (args' := #[.slice Ao16 [(⟨3, 30⟩ : S39), (⟨6, 60⟩ : S39), (⟨9, 90⟩ : S39)].length co16]) (by first | rfl | done) ?_; (with_reducible refine (rod_Check.calls 400 _ _ [(⟨3, 30⟩ : S39), (⟨6, 60⟩ : S39), (⟨9, 90⟩ : S39)] 0 _ ?side1 ?side2 A12.out).mono ?_); (case side1 => repeat (first | exact (Kd.R_reads' HO176.out).2.2 | (with_reducible refine Kd.C_alloc ?_ _) | (with_reducible refine Kd.C_drewN ?_ _) | (with_reducible refine Kd.C_drew ?_))); (case side2 => exact (Kd.R_reads' HO176.out).2.1); rintro e w43 ⟨rfl, hb⟩; have n0_ := Aside0.mk (Kd.R_below (by (with_reducible repeat (first | apply Kd.R_alloc | apply Kd.R_drewN | apply Kd.R_drew)); exact HO174.out) hb); have n1_ := Aside0.mk (Kd.R_below (by (with_reducible repeat (first | apply Kd.R_alloc | apply Kd.R_drewN | apply Kd.R_drew)); exact HO176.out) hb); have n2_ := Aside0.mk (Kd.R_below (by (with_reducible repeat (first | apply Kd.R_alloc | apply Kd.R_drewN | apply Kd.R_drew)); exact HO181.out) hb); have n3_ := Aside0.mk (Kd.R_below (by (with_reducible repeat (first | apply Kd.R_alloc | apply Kd.R_drewN | apply Kd.R_drew)); exact HO183.out) hb); have n4_ := Aside0.mk (Kd.R_below (by (with_reducible repeat (first | apply Kd.R_alloc | apply Kd.R_drewN | apply Kd.R_drew)); exact HO186.out) hb); have n5_ := Aside0.mk (blk_below (g := gb177) (o := .cells #[.int .i64 60, .int .i64 89] 34 (0, 0)) (by (with_reducible repeat (first | refine blk_drewN ?_ _ | refine blk_drew ?_ | refine blk_alloc ?_ _)); exact BK177.out) hb); have n6_ := Aside0.mk (blk_below (g := gb178) (o := .cells #[.int .i64 0, .int .i64 29] 34 (0, 0)) (by (with_reducible repeat (first | refine blk_drewN ?_ _ | refine blk_drew ?_ | refine blk_alloc ?_ _)); exact BK178.out) hb); have n7_ := Aside0.mk (blk_below (g := gb179) (o := .cells #[.int .i64 90, .int .i64 90] 34 (0, 0)) (by (with_reducible repeat (first | refine blk_drewN ?_ _ | refine blk_drew ?_ | refine blk_alloc ?_ _)); exact BK179.out) hb); have n8_ := Aside0.mk (below_step (by repeat (first | (with_reducible first | exact HB.out | apply below_alloc | apply pw_below_drewN | apply below_drew1 | refine below_set ?_ GE177.out | refine below_set ?_ GE178.out | refine below_set ?_ GE179.out) | exact HB.out)) hb); clear HO174; clear HO176; clear HO181; clear HO183; clear HO186; clear BK177; clear BK178; clear BK179; clear HB; have HO174 := n0_; have HO176 := n1_; have HO181 := n2_; have HO183 := n3_; have HO186 := n4_; have BK177 := n5_; have BK178 := n6_; have BK179 := n7_; have HB := n8_; clear n0_ n1_ n2_ n3_ n4_ n5_ n6_ n7_ n8_; (try clear hb); (try clear hb2); (try clear hk); (try clear hi)))
 go_ret
 exact ⟨by first | rfl | (simp [errW_none, errW_some] <;> rfl) | (simp [*, errW_none, errW_some] <;> rfl), by repeat (first | (with_reducible first | exact HB.out | apply below_alloc | apply pw_below_drewN | apply below_drew1 | refine below_set ?_ GE177.out | refine below_set ?_ GE178.out | refine below_set ?_ GE179.out) | exact HB.out)⟩
def spileref13_Few.f (l0_0 : List (S39)) (a0_1 : Int) : Option (Bool) := some (decide ((l0_0.length : Int) ≤ 129))
set_option maxHeartbeats 8000000 in
set_option maxRecDepth 100000 in
theorem spileref13_Few.calls (A0_0 : Option Addr) (c0_0 : Nat) (l0_0 : List (S39)) (a0_1 : Int) (r : Bool) (w : World) (hr0_0 : Kd.C k39 w A0_0 l0_0.length l0_0) (hc0_0 : l0_0.length ≤ c0_0) (h : spileref13_Few.f l0_0 a0_1 = some r) :
  Calls Tryd.prog 31 #[.agg #[.slice A0_0 l0_0.length c0_0, .int .i64 a0_1]] w fun e w' => e = .returned (.bool r) ∧ Below w.heap.size w w' := by
 have hu24 := Tryd.underlying24
 have HR0_0 := Aside0.mk hr0_0
 have HC0_0 := Aside0.mk hc0_0
 clear hr0_0 hc0_0
 have HB := Aside0.mk (Below.refl w.heap.size w)
 have H : (some (decide ((l0_0.length : Int) ≤ 129))) = some r := h
 clear h
 obtain rfl := Option.some.inj H
 go_enter Tryd.func31, Tryd.ntmps31
 go_wp2_with (first | ((with_reducible refine gate_dst (N := 1) rfl ?_); refine box_event ?hg (N := 1) ?hd (cs := #[.slice A0_0 l0_0.length c0_0, .int .i64 a0_1]) (t := 24) ?hr ?_; (case hd => rfl); (case hg => rfl); (case hr => first | (go_simp; done) | (go_simp; rfl)); intro gb187 hg w2 hbox hb; have n0_ := Aside0.mk (below_step (by repeat (first | (with_reducible first | exact HB.out | apply below_alloc | apply pw_below_drewN | apply below_drew1) | exact HB.out)) hb); have n1_ := Aside0.mk (hbox); have n2_ := Aside0.mk ((by rw [hg]; exact (below_size (by repeat (first | (with_reducible first | exact HB.out | apply below_alloc | apply pw_below_drewN | apply below_drew1) | exact HB.out))) : w.heap.size ≤ gb187)); have n3_ := Aside0.mk ((by rw [hg]; exact (below_size (by repeat (first | (with_reducible first | exact HB.out | apply below_alloc | apply pw_below_drewN | apply below_drew1) | exact HB.out))) : w.heap.size ≤ gb187)); clear HB; have HB := n0_; have BK187 := n1_; have GW187 := n2_; have GE187 := n3_; clear n0_ n1_ n2_ n3_; clear hb hbox hg; have hcz3_0 : w2.cell? ⟨gb187, 0, none⟩ = some (.slice A0_0 l0_0.length c0_0) := (blk_cell BK187.out 0).trans rfl; have hcz3_1 : w2.cell? ⟨gb187, 1, none⟩ = some (.int .i64 a0_1) := (blk_cell BK187.out 1).trans rfl; have hfz3_0 := blk_frozen BK187.out 0; have hfz3_1 := blk_frozen BK187.out 1))
 go_ret
 exact ⟨by first | rfl | (simp [errW_none, errW_some] <;> rfl) | (simp [*, errW_none, errW_some] <;> rfl), by repeat (first | (with_reducible first | exact HB.out | apply below_alloc | apply pw_below_drewN | apply below_drew1 | refine below_set ?_ GE187.out) | exact HB.out)⟩
def spilelaw14_few.f (l0 : List (S39)) (l1_0 : List (S39)) (a1_1 : Int) : Option (Bool) := if (l0.length : Int) ≤ 129 then ((spileref13_Few.f l1_0 a1_1).bind fun t189 => (some t189)) else (some false)
set_option maxHeartbeats 8000000 in
set_option maxRecDepth 100000 in
theorem spilelaw14_few.calls (A0 : Option Addr) (c0 : Nat) (l0 : List (S39)) (A1_0 : Option Addr) (c1_0 : Nat) (l1_0 : List (S39)) (a1_1 : Int) (r : Bool) (w : World) (hr0 : Kd.C k39 w A0 l0.length l0) (hc0 : l0.length ≤ c0) (hr1_0 : Kd.C k39 w A1_0 l1_0.length l1_0) (hc1_0 : l1_0.length ≤ c1_0) (h : spilelaw14_few.f l0 l1_0 a1_1 = some r) :
  Calls Tryd.prog 11 #[.slice A0 l0.length c0, .agg #[.slice A1_0 l1_0.length c1_0, .int .i64 a1_1]] w fun e w' => e = .returned (.bool r) ∧ Below w.heap.size w w' := by
 have hu24 := Tryd.underlying24
 have HR0 := Aside0.mk hr0
 have HC0 := Aside0.mk hc0
 clear hr0 hc0
 have HR1_0 := Aside0.mk hr1_0
 have HC1_0 := Aside0.mk hc1_0
 clear hr1_0 hc1_0
 have HB := Aside0.mk (Below.refl w.heap.size w)
 have H : (if (l0.length : Int) ≤ 129 then ((spileref13_Few.f l1_0 a1_1).bind fun t189 => (some t189)) else (some false)) = some r := h
 clear h
 by_cases c3 : (l0.length : Int) ≤ 129
 ·
  rw [if_pos c3] at H
  have c3b0 : decide ((l0.length : Int) ≤ 129) = true := decide_eq_true c3
  have c3b1 : decide (l0.length ≤ 129) = true := decide_eq_true (by omega)
  clear c3
  replace H := Option.bind_eq_some_iff.mp H
  obtain ⟨t189, A40, H⟩ := H
  replace H : (some t189) = some r := H
  have A4 := Aside0.mk A40
  clear A40
  obtain rfl := Option.some.inj H
  go_enter Tryd.func11, Tryd.ntmps11
  go_wp2_with (first | ((with_reducible refine gate_dst (N := 3) rfl ?_); refine box_event ?hg (N := 3) ?hd (cs := #[.slice A1_0 l1_0.length c1_0, .int .i64 a1_1]) (t := 24) ?hr ?_; (case hd => rfl); (case hg => rfl); (case hr => first | (go_simp; done) | (go_simp; rfl)); intro gb188 hg w5 hbox hb; have n0_ := Aside0.mk (below_step (by repeat (first | (with_reducible first | exact HB.out | apply below_alloc | apply pw_below_drewN | apply below_drew1) | exact HB.out)) hb); have n1_ := Aside0.mk (hbox); have n2_ := Aside0.mk ((by rw [hg]; exact (below_size (by repeat (first | (with_reducible first | exact HB.out | apply below_alloc | apply pw_below_drewN | apply below_drew1) | exact HB.out))) : w.heap.size ≤ gb188)); have n3_ := Aside0.mk ((by rw [hg]; exact (below_size (by repeat (first | (with_reducible first | exact HB.out | apply below_alloc | apply pw_below_drewN | apply below_drew1) | exact HB.out))) : w.heap.size ≤ gb188)); clear HB; have HB := n0_; have BK188 := n1_; have GW188 := n2_; have GE188 := n3_; clear n0_ n1_ n2_ n3_; clear hb hbox hg; have hcz6_0 : w5.cell? ⟨gb188, 0, none⟩ = some (.slice A1_0 l1_0.length c1_0) := (blk_cell BK188.out 0).trans rfl; have hcz6_1 : w5.cell? ⟨gb188, 1, none⟩ = some (.int .i64 a1_1) := (blk_cell BK188.out 1).trans rfl; have hfz6_0 := blk_frozen BK188.out 0; have hfz6_1 := blk_frozen BK188.out 1) | (go_at_call 31; (with_reducible refine (spileref13_Few.calls _ _ l1_0 a1_1 t189 _ ?side1 ?side2 A4.out).mono ?_); (case side1 => repeat (first | exact (Kd.C_below HR1_0.out HB.out) | (with_reducible refine Kd.C_alloc ?_ _) | (with_reducible refine Kd.C_drewN ?_ _) | (with_reducible refine Kd.C_drew ?_))); (case side2 => exact HC1_0.out); rintro e w7 ⟨rfl, hb⟩; have n0_ := Aside0.mk (blk_below (g := gb188) (o := .cells #[.slice A1_0 l1_0.length c1_0, .int .i64 a1_1] 24 (0, 0)) (by (with_reducible repeat (first | refine blk_drewN ?_ _ | refine blk_drew ?_ | refine blk_alloc ?_ _)); exact BK188.out) hb); have n1_ := Aside0.mk (below_step (by repeat (first | (with_reducible first | exact HB.out | apply below_alloc | apply pw_below_drewN | apply below_drew1 | refine below_set ?_ GE188.out) | exact HB.out)) hb); clear BK188; clear HB; have BK188 := n0_; have HB := n1_; clear n0_ n1_; (try clear hb); (try clear hb2); (try clear hk); (try clear hi)))
  go_ret
  exact ⟨by first | rfl | (simp [errW_none, errW_some] <;> rfl) | (simp [*, errW_none, errW_some] <;> rfl), by repeat (first | (with_reducible first | exact HB.out | apply below_alloc | apply pw_below_drewN | apply below_drew1 | refine below_set ?_ GE188.out) | exact HB.out)⟩
 ·
  rw [if_neg c3] at H
  have c3b0 : decide ((l0.length : Int) ≤ 129) = false := decide_eq_false c3
  have c3b1 : decide (l0.length ≤ 129) = false := decide_eq_false (by omega)
  clear c3
  obtain rfl := Option.some.inj H
  go_enter Tryd.func11, Tryd.ntmps11
  go_wp2_with (first | ((with_reducible refine gate_dst (N := 3) rfl ?_); refine box_event ?hg (N := 3) ?hd (cs := #[.slice A1_0 l1_0.length c1_0, .int .i64 a1_1]) (t := 24) ?hr ?_; (case hd => rfl); (case hg => rfl); (case hr => first | (go_simp; done) | (go_simp; rfl)); intro gb188 hg w8 hbox hb; have n0_ := Aside0.mk (below_step (by repeat (first | (with_reducible first | exact HB.out | apply below_alloc | apply pw_below_drewN | apply below_drew1) | exact HB.out)) hb); have n1_ := Aside0.mk (hbox); have n2_ := Aside0.mk ((by rw [hg]; exact (below_size (by repeat (first | (with_reducible first | exact HB.out | apply below_alloc | apply pw_below_drewN | apply below_drew1) | exact HB.out))) : w.heap.size ≤ gb188)); have n3_ := Aside0.mk ((by rw [hg]; exact (below_size (by repeat (first | (with_reducible first | exact HB.out | apply below_alloc | apply pw_below_drewN | apply below_drew1) | exact HB.out))) : w.heap.size ≤ gb188)); clear HB; have HB := n0_; have BK188 := n1_; have GW188 := n2_; have GE188 := n3_; clear n0_ n1_ n2_ n3_; clear hb hbox hg))
  go_ret
  exact ⟨by first | rfl | (simp [errW_none, errW_some] <;> rfl) | (simp [*, errW_none, errW_some] <;> rfl), by repeat (first | (with_reducible first | exact HB.out | apply below_alloc | apply pw_below_drewN | apply below_drew1 | refine below_set ?_ GE188.out) | exact HB.out)⟩
def spileref13_Copy.f (l0_0 : List (S39)) (a0_1 : Int) : Option ((List (S39)) × Int) := (some (([] : List (S39)) : List (S39))).bind fun y192 => (if y192.length + l0_0.length < 8796093022208 then (some ((y192 ++ l0_0), a0_1)) else (none))
def spileref13_Copy.T1 : Bool × List (List Nat × List Nat) := (true, [([], []), ([], []), ([1], [1]), ([0, 2], [0, 2]), ([], []), ([4], [4]), ([3, 5], [3, 5]), ([6, 3, 0, 1, 2, 3, 4, 5, 6], [6])])
def spileref13_Copy.B1 : List Nat := [0, 0, 2, 7, 0, 16, 63, 127]
theorem spileref13_Copy.tab1 : rtab .any (opsOf Tryd.f13 1) = spileref13_Copy.T1 := by kernel_rfl
theorem spileref13_Copy.bits1 : waitsOk spileref13_Copy.T1.2 spileref13_Copy.B1 = true := by kernel_rfl
set_option maxHeartbeats 8000000 in
set_option maxRecDepth 100000 in
theorem spileref13_Copy.calls (A0_0 : Option Addr) (c0_0 : Nat) (l0_0 : List (S39)) (a0_1 : Int) (r1 : List (S39)) (r2 : Int) (w : World) (hr0_0 : Kd.C k39 w A0_0 l0_0.length l0_0) (hc0_0 : l0_0.length ≤ c0_0) (h : spileref13_Copy.f l0_0 a0_1 = some (r1, r2)) :
  Calls Tryd.prog 13 #[.agg #[.slice A0_0 l0_0.length c0_0, .int .i64 a0_1]] w fun e w' => ∃ v0_ : Value, e = .returned (.agg #[v0_, .int .i64 r2]) ∧ Kd.R k39 39 w' w.heap.size (fun _ => True) v0_ r1 ∧ Below w.heap.size w w' := by
 have hu24 := Tryd.underlying24
 have HR0_0 := Aside0.mk hr0_0
 have HC0_0 := Aside0.mk hc0_0
 clear hr0_0 hc0_0
 have HB := Aside0.mk (Below.refl w.heap.size w)
 have H : ((some (([] : List (S39)) : List (S39))).bind fun y192 => (if y192.length + l0_0.length < 8796093022208 then (some ((y192 ++ l0_0), a0_1)) else (none))) = some (r1, r2) := h
 clear h
 obtain ⟨y192, hy192⟩ : ∃ y_ : List (S39), y_ = (([] : List (S39))) := ⟨_, rfl⟩
 replace H : (if y192.length + l0_0.length < 8796093022208 then (some ((y192 ++ l0_0), a0_1)) else (none)) = some (r1, r2) := by first | (rw [hy192]; with_reducible exact H) | (have H2_ := (Option.bind_some _ _).symm.trans H; rw [hy192]; with_reducible exact H2_) | (have H2_ := (Option.bind_some _ _).symm.trans H; with_reducible exact H2_) | with_reducible exact H | (rw [hy192]; exact H) | exact H
 have Ny192 := Aside0.mk hy192
 clear hy192
 by_cases c2 : y192.length + l0_0.length < 8796093022208
 ·
  rw [if_pos c2] at H
  have LMc2 := Aside0.mk c2
  clear c2
  obtain ⟨y195, hy195⟩ : ∃ y_ : List (S39), y_ = (y192 ++ l0_0) := ⟨_, rfl⟩
  replace H : (some (y195, a0_1)) = some (r1, r2) := by first | (rw [hy195]; with_reducible exact H) | (have H2_ := (Option.bind_some _ _).symm.trans H; rw [hy195]; with_reducible exact H2_) | (have H2_ := (Option.bind_some _ _).symm.trans H; with_reducible exact H2_) | with_reducible exact H | (rw [hy195]; exact H) | exact H
  have Ny195 := Aside0.mk hy195
  clear hy195
  simp only [Option.some.injEq, Prod.mk.injEq] at H
  obtain ⟨rfl, rfl⟩ := H
  go_enter Tryd.func13, Tryd.ntmps13
  try go_wp2_with (first | ((with_reducible refine gate_dst (N := 1) rfl ?_); refine box_event ?hg (N := 1) ?hd (cs := #[.slice A0_0 l0_0.length c0_0, .int .i64 a0_1]) (t := 24) ?hr ?_; (case hd => rfl); (case hg => rfl); (case hr => first | (go_simp; done) | (go_simp; rfl)); intro gb190 hg w3 hbox hb; have n0_ := Aside0.mk (below_step (by repeat (first | (with_reducible first | exact HB.out | apply below_alloc | apply pw_below_drewN | apply below_drew1) | exact HB.out)) hb); have n1_ := Aside0.mk (hbox); have n2_ := Aside0.mk ((by rw [hg]; exact (below_size (by repeat (first | (with_reducible first | exact HB.out | apply below_alloc | apply pw_below_drewN | apply below_drew1) | exact HB.out))) : w.heap.size ≤ gb190)); have n3_ := Aside0.mk ((by rw [hg]; exact (below_size (by repeat (first | (with_reducible first | exact HB.out | apply below_alloc | apply pw_below_drewN | apply below_drew1) | exact HB.out))) : w.heap.size ≤ gb190)); clear HB; have HB := n0_; have BK190 := n1_; have GW190 := n2_; have GE190 := n3_; clear n0_ n1_ n2_ n3_; clear hb hbox hg) | ((with_reducible refine gate_dst (N := 2) rfl ?_); refine box_event ?hg (N := 2) ?hd (cs := #[.slice none 0 0, .int .i64 0]) (t := 24) ?hr ?_; (case hd => rfl); (case hg => rfl); (case hr => first | (go_simp; done) | (go_simp; rfl)); intro gb191 hg w4 hbox hb; have n0_ := Aside0.mk (blk_below (g := gb190) (o := .cells #[.slice A0_0 l0_0.length c0_0, .int .i64 a0_1] 24 (0, 0)) (by (with_reducible repeat (first | refine blk_drewN ?_ _ | refine blk_drew ?_ | refine blk_alloc ?_ _)); exact BK190.out) hb); have n1_ := Aside0.mk (below_step (by repeat (first | (with_reducible first | exact HB.out | apply below_alloc | apply pw_below_drewN | apply below_drew1 | refine below_set ?_ GE190.out) | exact HB.out)) hb); have n2_ := Aside0.mk (hbox); have n3_ := Aside0.mk ((by rw [hg]; exact (below_size (by repeat (first | (with_reducible first | exact HB.out | apply below_alloc | apply pw_below_drewN | apply below_drew1 | refine below_set ?_ GE190.out) | exact HB.out))) : w.heap.size ≤ gb191)); have n4_ := Aside0.mk ((by rw [hg]; exact (below_size (by repeat (first | (with_reducible first | exact HB.out | apply below_alloc | apply pw_below_drewN | apply below_drew1 | refine below_set ?_ GE190.out) | exact HB.out))) : w.heap.size ≤ gb191)); have n5_ := Aside0.mk ((by rw [hg]; exact Nat.ne_of_lt (blk_lt (g := gb190) (o := .cells #[.slice A0_0 l0_0.length c0_0, .int .i64 a0_1] 24 (0, 0)) (by (with_reducible repeat (first | refine blk_drewN ?_ _ | refine blk_drew ?_ | refine blk_alloc ?_ _)); exact BK190.out)) : gb190 ≠ gb191)); have n6_ := Aside0.mk ((by rw [hg]; exact Nat.ne_of_gt (blk_lt (g := gb190) (o := .cells #[.slice A0_0 l0_0.length c0_0, .int .i64 a0_1] 24 (0, 0)) (by (with_reducible repeat (first | refine blk_drewN ?_ _ | refine blk_drew ?_ | refine blk_alloc ?_ _)); exact BK190.out)) : gb191 ≠ gb190)); clear BK190; clear HB; have BK190 := n0_; have HB := n1_; have BK191 := n2_; have GW191 := n3_; have GE191 := n4_; have NB190_191 := n5_; have NB191_190 := n6_; clear n0_ n1_ n2_ n3_ n4_ n5_ n6_; clear hb hbox hg))
  have n0_ := Aside0.mk (blk_drew BK190.out)
  have n1_ := Aside0.mk (blk_drew BK191.out)
  have n2_ := Aside0.mk (below_drew1 HB.out)
  clear BK190
  clear BK191
  clear HB
  have BK190 := n0_
  have BK191 := n1_
  have HB := n2_
  clear n0_ n1_ n2_
  refine start_ (n := 8) (S := fun w' => w'.cell? ⟨gb190, 0, none⟩ = some (.slice A0_0 l0_0.length c0_0) ∧ w'.cell? ⟨gb190, 1, none⟩ = some (.int .i64 a0_1)) (ds := []) #[false, false, false, false, false, false, false, false] (by kernel_rfl) rfl rfl ⟨(blk_cell BK190.out 0).trans rfl, (blk_cell BK190.out 1).trans rfl⟩ (fun hHeld => ?_); refine with_tabW spileref13_Copy.tab1 spileref13_Copy.bits1 (fun HT_ HW_ => ?_)
  generalize w4.drew = w5 at BK190 BK191 HB hHeld ⊢
  refine pure_ (i := 1) (N := some 4) (v := ?_) (a' := ?_) #[false, true, false, false, false, false, false, false] rfl rfl (any_of HT_.out (by kernel_rfl)) (fun _ _ _ h => h) (Or.inl ⟨by rfl, ?_⟩) ?_ ?_
  rotate_left
  ·
   intro w'
   go_simp
   with_reducible rfl
  rotate_left
  ·
   simp only [Act.put, List.setIfInBounds_toArray, List.set_cons_zero, List.set_cons_succ, i64_w, i32_w]
   rfl
  refine pure_ (i := 4) (N := some 7) (v := ?_) (a' := ?_) #[false, true, false, false, true, false, false, false] rfl rfl (any_of HT_.out (by kernel_rfl)) (fun _ _ _ h => h) (Or.inl ⟨by rfl, ?_⟩) ?_ ?_
  rotate_left
  ·
   intro w'
   go_simp
   with_reducible rfl
  rotate_left
  ·
   simp only [Act.put, List.setIfInBounds_toArray, List.set_cons_zero, List.set_cons_succ, i64_w, i32_w]
   rfl
  refine take_ (i := 2) (N := some 5) (v := ?_) (a' := ?_) #[false, true, true, false, true, false, false, false] rfl rfl (take_ofW HT_.out HW_.out (by kernel_rfl)) (fun _ _ _ h => h) (Or.inl ⟨by rfl, ?_⟩) hHeld ?_ ?_
  rotate_left
  ·
   rintro w' ⟨s0, s1⟩
   go_simp
   with_reducible rfl
  rotate_left
  ·
   simp only [Act.put, List.setIfInBounds_toArray, List.set_cons_zero, List.set_cons_succ, i64_w, i32_w]
   rfl
  refine take_ (i := 5) (N := some 8) (v := ?_) (a' := ?_) #[false, true, true, false, true, true, false, false] rfl rfl (take_ofW HT_.out HW_.out (by kernel_rfl)) (fun _ _ _ h => h) (Or.inl ⟨by rfl, ?_⟩) hHeld ?_ ?_
  rotate_left
  ·
   rintro w' ⟨s0, s1⟩
   go_simp
   with_reducible rfl
  rotate_left
  ·
   simp only [Act.put, List.setIfInBounds_toArray, List.set_cons_zero, List.set_cons_succ, i64_w, i32_w]
   rfl
  refine one_ (i := 0) (N := some 3) #[true, true, true, false, true, true, false, false] rfl rfl (one_of HT_.out (by kernel_rfl)) (by decide) (fun K hK => ?_)
  refine Kd.R_lit_step k39 _ 39 ?hg (N := 3) ?hd (xs := ([] : List (S39))) (inner := []) (ok := fun _ => True) (okp := fun _ => True) ?hr ?hp (fun _ hk => hk) trivial (Below.refl _ _) (Nat.le_refl _) (by simp) ?_; (case hd => rfl); (case hg => rfl); (case hr => first | (go_simp; done) | (go_simp; rfl)); (case hp => exact (Reps.none _ _))
  intro v193 w6 ho7 hb hg_ hnew_
  clear hg_ hnew_
  (first | rw [← Ny192.out] at ho7 | (simp only [Int.reduceToNat] at ho7; rw [← Ny192.out] at ho7))
  have n0_ := Aside0.mk (Kd.R_lower ho7 (below_size (by repeat (first | (with_reducible first | exact HB.out | apply below_alloc | apply pw_below_drewN | apply below_drew1 | refine below_set ?_ GE190.out | refine below_set ?_ GE191.out) | exact HB.out))))
  have n1_ := Aside0.mk (blk_below (g := gb190) (o := .cells #[.slice A0_0 l0_0.length c0_0, .int .i64 a0_1] 24 (0, 0)) (by (with_reducible repeat (first | refine blk_drewN ?_ _ | refine blk_drew ?_ | refine blk_alloc ?_ _)); exact BK190.out) hb)
  have n2_ := Aside0.mk (blk_below (g := gb191) (o := .cells #[.slice none 0 0, .int .i64 0] 24 (0, 0)) (by (with_reducible repeat (first | refine blk_drewN ?_ _ | refine blk_drew ?_ | refine blk_alloc ?_ _)); exact BK191.out) hb)
  have n3_ := Aside0.mk (below_step (by repeat (first | (with_reducible first | exact HB.out | apply below_alloc | apply pw_below_drewN | apply below_drew1 | refine below_set ?_ GE190.out | refine below_set ?_ GE191.out) | exact HB.out)) hb)
  clear BK190
  clear BK191
  clear HB
  have HO194 := n0_
  have BK190 := n1_
  have BK191 := n2_
  have HB := n3_
  clear n0_ n1_ n2_ n3_
  clear hb ho7
  refine hK.out _ _ ⟨(blk_cell BK190.out 0).trans rfl, (blk_cell BK190.out 1).trans rfl⟩ (fun hHeld => ?_)
  clear hK K
  refine norm_ (a' := ?_) ?_ ?_
  rotate_left
  ·
   show Act.put _ (some 3) _ = _
   simp only [Act.put, List.setIfInBounds_toArray, List.set_cons_zero, List.set_cons_succ, i64_w, i32_w]
   rfl
  refine one_ (i := 3) (N := some 6) #[true, true, true, true, true, true, false, false] rfl rfl (one_of HT_.out (by kernel_rfl)) (by decide) (fun K hK => ?_)
  refine Kd.R_append_rows_step k39 (w0 := w) w.heap.size (by rfl) (.tmp 3) (.tmp 5) 22 39 (.agg #[(.int .i64 0), (.int .i64 0)]) 16 rfl Tryd.underlying22 info39 rfl (by decide) (by omega) v193 y192 l0_0 _ _ _ (fun _ => True) (fun _ => False) rfl rfl ?aO ?aR (fun _ _ h => h) (fun _ h => h.elim) ?aF ?aB ?aS ?aL ?_
  (case aR => repeat (first | exact (Kd.C_below HR0_0.out HB.out) | (with_reducible refine Kd.C_alloc ?_ _) | (with_reducible refine Kd.C_drewN ?_ _) | (with_reducible refine Kd.C_drew ?_)))
  (case aB => exact (by repeat (first | (with_reducible first | exact HB.out | apply below_alloc | apply pw_below_drewN | apply below_drew1 | refine below_set ?_ GE190.out | refine below_set ?_ GE191.out) | exact HB.out)))
  (case aF => exact (fun _ _ => trivial))
  (case aO => exact (by (with_reducible repeat (first | apply Kd.R_alloc | apply Kd.R_drewN | apply Kd.R_drew)); exact HO194.out))
  (case aS => exact (below_size (by repeat (first | (with_reducible first | exact HB.out | apply below_alloc | apply pw_below_drewN | apply below_drew1 | refine below_set ?_ GE190.out | refine below_set ?_ GE191.out) | exact HB.out))))
  (case aL => have := LMc2.out; omega)
  intro v196 w8 ho hb hg hat
  rw [← Ny195.out] at ho
  have n0_ := Aside0.mk (blk_grown (g := gb190) (o := .cells #[.slice A0_0 l0_0.length c0_0, .int .i64 a0_1] 24 (0, 0)) (by (with_reducible repeat (first | refine blk_drewN ?_ _ | refine blk_drew ?_ | refine blk_alloc ?_ _)); exact BK190.out) hg (Kd.R_ne HO194.out BK190.out (by decide)))
  have n1_ := Aside0.mk (blk_grown (g := gb191) (o := .cells #[.slice none 0 0, .int .i64 0] 24 (0, 0)) (by (with_reducible repeat (first | refine blk_drewN ?_ _ | refine blk_drew ?_ | refine blk_alloc ?_ _)); exact BK191.out) hg (Kd.R_ne HO194.out BK191.out (by decide)))
  have n2_ := Aside0.mk (hb)
  have n3_ := Aside0.mk (ho)
  clear BK190
  clear BK191
  clear HB
  clear HO194
  have BK190 := n0_
  have BK191 := n1_
  have HB := n2_
  have HO197 := n3_
  clear n0_ n1_ n2_ n3_
  clear ho hb hg hat
  obtain ⟨Ao9, co9, eo9⟩ := Kd.R_slice HO197.out
  (first | subst eo9 | (injection eo9 with f1_ f2_ f3_; have f4_ := f1_.symm; have f5_ := f3_.symm; clear f1_ f2_ f3_; subst f4_; subst f5_))
  refine hK.out _ _ ⟨(blk_cell BK190.out 0).trans rfl, (blk_cell BK190.out 1).trans rfl⟩ (fun hHeld => ?_)
  clear hK K
  refine norm_ (a' := ?_) ?_ ?_
  rotate_left
  ·
   show Act.put _ (some 6) _ = _
   simp only [Act.put, List.setIfInBounds_toArray, List.set_cons_zero, List.set_cons_succ, i64_w, i32_w]
   rfl
  refine pure_ (i := 6) (N := some 9) (v := ?_) (a' := ?_) #[true, true, true, true, true, true, true, false] rfl rfl (any_of HT_.out (by kernel_rfl)) (fun _ _ _ h => h) (Or.inl ⟨by rfl, ?_⟩) ?_ ?_
  rotate_left
  ·
   intro w'
   go_simp
   with_reducible rfl
  rotate_left
  ·
   simp only [Act.put, List.setIfInBounds_toArray, List.set_cons_zero, List.set_cons_succ, i64_w, i32_w]
   rfl
  refine one_ (i := 7) (N := none) #[true, true, true, true, true, true, true, true] rfl rfl (one_of HT_.out (by kernel_rfl)) (by decide) (fun K hK => ?_)
  have hs10 : w8.cell? ⟨gb191, 0, none⟩ = some (.slice none 0 0) := (blk_cell BK191.out 0).trans rfl
  have hfs10 := blk_frozen BK191.out 0
  have hns10_0 := NB190_191.out
  have hms10_0 := NB191_190.out
  have hs11 : w8.cell? ⟨gb191, 1, none⟩ = some (.int .i64 0) := (blk_cell BK191.out 1).trans rfl
  have hfs11 := blk_frozen BK191.out 1
  have hns11_0 := NB190_191.out
  have hms11_0 := NB191_190.out
  refine skip_ (w1 := ?_) (by rfl) rfl ?_ ?_
  rotate_left
  ·
   go_simp
   rfl
  refine hK.out _ _ ⟨((cell_far (p := ⟨gb191, _, none⟩) NB190_191.out _).trans (((cell_far (p := ⟨gb191, _, none⟩) NB190_191.out _).trans (hHeld.1)))), ((cell_far (p := ⟨gb191, _, none⟩) NB190_191.out _).trans (((cell_far (p := ⟨gb191, _, none⟩) NB190_191.out _).trans (hHeld.2))))⟩ (fun hHeld => ?_)
  clear hK K
  refine done_ (done_of HT_.out (by kernel_rfl)) ?_
  try go_wp2
  refine bodyPost_ret (results_cell_row rfl _ _ gb191 24 #[.slice Ao9 y195.length co9, .int .i64 a0_1] (0, 0) _ rfl (by (with_reducible repeat (first | refine blk_drewN ?_ _ | refine blk_drew ?_ | refine blk_alloc ?_ _)); refine blk_put (cs := #[.slice Ao9 y195.length co9, .int .i64 0]) ?_ 1 _ rfl; (with_reducible repeat (first | refine blk_drewN ?_ _ | refine blk_drew ?_ | refine blk_alloc ?_ _)); refine blk_put (cs := #[.slice none 0 0, .int .i64 0]) ?_ 0 _ rfl; (with_reducible repeat (first | refine blk_drewN ?_ _ | refine blk_drew ?_ | refine blk_alloc ?_ _)); exact BK191.out) Tryd.underlying24 rfl (by kernel_rfl)) rfl ?_
  exact ⟨_, by first | rfl | (simp [errW_none, errW_some] <;> rfl) | (simp [*, errW_none, errW_some] <;> rfl), by (with_reducible repeat (first | apply Kd.R_alloc | apply Kd.R_drewN | apply Kd.R_drew)); exact Kd.R_mono (Kd.R_far (p := ⟨gb191, 1, none⟩) (Kd.R_far (p := ⟨gb191, 0, none⟩) (Kd.R_types HO197.out BK191.out (by decide)) (fun _ hk => hk.2) (.slice Ao9 y195.length co9)) (fun _ hk => hk.2) (.int .i64 a0_1)) (fun _ hk => trivial), by repeat (first | (with_reducible first | exact HB.out | apply below_alloc | apply pw_below_drewN | apply below_drew1 | refine below_set ?_ GE190.out | refine below_set ?_ GE191.out) | exact HB.out)⟩
 ·
  rw [if_neg c2] at H
  exact absurd H (by simp)
end Go.Proofs.YtkolhpacpbhceaaDoor.Pr
namespace Go.Proofs.YtkolhpacpbhceaaDoor.Pr
open Go.RowKit Go.Proofs.YtkolhpacpbhceaaDoorW.PrintWords Go.Proofs.YtkolhpacpbhceaaDoorW.PrintLast Go.Proofs.YtkolhpacpbhceaaDoorW.PrintMore Go.Proofs.YtkolhpacpbhceaaDoor.X
attribute [local go_sem] max2_int min2_int max_two min_two max_three min_three max_four min_four   -- for this text's walks alone
set_option linter.unusedVariables false
set_option linter.unusedSimpArgs false
mutual
def spileref13_Check.l0 : Nat → Int → List (S39) → Int → Option (Int)
 | 0, _, _, _ => none
 | k + 1, x3, x199000, x199001 => if x3 < (x199000.length : Int) then (if 0 ≤ x3 then (if ((rd_T39 x199000 x3).f0) < 0 then (some 2) else (if ((rd_T39 x199000 x3).f0) > 200000 then (some 2) else (if ((rd_T39 x199000 x3).f1) < 0 then (some 2) else (if ((rd_T39 x199000 x3).f1) > 4294967296 then (some 2) else (spileref13_Check.l0 k (wrap64 (x3 + 1)) x199000 x199001))))) else (none)) else (if x199001 < 0 then (spileref13_Check.j1 k true x199000 x199001) else (spileref13_Check.j1 k (decide (x199001 > 4294967296)) x199000 x199001))
def spileref13_Check.j1 : Nat → Bool → List (S39) → Int → Option (Int)
 | 0, _, _, _ => none
 | k + 1, x51, x199000, x199001 => if x51 = true then (some 2) else (spileref13_Check.l1 k 1 x199000 x199001)
def spileref13_Check.l1 : Nat → Int → List (S39) → Int → Option (Int)
 | 0, _, _, _ => none
 | k + 1, x5, x199000, x199001 => if x5 < (x199000.length : Int) then (if 0 ≤ (wrap64 (x5 - 1)) then (if (wrap64 (x5 - 1)) < (x199000.length : Int) then (if 0 ≤ x5 then (if ((rd_T39 x199000 (wrap64 (x5 - 1))).f0) ≥ ((rd_T39 x199000 x5).f0) then (some 5) else (if ((rd_T39 x199000 (wrap64 (x5 - 1))).f1) > ((rd_T39 x199000 x5).f1) then (some 5) else (spileref13_Check.l1 k (wrap64 (x5 + 1)) x199000 x199001))) else (none)) else (none)) else (none)) else (some 0)
end
def spileref13_Check.f (k : Nat) (l0_0 : List (S39)) (a0_1 : Int) : Option (Int) := if (l0_0.length : Int) < 2 then (some 9) else (if (l0_0.length : Int) > 128 then (some 8) else (spileref13_Check.l0 k 0 l0_0 a0_1))
end Go.Proofs.YtkolhpacpbhceaaDoor.Pr
namespace Go.Proofs.YtkolhpacpbhceaaDoor.Pr
open Go.RowKit Go.Proofs.YtkolhpacpbhceaaDoorW.PrintWords Go.Proofs.YtkolhpacpbhceaaDoorW.PrintLast Go.Proofs.YtkolhpacpbhceaaDoorW.PrintMore Go.Proofs.YtkolhpacpbhceaaDoor.X
attribute [local go_sem] max2_int min2_int max_two min_two max_three min_three max_four min_four   -- for this text's walks alone
set_option linter.unusedVariables false
set_option linter.unusedSimpArgs false
def spileref13_At.l0 : Nat → Int → Int → List (S39) → Int → Option (Int)
 | 0, _, _, _, _ => none
 | k + 1, x1, x5, x206000, x206001 => if 0 ≤ x5 then (if x5 < (x206000.length : Int) then (if ((rd_T39 x206000 x5).f0) < x1 then (spileref13_At.l0 k x1 (wrap64 (x5 + 1)) x206000 x206001) else (if 0 ≤ (wrap64 (x5 - 1)) then (if (wrap64 (x5 - 1)) < (x206000.length : Int) then (if (wrap64 (((rd_T39 x206000 x5).f0) - ((rd_T39 x206000 (wrap64 (x5 - 1))).f0))) = 0 then (none) else (some (wrap64 (((rd_T39 x206000 (wrap64 (x5 - 1))).f1) + (wrap64 (Int.tdiv (wrap64 ((wrap64 (((rd_T39 x206000 x5).f1) - ((rd_T39 x206000 (wrap64 (x5 - 1))).f1))) * (wrap64 (x1 - ((rd_T39 x206000 (wrap64 (x5 - 1))).f0))))) (wrap64 (((rd_T39 x206000 x5).f0) - ((rd_T39 x206000 (wrap64 (x5 - 1))).f0))))))))) else (none)) else (none))) else (none)) else (none)
def spileref13_At.f (k : Nat) (l0_0 : List (S39)) (a0_1 : Int) (a1 : Int) : Option (Int) := spileref13_At.l0 k a1 1 l0_0 a0_1
def spileref14_least.l0 : Nat → Int → Int → Int → List (S39) → Int → Option (Int)
 | 0, _, _, _, _, _ => none
 | k + 1, x1, x5, x6, x212000, x212001 => if x5 < x6 then ((spileref13_At.f k x212000 x212001 (wrap64 (Int.tdiv (wrap64 (x5 + x6)) 2))).bind fun t214 => (if t214 ≥ x1 then (spileref14_least.l0 k x1 x5 (wrap64 (Int.tdiv (wrap64 (x5 + x6)) 2)) x212000 x212001) else (spileref14_least.l0 k x1 (wrap64 ((wrap64 (Int.tdiv (wrap64 (x5 + x6)) 2)) + 1)) x6 x212000 x212001))) else (some x5)
def spileref14_least.f (k : Nat) (l0_0 : List (S39)) (a0_1 : Int) (a1 : Int) : Option (Int) := if 0 < (l0_0.length : Int) then (if 0 ≤ (wrap64 ((l0_0.length : Int) - 1)) then (if (wrap64 ((l0_0.length : Int) - 1)) < (l0_0.length : Int) then (spileref14_least.l0 k a1 ((rd_T39 l0_0 0).f0) ((rd_T39 l0_0 (wrap64 ((l0_0.length : Int) - 1))).f0) l0_0 a0_1) else (none)) else (none)) else (none)
end Go.Proofs.YtkolhpacpbhceaaDoor.Pr
namespace Go.Proofs.YtkolhpacpbhceaaDoor.Pr
open Go.RowKit Go.Proofs.YtkolhpacpbhceaaDoorW.PrintWords Go.Proofs.YtkolhpacpbhceaaDoorW.PrintLast Go.Proofs.YtkolhpacpbhceaaDoorW.PrintMore Go.Proofs.YtkolhpacpbhceaaDoor.X
attribute [local go_sem] max2_int min2_int max_two min_two max_three min_three max_four min_four   -- for this text's walks alone
set_option linter.unusedVariables false
set_option linter.unusedSimpArgs false
mutual
def spileref14_Make.j0 : Nat → Int → Bool → List (S39) → Int → Option ((List (S39)) × Int)
 | 0, _, _, _, _ => none
 | k + 1, x1, x18, x216000, x216001 => if x18 = true then (some (([] : List (S39)), 2)) else (if 0 ≤ (wrap64 ((x216000.length : Int) - 1)) then (if (wrap64 ((x216000.length : Int) - 1)) < (x216000.length : Int) then (if ((rd_T39 x216000 (wrap64 ((x216000.length : Int) - 1))).f1) < x1 then (some (([] : List (S39)), 9)) else (spileref14_Make.l0 k x1 ([] : List (S39)) x1 x216000 x216001 ((rd_T39 x216000 (wrap64 ((x216000.length : Int) - 1))).f0) ((rd_T39 x216000 (wrap64 ((x216000.length : Int) - 1))).f1))) else (none)) else (none))
def spileref14_Make.l0 : Nat → Int → List (S39) → Int → List (S39) → Int → Int → Int → Option ((List (S39)) × Int)
 | 0, _, _, _, _, _, _, _ => none
 | k + 1, x1, x7, x8, x216000, x216001, x219000, x219001 => if x8 ≤ x219001 then ((spileref14_least.f k x216000 x216001 x8).bind fun t219 => ((spileref13_At.f k x216000 x216001 t219).bind fun t220 => (if x1 = 0 then (none) else (if x7.length < 8796093022208 then ((some (x7 ++ [(⟨t219, wrap64 ((wrap64 (Int.tdiv t220 x1)) * x1)⟩ : S39)] : List (S39))).bind fun y221 => (if (y221.length : Int) > 128 then (some (([] : List (S39)), 8)) else (spileref14_Make.l0 k x1 y221 (wrap64 ((wrap64 ((wrap64 (Int.tdiv t220 x1)) * x1)) + x1)) x216000 x216001 x219000 x219001))) else (none))))) else (some (x7, 0))
end
def spileref14_Make.f (k : Nat) (l0_0 : List (S39)) (a0_1 : Int) (a1 : Int) : Option ((List (S39)) × Int) := (spileref13_Check.f k l0_0 a0_1).bind fun t216 => (if t216 = 0 then (if a1 < 1 then (spileref14_Make.j0 k a1 true l0_0 a0_1) else (spileref14_Make.j0 k a1 (decide (a1 > 1073741824)) l0_0 a0_1)) else (some (([] : List (S39)), 1)))
def slices_Clone39.f (l0 : List (S39)) : Option (List (S39)) := if l0.length < 8796093022208 then some l0 else none
set_option maxHeartbeats 8000000 in
set_option maxRecDepth 100000 in
theorem slices_Clone39.calls (A0 : Option Addr) (c0 : Nat) (l0 : List (S39)) (r : List (S39)) (w : World) (hr0 : Kd.C k39 w A0 l0.length l0) (hc0 : l0.length ≤ c0) (h : slices_Clone39.f l0 = some r) :
  Calls Tryd.prog 17 #[.slice A0 l0.length c0] w fun e w' => ∃ v0_ : Value, e = .returned (v0_) ∧ Kd.R k39 39 w' w.heap.size (fun _ => True) v0_ r ∧ Below w.heap.size w w' := by
 unfold slices_Clone39.f at h
 by_cases c2 : l0.length < 8796093022208
 case neg => rw [if_neg c2] at h; cases h
 rw [if_pos c2] at h
 obtain rfl := Option.some.inj h
 have LM := Aside0.mk c2
 have HR0 := Aside0.mk hr0
 have HC0 := Aside0.mk hc0
 clear hr0 hc0 h c2
 have hq : ∀ w, (binOp .eql 22 (.slice A0 l0.length c0) (.slice none 0 0)).run Tryd.prog w = .ok (.bool A0.isNone) w := fun w => run_eql_slice_nil w 22 39 A0 _ _ Tryd.underlying22
 have HB := Aside0.mk (Below.refl w.heap.size w)
 cases A0 with
 | none =>
  have h0 : l0 = [] := by
   rcases Nat.eq_zero_or_pos l0.length with h0 | h0
   ·
    exact List.eq_nil_of_length_eq_zero h0
   ·
    obtain ⟨ad, e, _⟩ := HR0.out.2.2 h0
    cases e
  subst h0
  have hq0 : ∀ w, (binOp .eql 22 (.slice none 0 c0) (.slice none 0 0)).run Tryd.prog w = .ok (.bool true) w := fun w => run_eql_slice_nil w 22 39 none 0 c0 Tryd.underlying22
  go_enter Tryd.func17, Tryd.ntmps17
  go_wp2
  go_ret
  exact ⟨_, rfl, Kd.R_nil _ _ _ _ _, HB.out⟩
 | some ad =>
  obtain ⟨y1, hy1⟩ : ∃ y_ : List (S39), y_ = (([] : List (S39))) := ⟨_, rfl⟩
  have Ny1 := Aside0.mk hy1
  obtain ⟨y2, hy2⟩ : ∃ y_ : List (S39), y_ = (y1 ++ l0) := ⟨_, rfl⟩
  have Ny2 := Aside0.mk hy2
  clear hy1 hy2
  go_enter Tryd.func17, Tryd.ntmps17
  go_wp2_with (first
   | ((with_reducible refine gate_dst (N := 5) rfl ?_); refine Kd.R_lit k39 _ 39 ?hg (N := 5) ?hd (xs := ([] : List (S39))) (inner := []) (ok := fun _ => True) (okp := fun _ => True) ?hr ?hp (fun _ hk => hk) trivial (Below.refl _ _) (Nat.le_refl _) (by simp) ?_; (case hd => rfl); (case hg => rfl); (case hr => first | (go_simp; done) | (go_simp; rfl)); (case hp => exact (Reps.none _ _)); intro v192 w5 ho6 hb hg_ hnew_; clear hg_ hnew_; (first | rw [← Ny1.out] at ho6 | (simp only [Int.reduceToNat] at ho6; rw [← Ny1.out] at ho6)); have n0_ := Aside0.mk (Kd.R_lower ho6 (below_size HB.out)); have n3_ := Aside0.mk (below_step HB.out hb); clear HB; have HO193 := n0_; have HB := n3_; clear n0_ n3_; clear hb ho6)
   | ((with_reducible refine gate_builtin (b := .append) (xs := #[.tmp 5, .tmp 6]) rfl ?_); at_builtin; refine Kd.R_append_rows k39 (w0 := w) w.heap.size rfl (.tmp 5) (.tmp 6) 22 39 (.agg #[(.int .i64 0), (.int .i64 0)]) 16 rfl Tryd.underlying22 info39 rfl (by decide) (by omega) v192 y1 l0 _ _ _ (fun _ => True) (fun _ => False) rfl rfl ?aO ?aR (fun _ _ h => h) (fun _ h => h.elim) ?aF ?aB ?aS ?aL ?_; (case aR => repeat (first | exact (Kd.C_below HR0.out HB.out) | (with_reducible refine Kd.C_alloc ?_ _) | (with_reducible refine Kd.C_drewN ?_ _) | (with_reducible refine Kd.C_drew ?_))); (case aB => exact (by repeat (first | (with_reducible first | exact HB.out | apply below_alloc | apply pw_below_drewN | apply below_drew1) | exact HB.out))); (case aF => exact (fun _ _ => trivial)); (case aO => exact (by (with_reducible repeat (first | apply Kd.R_alloc | apply Kd.R_drewN | apply Kd.R_drew)); exact HO193.out)); (case aS => exact (below_size (by repeat (first | (with_reducible first | exact HB.out | apply below_alloc | apply pw_below_drewN | apply below_drew1) | exact HB.out)))); (case aL => have := LM.out; have := Ny1.out; subst this; simp; omega); intro v195 w9 ho hb hg hat; rw [← Ny2.out] at ho; have n2_ := Aside0.mk (hb); have n3_ := Aside0.mk (ho); clear HB; clear HO193; have HB := n2_; have HO196 := n3_; clear n2_ n3_; clear ho hb hg hat))
  go_ret
  have e2 : y2 = l0 := by rw [Ny2.out, Ny1.out]; rfl
  rw [e2] at HO196
  exact ⟨_, rfl, by (with_reducible repeat (first | apply Kd.R_alloc | apply Kd.R_drewN | apply Kd.R_drew)); exact HO196.out, by repeat (first | (with_reducible first | exact HB.out | apply below_alloc | apply pw_below_drewN | apply below_drew1) | exact HB.out)⟩
end Go.Proofs.YtkolhpacpbhceaaDoor.Pr
namespace Go.Proofs.YtkolhpacpbhceaaDoor.Pr
open Go.RowKit Go.Proofs.YtkolhpacpbhceaaDoorW.PrintWords Go.Proofs.YtkolhpacpbhceaaDoorW.PrintLast Go.Proofs.YtkolhpacpbhceaaDoorW.PrintMore Go.Proofs.YtkolhpacpbhceaaDoor.X
attribute [local go_sem] max2_int min2_int max_two min_two max_three min_three max_four min_four   -- for this text's walks alone
set_option linter.unusedVariables false
set_option linter.unusedSimpArgs false
theorem eqA34 (d : Nat) (w : World) (x0 y0 : Int) (x1 y1 : Int) :
  (Op.equalIn (d + 2) 34 (.agg #[.int .i64 x0, .int .i64 x1]) (.agg #[.int .i64 y0, .int .i64 y1])).run Tryd.prog w = .ok (x0 == y0 && (x1 == y1)) w := by
 refine eqA_of Tryd.underlying34 (by kernel_rfl) ?_
 refine eqf_cons (by rfl) (by go_simp; rfl) (by go_simp; rfl) (by go_simp) ?_
 exact eqf_last (by rfl) (by go_simp; rfl) (by go_simp; rfl) (by go_simp)
end Go.Proofs.YtkolhpacpbhceaaDoor.Pr
namespace Go.Proofs.YtkolhpacpbhceaaDoor.Pr
open Go.RowKit Go.Proofs.YtkolhpacpbhceaaDoorW.PrintWords Go.Proofs.YtkolhpacpbhceaaDoorW.PrintLast Go.Proofs.YtkolhpacpbhceaaDoorW.PrintMore Go.Proofs.YtkolhpacpbhceaaDoor.X
attribute [local go_sem] max2_int min2_int max_two min_two max_three min_three max_four min_four   -- for this text's walks alone
set_option linter.unusedVariables false
set_option linter.unusedSimpArgs false
attribute [local go_sem high] eqA34
def spilelaw14_RodCoarser_1.f (a0_0 : Int) (a0_1 : Int) (a1_0 : Int) (a1_1 : Int) : Option (Bool) := if a1_0 = a0_0 then (some (decide (a1_1 ≤ a0_1))) else (some false)
set_option maxHeartbeats 8000000 in
set_option maxRecDepth 100000 in
theorem spilelaw14_RodCoarser_1.calls (a0_0 : Int) (a0_1 : Int) (B1 : Nat) (a1_0 : Int) (a1_1 : Int) (r : Bool) (w : World) (hb1 : w.heap[B1]? = some (.cells #[.int .i64 a1_0, .int .i64 a1_1] 39 (0, 0))) (h : spilelaw14_RodCoarser_1.f a0_0 a0_1 a1_0 a1_1 = some r) :
  Calls Tryd.prog 29 #[.agg #[.int .i64 a0_0, .int .i64 a0_1], .pointer (some ⟨B1, 0, none⟩)] w fun e w' => e = .returned (.bool r) ∧ Below w.heap.size w w' := by
 have hu39 := Tryd.underlying39
 have BK5001 := Aside0.mk hb1
 clear hb1
 have HB := Aside0.mk (Below.refl w.heap.size w)
 have H : (if a1_0 = a0_0 then (some (decide (a1_1 ≤ a0_1))) else (some false)) = some r := h
 clear h
 by_cases c3 : a1_0 = a0_0
 ·
  rw [if_pos c3] at H
  have c3b0 : (a1_0 == a0_0) = true := beq_iff_eq.mpr c3
  have c3b1 : (a1_0 != a0_0) = false := bne_eq_false_iff_eq.mpr c3
  clear c3
  obtain rfl := Option.some.inj H
  go_enter Tryd.func29, Tryd.ntmps29
  go_wp2_with (first | ((with_reducible refine gate_dst (N := 2) rfl ?_); refine box_event ?hg (N := 2) ?hd (cs := #[.int .i64 a0_0, .int .i64 a0_1]) (t := 39) ?hr ?_; (case hd => rfl); (case hg => rfl); (case hr => first | (go_simp; done) | (go_simp; rfl)); intro gb417 hg w4 hbox hb; have n0_ := Aside0.mk (blk_below (g := B1) (o := .cells #[.int .i64 a1_0, .int .i64 a1_1] 39 (0, 0)) (by (with_reducible repeat (first | refine blk_drewN ?_ _ | refine blk_drew ?_ | refine blk_alloc ?_ _)); exact BK5001.out) hb); have n1_ := Aside0.mk (below_step (by repeat (first | (with_reducible first | exact HB.out | apply below_alloc | apply pw_below_drewN | apply below_drew1 | refine below_set ?_ GE5001.out) | exact HB.out)) hb); have n2_ := Aside0.mk (hbox); have n3_ := Aside0.mk ((by rw [hg]; exact (below_size (by repeat (first | (with_reducible first | exact HB.out | apply below_alloc | apply pw_below_drewN | apply below_drew1 | refine below_set ?_ GE5001.out) | exact HB.out))) : w.heap.size ≤ gb417)); have n4_ := Aside0.mk ((by rw [hg]; exact (below_size (by repeat (first | (with_reducible first | exact HB.out | apply below_alloc | apply pw_below_drewN | apply below_drew1 | refine below_set ?_ GE5001.out) | exact HB.out))) : w.heap.size ≤ gb417)); have n5_ := Aside0.mk ((by rw [hg]; exact Nat.ne_of_lt (blk_lt (g := B1) (o := .cells #[.int .i64 a1_0, .int .i64 a1_1] 39 (0, 0)) (by (with_reducible repeat (first | refine blk_drewN ?_ _ | refine blk_drew ?_ | refine blk_alloc ?_ _)); exact BK5001.out)) : B1 ≠ gb417)); have n6_ := Aside0.mk ((by rw [hg]; exact Nat.ne_of_gt (blk_lt (g := B1) (o := .cells #[.int .i64 a1_0, .int .i64 a1_1] 39 (0, 0)) (by (with_reducible repeat (first | refine blk_drewN ?_ _ | refine blk_drew ?_ | refine blk_alloc ?_ _)); exact BK5001.out)) : gb417 ≠ B1)); clear BK5001; clear HB; have BK5001 := n0_; have HB := n1_; have BK417 := n2_; have GW417 := n3_; have GE417 := n4_; have NB5001_417 := n5_; have NB417_5001 := n6_; clear n0_ n1_ n2_ n3_ n4_ n5_ n6_; clear hb hbox hg; have hnb5 := NB5001_417.out; have hnc5 := NB417_5001.out; have hcz6_0 : w4.cell? ⟨B1, 0, none⟩ = some (.int .i64 a1_0) := (blk_cell BK5001.out 0).trans rfl; have hcz6_1 : w4.cell? ⟨B1, 1, none⟩ = some (.int .i64 a1_1) := (blk_cell BK5001.out 1).trans rfl; have hfz6_0 := blk_frozen BK5001.out 0; have hfz6_1 := blk_frozen BK5001.out 1; have hcz7_0 : w4.cell? ⟨gb417, 0, none⟩ = some (.int .i64 a0_0) := (blk_cell BK417.out 0).trans rfl; have hcz7_1 : w4.cell? ⟨gb417, 1, none⟩ = some (.int .i64 a0_1) := (blk_cell BK417.out 1).trans rfl; have hfz7_0 := blk_frozen BK417.out 0; have hfz7_1 := blk_frozen BK417.out 1))
  go_ret
  exact ⟨by first | rfl | (simp [errW_none, errW_some] <;> rfl) | (simp [*, errW_none, errW_some] <;> rfl), by repeat (first | (with_reducible first | exact HB.out | apply below_alloc | apply pw_below_drewN | apply below_drew1 | refine below_set ?_ GE5001.out | refine below_set ?_ GE417.out) | exact HB.out)⟩
 ·
  rw [if_neg c3] at H
  have c3b0 : (a1_0 == a0_0) = false := beq_eq_false_iff_ne.mpr c3
  have c3b1 : (a1_0 != a0_0) = true := bne_iff_ne.mpr c3
  obtain rfl := Option.some.inj H
  go_enter Tryd.func29, Tryd.ntmps29
  go_wp2_with (first | ((with_reducible refine gate_dst (N := 2) rfl ?_); refine box_event ?hg (N := 2) ?hd (cs := #[.int .i64 a0_0, .int .i64 a0_1]) (t := 39) ?hr ?_; (case hd => rfl); (case hg => rfl); (case hr => first | (go_simp; done) | (go_simp; rfl)); intro gb417 hg w8 hbox hb; have n0_ := Aside0.mk (blk_below (g := B1) (o := .cells #[.int .i64 a1_0, .int .i64 a1_1] 39 (0, 0)) (by (with_reducible repeat (first | refine blk_drewN ?_ _ | refine blk_drew ?_ | refine blk_alloc ?_ _)); exact BK5001.out) hb); have n1_ := Aside0.mk (below_step (by repeat (first | (with_reducible first | exact HB.out | apply below_alloc | apply pw_below_drewN | apply below_drew1 | refine below_set ?_ GE5001.out) | exact HB.out)) hb); have n2_ := Aside0.mk (hbox); have n3_ := Aside0.mk ((by rw [hg]; exact (below_size (by repeat (first | (with_reducible first | exact HB.out | apply below_alloc | apply pw_below_drewN | apply below_drew1 | refine below_set ?_ GE5001.out) | exact HB.out))) : w.heap.size ≤ gb417)); have n4_ := Aside0.mk ((by rw [hg]; exact (below_size (by repeat (first | (with_reducible first | exact HB.out | apply below_alloc | apply pw_below_drewN | apply below_drew1 | refine below_set ?_ GE5001.out) | exact HB.out))) : w.heap.size ≤ gb417)); have n5_ := Aside0.mk ((by rw [hg]; exact Nat.ne_of_lt (blk_lt (g := B1) (o := .cells #[.int .i64 a1_0, .int .i64 a1_1] 39 (0, 0)) (by (with_reducible repeat (first | refine blk_drewN ?_ _ | refine blk_drew ?_ | refine blk_alloc ?_ _)); exact BK5001.out)) : B1 ≠ gb417)); have n6_ := Aside0.mk ((by rw [hg]; exact Nat.ne_of_gt (blk_lt (g := B1) (o := .cells #[.int .i64 a1_0, .int .i64 a1_1] 39 (0, 0)) (by (with_reducible repeat (first | refine blk_drewN ?_ _ | refine blk_drew ?_ | refine blk_alloc ?_ _)); exact BK5001.out)) : gb417 ≠ B1)); clear BK5001; clear HB; have BK5001 := n0_; have HB := n1_; have BK417 := n2_; have GW417 := n3_; have GE417 := n4_; have NB5001_417 := n5_; have NB417_5001 := n6_; clear n0_ n1_ n2_ n3_ n4_ n5_ n6_; clear hb hbox hg; have hnb9 := NB5001_417.out; have hnc9 := NB417_5001.out; have hcz10_0 : w8.cell? ⟨B1, 0, none⟩ = some (.int .i64 a1_0) := (blk_cell BK5001.out 0).trans rfl; have hcz10_1 : w8.cell? ⟨B1, 1, none⟩ = some (.int .i64 a1_1) := (blk_cell BK5001.out 1).trans rfl; have hfz10_0 := blk_frozen BK5001.out 0; have hfz10_1 := blk_frozen BK5001.out 1; have hcz11_0 : w8.cell? ⟨gb417, 0, none⟩ = some (.int .i64 a0_0) := (blk_cell BK417.out 0).trans rfl; have hcz11_1 : w8.cell? ⟨gb417, 1, none⟩ = some (.int .i64 a0_1) := (blk_cell BK417.out 1).trans rfl; have hfz11_0 := blk_frozen BK417.out 0; have hfz11_1 := blk_frozen BK417.out 1))
  go_ret
  exact ⟨by first | rfl | (simp [errW_none, errW_some] <;> rfl) | (simp [*, errW_none, errW_some] <;> rfl), by repeat (first | (with_reducible first | exact HB.out | apply below_alloc | apply pw_below_drewN | apply below_drew1 | refine below_set ?_ GE5001.out | refine below_set ?_ GE417.out) | exact HB.out)⟩
def api_Mark_38_at_29.l0 : Nat → List (S39) → Int → Int → Int → Int → Option (Int)
 | 0, _, _, _, _, _ => none
 | k + 1, x0, x7, x8, x5003000, x5003001 => if x8 < x7 then (if 0 ≤ x8 then (if x8 < (x0.length : Int) then ((spilelaw14_RodCoarser_1.f ((rd_T39 x0 x8).f0) ((rd_T39 x0 x8).f1) x5003000 x5003001).bind fun t419 => (if t419 = true then (some x8) else (api_Mark_38_at_29.l0 k x0 x7 (wrap64 (x8 + 1)) x5003000 x5003001))) else (none)) else (none)) else (some (-1))
def api_Mark_38_at_29.f (k : Nat) (l0 : List (S39))  (a2_0 : Int) (a2_1 : Int) : Option (Int) := api_Mark_38_at_29.l0 k l0 (l0.length : Int) 0 a2_0 a2_1
set_option maxHeartbeats 8000000 in
set_option maxRecDepth 100000 in
theorem api_Mark_38_at_29.calls (k : Nat) (A0 : Option Addr) (c0 : Nat) (l0 : List (S39))  (B2 : Nat) (a2_0 : Int) (a2_1 : Int) (r : Int) (w : World) (hr0 : Kd.C k39 w A0 l0.length l0) (hc0 : l0.length ≤ c0) (hb2 : w.heap[B2]? = some (.cells #[.int .i64 a2_0, .int .i64 a2_1] 39 (0, 0))) (h : api_Mark_38_at_29.f k l0 a2_0 a2_1 = some r) :
  Calls Tryd.prog 38 #[.slice A0 l0.length c0, .func (.func 29) #[] #[.pointer (some ⟨B2, 0, none⟩)]] w fun e w' => e = .returned (.int .i64 r) ∧ Below w.heap.size w w' := by
 have hu39 := Tryd.underlying39
 have HR0 := Aside0.mk hr0
 have HC0 := Aside0.mk hc0
 clear hr0 hc0
 have BK5002 := Aside0.mk hb2
 clear hb2
 have HB := Aside0.mk (Below.refl w.heap.size w)
 have H : (api_Mark_38_at_29.l0 k l0 (l0.length : Int) 0 a2_0 a2_1) = some r := h
 clear h
 have H' := Aside0.mk H
 clear H
 go_enter Tryd.func38, Tryd.ntmps38
 go_wp2
 go_loopg [8] k (fun kq v8 w' => ∃ (x8_1 : Int), v8 = .int .i64 x8_1 ∧ Aside0 (api_Mark_38_at_29.l0 kq l0 (l0.length : Int) x8_1 a2_0 a2_1 = some r) ∧ Aside0 (kq ≤ k) ∧ Aside0 (w'.heap[B2]? = some (.cells #[.int .i64 a2_0, .int .i64 a2_1] 39 (0, 0))) ∧ Aside0 (Below w.heap.size w w'))
 case atStart => exact ⟨(0), (by first | rfl | (simp; done) | (simp [*]; done)), H', ⟨Nat.le_refl _⟩, ⟨by (with_reducible repeat (first | refine blk_drewN ?_ _ | refine blk_drew ?_ | refine blk_alloc ?_ _)); exact BK5002.out⟩, ⟨by repeat (first | (with_reducible first | exact HB.out | apply below_alloc | apply pw_below_drewN | apply below_drew1 | refine below_set ?_ GE5002.out) | exact HB.out)⟩⟩
 case round =>
  clear H'
  try clear p2
  try clear c3
  obtain ⟨x8_1, rfl, HA, HK1, BK5002, HB⟩ := hrel
  cases gk with
  | zero => exact absurd HA.out (by simp [api_Mark_38_at_29.l0])
  | succ k1 =>
   have H := HA.out
   clear HA
   simp only [api_Mark_38_at_29.l0] at H
   by_cases c4 : x8_1 < (l0.length : Int)
   ·
    rw [if_pos c4] at H
    have c4b0 : decide (x8_1 < (l0.length : Int)) = true := decide_eq_true c4
    clear c4
    by_cases c5 : 0 ≤ x8_1
    ·
     rw [if_pos c5] at H
     have c5b0 : decide (0 ≤ x8_1) = true := decide_eq_true c5
     clear c5
     by_cases c6 : x8_1 < (l0.length : Int)
     ·
      rw [if_pos c6] at H
      have c6b0 : decide (x8_1 < (l0.length : Int)) = true := decide_eq_true c6
      clear c6
      replace H := Option.bind_eq_some_iff.mp H
      obtain ⟨t419, A70, H⟩ := H
      replace H : (if t419 = true then (some x8_1) else (api_Mark_38_at_29.l0 k1 l0 (l0.length : Int) (wrap64 (x8_1 + 1)) a2_0 a2_1)) = some r := H
      have A7 := Aside0.mk A70
      clear A70
      by_cases c8 : t419 = true
      ·
       subst c8
       have H1 : (some x8_1) = some r := by rw [if_pos rfl] at H; exact H
       clear H
       have H := H1
       clear H1
       obtain rfl := Option.some.inj H
       have p418 : 0 ≤ (x8_1 : Int) := of_decide_eq_true (by first | (with_reducible assumption) | assumption)
       have q418 : x8_1 < (l0.length : Int) := of_decide_eq_true (by first | (with_reducible assumption) | assumption)
       obtain ⟨ad418, e418, hx418_0, hx418_1⟩ := at_T39 HR0.out x8_1 p418 q418
       cases e418
       replace hx418_0 := (HB.out.cell (World.block_lt_of_cell? w _ hx418_0)).trans hx418_0
       replace hx418_1 := (HB.out.cell (World.block_lt_of_cell? w _ hx418_1)).trans hx418_1
       replace p418 := eq_true p418
       replace q418 := eq_true q418
       go_wp2_with (first | (go_at_call 29; (with_reducible refine (spilelaw14_RodCoarser_1.calls ((rd_T39 l0 x8_1).f0) ((rd_T39 l0 x8_1).f1)  B2 a2_0 a2_1 true _ ?side1 A7.out).mono ?_); (case side1 => (with_reducible repeat (first | refine blk_drewN ?_ _ | refine blk_drew ?_ | refine blk_alloc ?_ _)); exact BK5002.out); rintro e w9 ⟨rfl, hb⟩; have n0_ := Aside0.mk (blk_below (g := B2) (o := .cells #[.int .i64 a2_0, .int .i64 a2_1] 39 (0, 0)) (by (with_reducible repeat (first | refine blk_drewN ?_ _ | refine blk_drew ?_ | refine blk_alloc ?_ _)); exact BK5002.out) hb); have n1_ := Aside0.mk (below_step (by repeat (first | (with_reducible first | exact HB.out | apply below_alloc | apply pw_below_drewN | apply below_drew1 | refine below_set ?_ GE5002.out) | exact HB.out)) hb); clear BK5002; clear HB; have BK5002 := n0_; have HB := n1_; clear n0_ n1_; (try clear hb); (try clear hb2); (try clear hk); (try clear hi)))
       go_ret
       exact ⟨by first | rfl | (simp [errW_none, errW_some] <;> rfl) | (simp [*, errW_none, errW_some] <;> rfl), by repeat (first | (with_reducible first | exact HB.out | apply below_alloc | apply pw_below_drewN | apply below_drew1 | refine below_set ?_ GE5002.out) | exact HB.out)⟩
      ·
       replace c8 := Bool.eq_false_iff.mpr c8
       subst c8
       have H1 : (api_Mark_38_at_29.l0 k1 l0 (l0.length : Int) (wrap64 (x8_1 + 1)) a2_0 a2_1) = some r := by rw [if_neg (show ¬ (false = true) by decide)] at H; exact H
       clear H
       have H := H1
       clear H1
       have H' := Aside0.mk H
       clear H
       have p418 : 0 ≤ (x8_1 : Int) := of_decide_eq_true (by first | (with_reducible assumption) | assumption)
       have q418 : x8_1 < (l0.length : Int) := of_decide_eq_true (by first | (with_reducible assumption) | assumption)
       obtain ⟨ad418, e418, hx418_0, hx418_1⟩ := at_T39 HR0.out x8_1 p418 q418
       cases e418
       replace hx418_0 := (HB.out.cell (World.block_lt_of_cell? w _ hx418_0)).trans hx418_0
       replace hx418_1 := (HB.out.cell (World.block_lt_of_cell? w _ hx418_1)).trans hx418_1
       replace p418 := eq_true p418
       replace q418 := eq_true q418
       go_wp2_with (first | (go_at_call 29; (with_reducible refine (spilelaw14_RodCoarser_1.calls ((rd_T39 l0 x8_1).f0) ((rd_T39 l0 x8_1).f1)  B2 a2_0 a2_1 false _ ?side1 A7.out).mono ?_); (case side1 => (with_reducible repeat (first | refine blk_drewN ?_ _ | refine blk_drew ?_ | refine blk_alloc ?_ _)); exact BK5002.out); rintro e w10 ⟨rfl, hb⟩; have n0_ := Aside0.mk (blk_below (g := B2) (o := .cells #[.int .i64 a2_0, .int .i64 a2_1] 39 (0, 0)) (by (with_reducible repeat (first | refine blk_drewN ?_ _ | refine blk_drew ?_ | refine blk_alloc ?_ _)); exact BK5002.out) hb); have n1_ := Aside0.mk (below_step (by repeat (first | (with_reducible first | exact HB.out | apply below_alloc | apply pw_below_drewN | apply below_drew1 | refine below_set ?_ GE5002.out) | exact HB.out)) hb); clear BK5002; clear HB; have BK5002 := n0_; have HB := n1_; clear n0_ n1_; (try clear hb); (try clear hb2); (try clear hk); (try clear hi)))
       go_roundg k1
       case measure => have := HK1.out; omega
       case rel => exact ⟨(wrap64 (x8_1 + 1)), (by first | rfl | (simp; done) | (simp [*]; done)), H', ⟨by have := HK1.out; omega⟩, ⟨by (with_reducible repeat (first | refine blk_drewN ?_ _ | refine blk_drew ?_ | refine blk_alloc ?_ _)); exact BK5002.out⟩, ⟨by repeat (first | (with_reducible first | exact HB.out | apply below_alloc | apply pw_below_drewN | apply below_drew1 | refine below_set ?_ GE5002.out) | exact HB.out)⟩⟩
     ·
      rw [if_neg c6] at H
      exact absurd H (by simp)
    ·
     rw [if_neg c5] at H
     exact absurd H (by simp)
   ·
    rw [if_neg c4] at H
    have c4b0 : decide (x8_1 < (l0.length : Int)) = false := decide_eq_false c4
    clear c4
    obtain rfl := Option.some.inj H
    go_wp2
    go_ret
    exact ⟨by first | rfl | (simp [errW_none, errW_some] <;> rfl) | (simp [*, errW_none, errW_some] <;> rfl), by repeat (first | (with_reducible first | exact HB.out | apply below_alloc | apply pw_below_drewN | apply below_drew1 | refine below_set ?_ GE5002.out) | exact HB.out)⟩
def api_Mark_28_at_29.f (k : Nat) (l0 : List (S39))  (a2_0 : Int) (a2_1 : Int) : Option (Bool) := (api_Mark_38_at_29.f k l0 a2_0 a2_1).bind fun t418 => (some (decide (t418 ≥ 0)))
set_option maxHeartbeats 8000000 in
set_option maxRecDepth 100000 in
theorem api_Mark_28_at_29.calls (k : Nat) (A0 : Option Addr) (c0 : Nat) (l0 : List (S39))  (B2 : Nat) (a2_0 : Int) (a2_1 : Int) (r : Bool) (w : World) (hr0 : Kd.C k39 w A0 l0.length l0) (hc0 : l0.length ≤ c0) (hb2 : w.heap[B2]? = some (.cells #[.int .i64 a2_0, .int .i64 a2_1] 39 (0, 0))) (h : api_Mark_28_at_29.f k l0 a2_0 a2_1 = some r) :
  Calls Tryd.prog 28 #[.slice A0 l0.length c0, .func (.func 29) #[] #[.pointer (some ⟨B2, 0, none⟩)]] w fun e w' => e = .returned (.bool r) ∧ Below w.heap.size w w' := by
 have HR0 := Aside0.mk hr0
 have HC0 := Aside0.mk hc0
 clear hr0 hc0
 have BK5002 := Aside0.mk hb2
 clear hb2
 have HB := Aside0.mk (Below.refl w.heap.size w)
 have H : ((api_Mark_38_at_29.f k l0 a2_0 a2_1).bind fun t418 => (some (decide (t418 ≥ 0)))) = some r := h
 clear h
 replace H := Option.bind_eq_some_iff.mp H
 obtain ⟨t418, A40, H⟩ := H
 replace H : (some (decide (t418 ≥ 0))) = some r := H
 have A4 := Aside0.mk A40
 clear A40
 obtain rfl := Option.some.inj H
 go_enter Tryd.func28, Tryd.ntmps28
 go_wp2_with (first | ((with_reducible refine gate_callee (f := 38) rfl ?_); refine goesL_ (some 7) rfl rfl Tryd.func38 (by kernel_rfl) rfl #[.slice A0 l0.length c0, .func (.func 29) #[] #[.pointer (some ⟨B2, 0, none⟩)]] rfl (by (try simp only [List.map_toArray, List.map_cons, List.map_nil]); first | done | rfl | (simp only [List.length_drop, List.length_take]; rfl)) ?_; (with_reducible refine (api_Mark_38_at_29.calls k _ _ l0  B2 a2_0 a2_1 t418 _ ?side1 ?side2 ?side3 A4.out).mono ?_); (case side1 => repeat (first | exact HR0.out | (with_reducible refine Kd.C_alloc ?_ _) | (with_reducible refine Kd.C_drewN ?_ _) | (with_reducible refine Kd.C_drew ?_))); (case side2 => exact HC0.out); (case side3 => (with_reducible repeat (first | refine blk_drewN ?_ _ | refine blk_drew ?_ | refine blk_alloc ?_ _)); exact BK5002.out); rintro e w5 ⟨rfl, hb⟩; refine ⟨_, rfl, ?_⟩; have n0_ := Aside0.mk (blk_below (g := B2) (o := .cells #[.int .i64 a2_0, .int .i64 a2_1] 39 (0, 0)) (by (with_reducible repeat (first | refine blk_drewN ?_ _ | refine blk_drew ?_ | refine blk_alloc ?_ _)); exact BK5002.out) hb); have n1_ := Aside0.mk (below_step (by repeat (first | (with_reducible first | exact HB.out | apply below_alloc | apply pw_below_drewN | apply below_drew1 | refine below_set ?_ GE5002.out) | exact HB.out)) hb); clear BK5002; clear HB; have BK5002 := n0_; have HB := n1_; clear n0_ n1_; (try clear hb); (try clear hb2); (try clear hk); (try clear hi)))
 go_ret
 exact ⟨by first | rfl | (simp [errW_none, errW_some] <;> rfl) | (simp [*, errW_none, errW_some] <;> rfl), by repeat (first | (with_reducible first | exact HB.out | apply below_alloc | apply pw_below_drewN | apply below_drew1 | refine below_set ?_ GE5002.out) | exact HB.out)⟩
end Go.Proofs.YtkolhpacpbhceaaDoor.Pr
namespace Go.Proofs.YtkolhpacpbhceaaDoor.Pr
open Go.RowKit Go.Proofs.YtkolhpacpbhceaaDoorW.PrintWords Go.Proofs.YtkolhpacpbhceaaDoorW.PrintLast Go.Proofs.YtkolhpacpbhceaaDoorW.PrintMore Go.Proofs.YtkolhpacpbhceaaDoor.X
attribute [local go_sem] max2_int min2_int max_two min_two max_three min_three max_four min_four   -- for this text's walks alone
set_option linter.unusedVariables false
set_option linter.unusedSimpArgs false
mutual
def spilelaw14_RodCoarser.j0 : Nat → Int → Int → Bool → List (S39) → Int → Option (Bool)
 | 0, _, _, _, _, _ => none
 | k + 1, x1, x2, x23, x420000, x420001 => if x23 = true then (some true) else ((spileref13_Copy.f x420000 x420001).bind fun bt422 => ((rod_Make.f k bt422.1 bt422.2 x1).bind fun bt426 => (if bt426.2 = 0 then ((slices_Clone39.f bt426.1).bind fun t430 => ((spileref13_Copy.f x420000 x420001).bind fun bt433 => ((rod_Compare.f k t430 bt433.1 bt433.2 x1).bind fun bt437 => (if bt437.2 = 0 then (spilelaw14_RodCoarser.j1 k x1 x2 bt426.1 (bt437.1 != (-1)) x420000 x420001) else (spilelaw14_RodCoarser.j1 k x1 x2 bt426.1 true x420000 x420001))))) else (some ((bt426.1.length : Int) == 0)))))
def spilelaw14_RodCoarser.j1 : Nat → Int → Int → List (S39) → Bool → List (S39) → Int → Option (Bool)
 | 0, _, _, _, _, _, _ => none
 | k + 1, x1, x2, x7, x50, x420000, x420001 => if x50 = true then (some false) else ((spileref13_Copy.f x420000 x420001).bind fun bt439 => ((rod_Make.f k bt439.1 bt439.2 (wrap64 (x1 * (wrap64 (1 + (Int.tmod (wrap64 (x2)) 8)))))).bind fun bt443 => (if bt443.2 = 0 then (spilelaw14_RodCoarser.l0 k x7 bt443.1 (bt443.1.length : Int) 0) else (some ((bt443.1.length : Int) == 0)))))
def spilelaw14_RodCoarser.l0 : Nat → List (S39) → List (S39) → Int → Int → Option (Bool)
 | 0, _, _, _, _ => none
 | k + 1, x7, x68, x69, x70 => if x70 < x69 then (if 0 ≤ x70 then (if x70 < (x68.length : Int) then ((api_Mark_28_at_29.f k x7 ((rd_T39 x68 x70).f0) ((rd_T39 x68 x70).f1)).bind fun t449 => (if t449 = true then (spilelaw14_RodCoarser.l0 k x7 x68 x69 (wrap64 (x70 + 1))) else (some false))) else (none)) else (none)) else (some true)
end
def spilelaw14_RodCoarser.f (k : Nat) (l0_0 : List (S39)) (a0_1 : Int) (a1 : Int) (a2 : Int) : Option (Bool) := (spilelaw14_awake.f).bind fun t420 => (if t420 = true then ((spilelaw14_few.f ([] : List (S39)) l0_0 a0_1).bind fun t421 => (if t421 = true then (spilelaw14_RodCoarser.j0 k a1 a2 (decide (a1 > 1073741824)) l0_0 a0_1) else (spilelaw14_RodCoarser.j0 k a1 a2 true l0_0 a0_1))) else (some false))
def spilelaw14_RodCoarser.T8 : Bool × List (List Nat × List Nat) := (true, [([], []), ([0], [0]), ([], []), ([2, 1], [2]), ([], []), ([1, 3, 4, 3], [1, 3, 4]), ([5], [5]), ([6], [6]), ([6], [6]), ([7, 5, 0, 1, 2, 3, 4, 5, 6, 7], [7]), ([8, 9, 0, 1, 2, 3, 4, 5, 6, 7, 8, 9], [8])])
def spilelaw14_RodCoarser.B8 : List Nat := [0, 1, 0, 7, 0, 31, 63, 127, 127, 255, 1023]
theorem spilelaw14_RodCoarser.tab8 : rtab .any (opsOf Tryd.f9 8) = spilelaw14_RodCoarser.T8 := by kernel_rfl
theorem spilelaw14_RodCoarser.bits8 : waitsOk spilelaw14_RodCoarser.T8.2 spilelaw14_RodCoarser.B8 = true := by kernel_rfl
set_option maxHeartbeats 8000000 in
set_option maxRecDepth 100000 in
theorem spilelaw14_RodCoarser.calls (k : Nat) (A0_0 : Option Addr) (c0_0 : Nat) (l0_0 : List (S39)) (a0_1 : Int) (a1 : Int) (a2 : Int) (r : Bool) (w : World) (hr0_0 : Kd.C k39 w A0_0 l0_0.length l0_0) (hc0_0 : l0_0.length ≤ c0_0) (hG : GI w) (hr_ : r = true) (h : spilelaw14_RodCoarser.f k l0_0 a0_1 a1 a2 = some r) :
  Calls Tryd.prog 9 #[.agg #[.slice A0_0 l0_0.length c0_0, .int .i64 a0_1], .int .i64 a1, .int .u8 a2] w fun e w' => e = .returned (.bool r) ∧ Below w.heap.size w w' := by
 have hu24 := Tryd.underlying24
 have hu39 := Tryd.underlying39
 have HR0_0 := Aside0.mk hr0_0
 have HC0_0 := Aside0.mk hc0_0
 clear hr0_0 hc0_0
 have HG := Aside0.mk hG
 clear hG
 have HB := Aside0.mk (Below.refl w.heap.size w)
 have H : ((spilelaw14_awake.f).bind fun t420 => (if t420 = true then ((spilelaw14_few.f ([] : List (S39)) l0_0 a0_1).bind fun t421 => (if t421 = true then (spilelaw14_RodCoarser.j0 k a1 a2 (decide (a1 > 1073741824)) l0_0 a0_1) else (spilelaw14_RodCoarser.j0 k a1 a2 true l0_0 a0_1))) else (some false))) = some r := h
 clear h
 replace H := Option.bind_eq_some_iff.mp H
 obtain ⟨t420, A40, H⟩ := H
 replace H : (if t420 = true then ((spilelaw14_few.f ([] : List (S39)) l0_0 a0_1).bind fun t421 => (if t421 = true then (spilelaw14_RodCoarser.j0 k a1 a2 (decide (a1 > 1073741824)) l0_0 a0_1) else (spilelaw14_RodCoarser.j0 k a1 a2 true l0_0 a0_1))) else (some false)) = some r := H
 have A4 := Aside0.mk A40
 clear A40
 by_cases c5 : t420 = true
 ·
  subst c5
  have H1 : ((spilelaw14_few.f ([] : List (S39)) l0_0 a0_1).bind fun t421 => (if t421 = true then (spilelaw14_RodCoarser.j0 k a1 a2 (decide (a1 > 1073741824)) l0_0 a0_1) else (spilelaw14_RodCoarser.j0 k a1 a2 true l0_0 a0_1))) = some r := by rw [if_pos rfl] at H; exact H
  clear H
  have H := H1
  clear H1
  have HC6 := Aside0.mk H
  clear H
  go_enter Tryd.func9, Tryd.ntmps9
  go_upto_region 3 with (first | ((with_reducible refine gate_dst (N := 3) rfl ?_); refine box_event ?hg (N := 3) ?hd (cs := #[.slice A0_0 l0_0.length c0_0, .int .i64 a0_1]) (t := 24) ?hr ?_; (case hd => rfl); (case hg => rfl); (case hr => first | (go_simp; done) | (go_simp; rfl)); intro gb419 hg w7 hbox hb; have n0_ := Aside0.mk (below_step (by repeat (first | (with_reducible first | exact HB.out | apply below_alloc | apply pw_below_drewN | apply below_drew1) | exact HB.out)) hb); have n1_ := Aside0.mk (hbox); have n2_ := Aside0.mk ((by rw [hg]; exact (below_size (by repeat (first | (with_reducible first | exact HB.out | apply below_alloc | apply pw_below_drewN | apply below_drew1) | exact HB.out))) : w.heap.size ≤ gb419)); have n3_ := Aside0.mk ((by rw [hg]; exact (below_size (by repeat (first | (with_reducible first | exact HB.out | apply below_alloc | apply pw_below_drewN | apply below_drew1) | exact HB.out))) : w.heap.size ≤ gb419)); clear HB; have HB := n0_; have BK419 := n1_; have GW419 := n2_; have GE419 := n3_; clear n0_ n1_ n2_ n3_; clear hb hbox hg) | ((with_reducible refine gate_callee (f := 10) rfl ?_); refine goesL_ (some 15) rfl rfl Tryd.func10 (by kernel_rfl) rfl #[] rfl (by (try simp only [List.map_toArray, List.map_cons, List.map_nil]); first | done | rfl | (simp only [List.length_drop, List.length_take]; rfl)) ?_; (with_reducible refine (spilelaw14_awake.calls  true _ ?side1 A4.out).mono ?_); (case side1 => exact GI.below HG.out (by repeat (first | (with_reducible first | exact HB.out | apply below_alloc | apply pw_below_drewN | apply below_drew1 | refine below_set ?_ GE419.out) | exact HB.out))); rintro e w8 ⟨rfl, hb⟩; refine ⟨_, rfl, ?_⟩; have n0_ := Aside0.mk (blk_below (g := gb419) (o := .cells #[.slice A0_0 l0_0.length c0_0, .int .i64 a0_1] 24 (0, 0)) (by (with_reducible repeat (first | refine blk_drewN ?_ _ | refine blk_drew ?_ | refine blk_alloc ?_ _)); exact BK419.out) hb); have n1_ := Aside0.mk (below_step (by repeat (first | (with_reducible first | exact HB.out | apply below_alloc | apply pw_below_drewN | apply below_drew1 | refine below_set ?_ GE419.out) | exact HB.out)) hb); clear BK419; clear HB; have BK419 := n0_; have HB := n1_; clear n0_ n1_; (try clear hb); (try clear hb2); (try clear hk); (try clear hi)))
  (try simp only [Act.put, List.setIfInBounds_toArray, List.set_cons_zero, List.set_cons_succ])
  go_cut [23] (fun v23 wc => ∃ (kq : Nat) (x23_5 : Bool), v23 = .bool x23_5 ∧ Aside0 (spilelaw14_RodCoarser.j0 kq a1 a2 x23_5 l0_0 a0_1 = some r) ∧ Aside0 (kq ≤ k) ∧ Aside0 (wc.heap[gb419]? = some (.cells #[(.slice A0_0 l0_0.length c0_0), .int .i64 a0_1] 24 (0, 0))) ∧ Aside0 (Below w.heap.size w wc))
  case first =>
   have H := HC6.out
   clear HC6
   replace H := Option.bind_eq_some_iff.mp H
   obtain ⟨t421, A90, H⟩ := H
   replace H : (if t421 = true then (spilelaw14_RodCoarser.j0 k a1 a2 (decide (a1 > 1073741824)) l0_0 a0_1) else (spilelaw14_RodCoarser.j0 k a1 a2 true l0_0 a0_1)) = some r := H
   have A9 := Aside0.mk A90
   clear A90
   by_cases c10 : t421 = true
   ·
    subst c10
    have H1 : (spilelaw14_RodCoarser.j0 k a1 a2 (decide (a1 > 1073741824)) l0_0 a0_1) = some r := by rw [if_pos rfl] at H; exact H
    clear H
    have H := H1
    clear H1
    have H' := Aside0.mk H
    clear H
    have hcz11_0 : w8.cell? ⟨gb419, 0, none⟩ = some (.slice A0_0 l0_0.length c0_0) := (blk_cell BK419.out 0).trans rfl
    have hcz11_1 : w8.cell? ⟨gb419, 1, none⟩ = some (.int .i64 a0_1) := (blk_cell BK419.out 1).trans rfl
    have hfz11_0 := blk_frozen BK419.out 0
    have hfz11_1 := blk_frozen BK419.out 1
    go_wp2_with (first | ((with_reducible refine gate_callee (f := 11) rfl ?_); refine goesL_ (some 18) rfl rfl Tryd.func11 (by kernel_rfl) rfl #[.slice none 0 0, .agg #[.slice A0_0 l0_0.length c0_0, .int .i64 a0_1]] rfl (by (try simp only [List.map_toArray, List.map_cons, List.map_nil]); first | done | rfl | (simp only [List.length_drop, List.length_take]; rfl)) ?_; (refine (spilelaw14_few.calls _ _ ([] : List (S39)) _ _ l0_0 a0_1 true _ ?side1 ?side2 ?side3 ?side4 A9.out).mono ?_); (case side1 => exact Kd.C_nil _ _); (case side2 => exact Nat.le_refl _); (case side3 => repeat (first | exact (Kd.C_below HR0_0.out HB.out) | (with_reducible refine Kd.C_alloc ?_ _) | (with_reducible refine Kd.C_drewN ?_ _) | (with_reducible refine Kd.C_drew ?_))); (case side4 => exact HC0_0.out); rintro e w12 ⟨rfl, hb⟩; refine ⟨_, rfl, ?_⟩; have n0_ := Aside0.mk (blk_below (g := gb419) (o := .cells #[.slice A0_0 l0_0.length c0_0, .int .i64 a0_1] 24 (0, 0)) (by (with_reducible repeat (first | refine blk_drewN ?_ _ | refine blk_drew ?_ | refine blk_alloc ?_ _)); exact BK419.out) hb); have n1_ := Aside0.mk (below_step (by repeat (first | (with_reducible first | exact HB.out | apply below_alloc | apply pw_below_drewN | apply below_drew1 | refine below_set ?_ GE419.out) | exact HB.out)) hb); clear BK419; clear HB; have BK419 := n0_; have HB := n1_; clear n0_ n1_; (try clear hb); (try clear hb2); (try clear hk); (try clear hi)))
    go_meet
    case rel => exact ⟨_, (decide (a1 > 1073741824)), (by first | rfl | (simp; done) | (simp [*]; done)), H', ⟨by first | omega | exact Nat.le_refl _⟩, ⟨by (with_reducible repeat (first | refine blk_drewN ?_ _ | refine blk_drew ?_ | refine blk_alloc ?_ _)); exact BK419.out⟩, ⟨by repeat (first | (with_reducible first | exact HB.out | apply below_alloc | apply pw_below_drewN | apply below_drew1 | refine below_set ?_ GE419.out) | exact HB.out)⟩⟩
   ·
    replace c10 := Bool.eq_false_iff.mpr c10
    subst c10
    have H1 : (spilelaw14_RodCoarser.j0 k a1 a2 true l0_0 a0_1) = some r := by rw [if_neg (show ¬ (false = true) by decide)] at H; exact H
    clear H
    have H := H1
    clear H1
    have H' := Aside0.mk H
    clear H
    have hcz13_0 : w8.cell? ⟨gb419, 0, none⟩ = some (.slice A0_0 l0_0.length c0_0) := (blk_cell BK419.out 0).trans rfl
    have hcz13_1 : w8.cell? ⟨gb419, 1, none⟩ = some (.int .i64 a0_1) := (blk_cell BK419.out 1).trans rfl
    have hfz13_0 := blk_frozen BK419.out 0
    have hfz13_1 := blk_frozen BK419.out 1
    go_wp2_with (first | ((with_reducible refine gate_callee (f := 11) rfl ?_); refine goesL_ (some 18) rfl rfl Tryd.func11 (by kernel_rfl) rfl #[.slice none 0 0, .agg #[.slice A0_0 l0_0.length c0_0, .int .i64 a0_1]] rfl (by (try simp only [List.map_toArray, List.map_cons, List.map_nil]); first | done | rfl | (simp only [List.length_drop, List.length_take]; rfl)) ?_; (refine (spilelaw14_few.calls _ _ ([] : List (S39)) _ _ l0_0 a0_1 false _ ?side1 ?side2 ?side3 ?side4 A9.out).mono ?_); (case side1 => exact Kd.C_nil _ _); (case side2 => exact Nat.le_refl _); (case side3 => repeat (first | exact (Kd.C_below HR0_0.out HB.out) | (with_reducible refine Kd.C_alloc ?_ _) | (with_reducible refine Kd.C_drewN ?_ _) | (with_reducible refine Kd.C_drew ?_))); (case side4 => exact HC0_0.out); rintro e w14 ⟨rfl, hb⟩; refine ⟨_, rfl, ?_⟩; have n0_ := Aside0.mk (blk_below (g := gb419) (o := .cells #[.slice A0_0 l0_0.length c0_0, .int .i64 a0_1] 24 (0, 0)) (by (with_reducible repeat (first | refine blk_drewN ?_ _ | refine blk_drew ?_ | refine blk_alloc ?_ _)); exact BK419.out) hb); have n1_ := Aside0.mk (below_step (by repeat (first | (with_reducible first | exact HB.out | apply below_alloc | apply pw_below_drewN | apply below_drew1 | refine below_set ?_ GE419.out) | exact HB.out)) hb); clear BK419; clear HB; have BK419 := n0_; have HB := n1_; clear n0_ n1_; (try clear hb); (try clear hb2); (try clear hk); (try clear hi)))
    go_meet
    case rel => exact ⟨_, (true), (by first | rfl | (simp; done) | (simp [*]; done)), H', ⟨by first | omega | exact Nat.le_refl _⟩, ⟨by (with_reducible repeat (first | refine blk_drewN ?_ _ | refine blk_drew ?_ | refine blk_alloc ?_ _)); exact BK419.out⟩, ⟨by repeat (first | (with_reducible first | exact HB.out | apply below_alloc | apply pw_below_drewN | apply below_drew1 | refine below_set ?_ GE419.out) | exact HB.out)⟩⟩
  case rest =>
   clear HC6
   try clear c1
   try clear p2
   try clear c5
   try clear c9
   try clear c10
   try clear c11
   try clear hcz11_0
   try clear hcz11_1
   try clear hcz13_0
   try clear hcz13_1
   try clear hfz11_0
   try clear hfz11_1
   try clear hfz13_0
   try clear hfz13_1
   obtain ⟨kq, x23_5, rfl, HA, HJ5, BK419, HB⟩ := hcut
   cases kq with
   | zero => exact absurd HA.out (by simp [spilelaw14_RodCoarser.j0])
   | succ kj5 =>
    have H := HA.out
    clear HA
    simp only [spilelaw14_RodCoarser.j0] at H
    by_cases c15 : x23_5 = true
    ·
     subst c15
     have H1 : (some true) = some r := by rw [if_pos rfl] at H; exact H
     clear H
     have H := H1
     clear H1
     obtain rfl := Option.some.inj H
     go_wp2
     go_ret
     exact ⟨by first | rfl | (simp [errW_none, errW_some] <;> rfl) | (simp [*, errW_none, errW_some] <;> rfl), by repeat (first | (with_reducible first | exact HB.out | apply below_alloc | apply pw_below_drewN | apply below_drew1 | refine below_set ?_ GE419.out) | exact HB.out)⟩
    ·
     replace c15 := Bool.eq_false_iff.mpr c15
     subst c15
     have H1 : ((spileref13_Copy.f l0_0 a0_1).bind fun bt422 => ((rod_Make.f kj5 bt422.1 bt422.2 a1).bind fun bt426 => (if bt426.2 = 0 then ((slices_Clone39.f bt426.1).bind fun t430 => ((spileref13_Copy.f l0_0 a0_1).bind fun bt433 => ((rod_Compare.f kj5 t430 bt433.1 bt433.2 a1).bind fun bt437 => (if bt437.2 = 0 then (spilelaw14_RodCoarser.j1 kj5 a1 a2 bt426.1 (bt437.1 != (-1)) l0_0 a0_1) else (spilelaw14_RodCoarser.j1 kj5 a1 a2 bt426.1 true l0_0 a0_1))))) else (some ((bt426.1.length : Int) == 0))))) = some r := by rw [if_neg (show ¬ (false = true) by decide)] at H; exact H
     clear H
     have H := H1
     clear H1
     replace H := Option.bind_eq_some_iff.mp H
     obtain ⟨⟨t422, t425⟩, A160, H⟩ := H
     replace H : ((rod_Make.f kj5 t422 t425 a1).bind fun bt426 => (if bt426.2 = 0 then ((slices_Clone39.f bt426.1).bind fun t430 => ((spileref13_Copy.f l0_0 a0_1).bind fun bt433 => ((rod_Compare.f kj5 t430 bt433.1 bt433.2 a1).bind fun bt437 => (if bt437.2 = 0 then (spilelaw14_RodCoarser.j1 kj5 a1 a2 bt426.1 (bt437.1 != (-1)) l0_0 a0_1) else (spilelaw14_RodCoarser.j1 kj5 a1 a2 bt426.1 true l0_0 a0_1))))) else (some ((bt426.1.length : Int) == 0)))) = some r := H
     have A16 := Aside0.mk A160
     clear A160
     replace H := Option.bind_eq_some_iff.mp H
     obtain ⟨⟨t426, t429⟩, A170, H⟩ := H
     replace H : (if t429 = 0 then ((slices_Clone39.f t426).bind fun t430 => ((spileref13_Copy.f l0_0 a0_1).bind fun bt433 => ((rod_Compare.f kj5 t430 bt433.1 bt433.2 a1).bind fun bt437 => (if bt437.2 = 0 then (spilelaw14_RodCoarser.j1 kj5 a1 a2 t426 (bt437.1 != (-1)) l0_0 a0_1) else (spilelaw14_RodCoarser.j1 kj5 a1 a2 t426 true l0_0 a0_1))))) else (some ((t426.length : Int) == 0))) = some r := H
     have A17 := Aside0.mk A170
     clear A170
     by_cases c18 : t429 = 0
     ·
      rw [if_pos c18] at H
      have c18b0 : (t429 == 0) = true := beq_iff_eq.mpr c18
      have c18b1 : (t429 != 0) = false := bne_eq_false_iff_eq.mpr c18
      clear c18
      replace H := Option.bind_eq_some_iff.mp H
      obtain ⟨t430, A190, H⟩ := H
      replace H : ((spileref13_Copy.f l0_0 a0_1).bind fun bt433 => ((rod_Compare.f kj5 t430 bt433.1 bt433.2 a1).bind fun bt437 => (if bt437.2 = 0 then (spilelaw14_RodCoarser.j1 kj5 a1 a2 t426 (bt437.1 != (-1)) l0_0 a0_1) else (spilelaw14_RodCoarser.j1 kj5 a1 a2 t426 true l0_0 a0_1)))) = some r := H
      have A19 := Aside0.mk A190
      clear A190
      replace H := Option.bind_eq_some_iff.mp H
      obtain ⟨⟨t433, t436⟩, A200, H⟩ := H
      replace H : ((rod_Compare.f kj5 t430 t433 t436 a1).bind fun bt437 => (if bt437.2 = 0 then (spilelaw14_RodCoarser.j1 kj5 a1 a2 t426 (bt437.1 != (-1)) l0_0 a0_1) else (spilelaw14_RodCoarser.j1 kj5 a1 a2 t426 true l0_0 a0_1))) = some r := H
      have A20 := Aside0.mk A200
      clear A200
      replace H := Option.bind_eq_some_iff.mp H
      obtain ⟨⟨t437, t438⟩, A210, H⟩ := H
      replace H : (if t438 = 0 then (spilelaw14_RodCoarser.j1 kj5 a1 a2 t426 (t437 != (-1)) l0_0 a0_1) else (spilelaw14_RodCoarser.j1 kj5 a1 a2 t426 true l0_0 a0_1)) = some r := H
      have A21 := Aside0.mk A210
      clear A210
      have HC22 := Aside0.mk H
      clear H
      have hcz23_0 : wc.cell? ⟨gb419, 0, none⟩ = some (.slice A0_0 l0_0.length c0_0) := (blk_cell BK419.out 0).trans rfl
      have hcz23_1 : wc.cell? ⟨gb419, 1, none⟩ = some (.int .i64 a0_1) := (blk_cell BK419.out 1).trans rfl
      have hfz23_0 := blk_frozen BK419.out 0
      have hfz23_1 := blk_frozen BK419.out 1
      try go_wp2_with (first | ((with_reducible refine gate_callee (f := 13) rfl ?_); refine goesL_ (some 26) rfl rfl Tryd.func13 (by kernel_rfl) rfl #[.agg #[.slice A0_0 l0_0.length c0_0, .int .i64 a0_1]] rfl (by (try simp only [List.map_toArray, List.map_cons, List.map_nil]); first | done | rfl | (simp only [List.length_drop, List.length_take]; rfl)) ?_; (with_reducible refine (spileref13_Copy.calls _ _ l0_0 a0_1 t422 t425 _ ?side1 ?side2 A16.out).mono ?_); (case side1 => repeat (first | exact (Kd.C_below HR0_0.out HB.out) | (with_reducible refine Kd.C_alloc ?_ _) | (with_reducible refine Kd.C_drewN ?_ _) | (with_reducible refine Kd.C_drew ?_))); (case side2 => exact HC0_0.out); rintro e w24 ⟨v423, rfl, ho0, hb⟩; refine ⟨_, rfl, ?_⟩; have n0_ := Aside0.mk (Kd.R_lower ho0 (below_size (by repeat (first | (with_reducible first | exact HB.out | apply below_alloc | apply pw_below_drewN | apply below_drew1 | refine below_set ?_ GE419.out) | exact HB.out)))); have n1_ := Aside0.mk (blk_below (g := gb419) (o := .cells #[.slice A0_0 l0_0.length c0_0, .int .i64 a0_1] 24 (0, 0)) (by (with_reducible repeat (first | refine blk_drewN ?_ _ | refine blk_drew ?_ | refine blk_alloc ?_ _)); exact BK419.out) hb); have n2_ := Aside0.mk (below_step (by repeat (first | (with_reducible first | exact HB.out | apply below_alloc | apply pw_below_drewN | apply below_drew1 | refine below_set ?_ GE419.out) | exact HB.out)) hb); clear BK419; clear HB; have HO424 := n0_; have BK419 := n1_; have HB := n2_; clear n0_ n1_ n2_; (try clear hb); (try clear hb2); (try clear hk); (try clear hi); (try clear ho0); obtain ⟨Ao25, co25, eo25⟩ := Kd.R_slice HO424.out; subst eo25) | ((with_reducible refine gate_callee (f := 12) rfl ?_); refine goesL_ (some 28) rfl rfl Tryd.func12 (by kernel_rfl) rfl #[.agg #[.slice Ao25 t422.length co25, .int .i64 t425], .int .i64 a1] rfl (by (try simp only [List.map_toArray, List.map_cons, List.map_nil]); first | done | rfl | (simp only [List.length_drop, List.length_take]; rfl)) ?_; (with_reducible refine (rod_Make.calls kj5 _ _ t422 t425 a1 t426 t429 _ ?side1 ?side2 A17.out).mono ?_); (case side1 => repeat (first | exact (Kd.R_reads' HO424.out).2.2 | (with_reducible refine Kd.C_alloc ?_ _) | (with_reducible refine Kd.C_drewN ?_ _) | (with_reducible refine Kd.C_drew ?_))); (case side2 => exact (Kd.R_reads' HO424.out).2.1); rintro e w26 ⟨v427, rfl, ho0, hb⟩; refine ⟨_, rfl, ?_⟩; have n0_ := Aside0.mk (Kd.R_elder' (by (with_reducible repeat (first | apply Kd.R_alloc | apply Kd.R_drewN | apply Kd.R_drew)); exact HO424.out) (Kd.R_base ho0) hb); have n1_ := Aside0.mk (Kd.R_lower (Kd.R_new' ho0 (Kd.R_lt (by (with_reducible repeat (first | apply Kd.R_alloc | apply Kd.R_drewN | apply Kd.R_drew)); exact HO424.out))) (below_size (by repeat (first | (with_reducible first | exact HB.out | apply below_alloc | apply pw_below_drewN | apply below_drew1 | refine below_set ?_ GE419.out) | exact HB.out)))); have n2_ := Aside0.mk (blk_below (g := gb419) (o := .cells #[.slice A0_0 l0_0.length c0_0, .int .i64 a0_1] 24 (0, 0)) (by (with_reducible repeat (first | refine blk_drewN ?_ _ | refine blk_drew ?_ | refine blk_alloc ?_ _)); exact BK419.out) hb); have n3_ := Aside0.mk (below_step (by repeat (first | (with_reducible first | exact HB.out | apply below_alloc | apply pw_below_drewN | apply below_drew1 | refine below_set ?_ GE419.out) | exact HB.out)) hb); clear HO424; clear BK419; clear HB; have HO424 := n0_; have HO428 := n1_; have BK419 := n2_; have HB := n3_; clear n0_ n1_ n2_ n3_; (try clear hb); (try clear hb2); (try clear hk); (try clear hi); (try clear ho0)))
      have n0_ := Aside0.mk (Kd.R_drew HO424.out)
      have n1_ := Aside0.mk (Kd.R_drew HO428.out)
      have n2_ := Aside0.mk (blk_drew BK419.out)
      have n3_ := Aside0.mk (below_drew1 HB.out)
      clear HO424
      clear HO428
      clear BK419
      clear HB
      have HO424 := n0_
      have HO428 := n1_
      have BK419 := n2_
      have HB := n3_
      clear n0_ n1_ n2_ n3_
      obtain ⟨Ao28, co28, eo28⟩ := Kd.R_slice HO428.out
      (first | subst eo28 | (injection eo28 with f1_ f2_ f3_; have f4_ := f1_.symm; have f5_ := f3_.symm; clear f1_ f2_ f3_; subst f4_; subst f5_))
      refine start_ (n := 11) (S := fun w' => w'.cell? ⟨gb419, 0, none⟩ = some (.slice A0_0 l0_0.length c0_0) ∧ w'.cell? ⟨gb419, 1, none⟩ = some (.int .i64 a0_1)) (ds := []) #[false, false, false, false, false, false, false, false, false, false, false] (by kernel_rfl) rfl rfl ⟨(blk_cell BK419.out 0).trans rfl, (blk_cell BK419.out 1).trans rfl⟩ (fun hHeld => ?_); refine with_tabW spilelaw14_RodCoarser.tab8 spilelaw14_RodCoarser.bits8 (fun HT_ HW_ => ?_)
      generalize w26.drew = w27 at HO424 HO428 BK419 HB hHeld ⊢
      refine pure_ (i := 0) (N := some 37) (v := ?_) (a' := ?_) #[true, false, false, false, false, false, false, false, false, false, false] rfl rfl (any_of HT_.out (by kernel_rfl)) (fun _ _ _ h => h) (Or.inl ⟨by rfl, ?_⟩) ?_ ?_
      rotate_left
      ·
       intro w'
       go_simp
       with_reducible rfl
      rotate_left
      ·
       simp only [Act.put, List.setIfInBounds_toArray, List.set_cons_zero, List.set_cons_succ, i64_w, i32_w]
       rfl
      refine pure_ (i := 4) (N := some 41) (v := ?_) (a' := ?_) #[true, false, false, false, true, false, false, false, false, false, false] rfl rfl (any_of HT_.out (by kernel_rfl)) (fun _ _ _ h => h) (Or.inl ⟨by rfl, ?_⟩) ?_ ?_
      rotate_left
      ·
       intro w'
       go_simp
       with_reducible rfl
      rotate_left
      ·
       simp only [Act.put, List.setIfInBounds_toArray, List.set_cons_zero, List.set_cons_succ, i64_w, i32_w]
       rfl
      refine take_ (i := 2) (N := some 39) (v := ?_) (a' := ?_) #[true, false, true, false, true, false, false, false, false, false, false] rfl rfl (take_ofW HT_.out HW_.out (by kernel_rfl)) (fun _ _ _ h => h) (Or.inl ⟨by rfl, ?_⟩) hHeld ?_ ?_
      rotate_left
      ·
       rintro w' ⟨s0, s1⟩
       go_simp
       with_reducible rfl
      rotate_left
      ·
       simp only [Act.put, List.setIfInBounds_toArray, List.set_cons_zero, List.set_cons_succ, i64_w, i32_w]
       rfl
      refine one_ (i := 1) (N := some 38) #[true, true, true, false, true, false, false, false, false, false, false] rfl rfl (one_of HT_.out (by kernel_rfl)) (by decide) (fun K hK => ?_)
      refine goes_ Tryd.func17 (by kernel_rfl) rfl #[.slice Ao28 t426.length co28] (by rfl) rfl rfl (by (try simp only [List.map_toArray, List.map_cons, List.map_nil]); first | done | rfl | (simp only [List.length_drop, List.length_take]; rfl)) ?_
      with_reducible refine (slices_Clone39.calls _ _ t426 t430 _ ?side1 ?side2 A19.out).mono ?_
      (case side1 => repeat (first | exact (Kd.R_reads' HO428.out).2.2 | (with_reducible refine Kd.C_alloc ?_ _) | (with_reducible refine Kd.C_drewN ?_ _) | (with_reducible refine Kd.C_drew ?_)))
      (case side2 => exact (Kd.R_reads' HO428.out).2.1)
      rintro e w29 ⟨v431, rfl, ho0, hb⟩
      refine ⟨_, rfl, ?_⟩
      have n0_ := Aside0.mk (Kd.R_elder' (by (with_reducible repeat (first | apply Kd.R_alloc | apply Kd.R_drewN | apply Kd.R_drew)); exact HO424.out) (Kd.R_base ho0) hb)
      have n1_ := Aside0.mk (Kd.R_elder' (by (with_reducible repeat (first | apply Kd.R_alloc | apply Kd.R_drewN | apply Kd.R_drew)); exact HO428.out) (Kd.R_base ho0) hb)
      have n2_ := Aside0.mk (Kd.R_lower (Kd.R_new' (Kd.R_new' ho0 (Kd.R_lt (by (with_reducible repeat (first | apply Kd.R_alloc | apply Kd.R_drewN | apply Kd.R_drew)); exact HO424.out))) (Kd.R_lt (by (with_reducible repeat (first | apply Kd.R_alloc | apply Kd.R_drewN | apply Kd.R_drew)); exact HO428.out))) (below_size (by repeat (first | (with_reducible first | exact HB.out | apply below_alloc | apply pw_below_drewN | apply below_drew1 | refine below_set ?_ GE419.out) | exact HB.out))))
      have n3_ := Aside0.mk (blk_below (g := gb419) (o := .cells #[.slice A0_0 l0_0.length c0_0, .int .i64 a0_1] 24 (0, 0)) (by (with_reducible repeat (first | refine blk_drewN ?_ _ | refine blk_drew ?_ | refine blk_alloc ?_ _)); exact BK419.out) hb)
      have n4_ := Aside0.mk (below_step (by repeat (first | (with_reducible first | exact HB.out | apply below_alloc | apply pw_below_drewN | apply below_drew1 | refine below_set ?_ GE419.out) | exact HB.out)) hb)
      clear HO424
      clear HO428
      clear BK419
      clear HB
      have HO424 := n0_
      have HO428 := n1_
      have HO432 := n2_
      have BK419 := n3_
      have HB := n4_
      clear n0_ n1_ n2_ n3_ n4_
      (try clear hb)
      (try clear hb2)
      (try clear hk)
      (try clear hi)
      (try clear ho0)
      refine hK.out _ _ ⟨(blk_cell BK419.out 0).trans rfl, (blk_cell BK419.out 1).trans rfl⟩ (fun hHeld => ?_)
      clear hK K
      refine norm_ (a' := ?_) ?_ ?_
      rotate_left
      ·
       show Act.put _ (some 38) _ = _
       simp only [Act.put, List.setIfInBounds_toArray, List.set_cons_zero, List.set_cons_succ, i64_w, i32_w]
       rfl
      refine one_ (i := 3) (N := some 40) #[true, true, true, true, true, false, false, false, false, false, false] rfl rfl (one_of HT_.out (by kernel_rfl)) (by decide) (fun K hK => ?_)
      refine goes_ Tryd.func13 (by kernel_rfl) rfl #[.agg #[.slice A0_0 l0_0.length c0_0, .int .i64 a0_1]] (by rfl) rfl rfl (by (try simp only [List.map_toArray, List.map_cons, List.map_nil]); first | done | rfl | (simp only [List.length_drop, List.length_take]; rfl)) ?_
      with_reducible refine (spileref13_Copy.calls _ _ l0_0 a0_1 t433 t436 _ ?side1 ?side2 A20.out).mono ?_
      (case side1 => repeat (first | exact (Kd.C_below HR0_0.out HB.out) | (with_reducible refine Kd.C_alloc ?_ _) | (with_reducible refine Kd.C_drewN ?_ _) | (with_reducible refine Kd.C_drew ?_)))
      (case side2 => exact HC0_0.out)
      rintro e w30 ⟨v434, rfl, ho0, hb⟩
      refine ⟨_, rfl, ?_⟩
      have n0_ := Aside0.mk (Kd.R_elder' (by (with_reducible repeat (first | apply Kd.R_alloc | apply Kd.R_drewN | apply Kd.R_drew)); exact HO424.out) (Kd.R_base ho0) hb)
      have n1_ := Aside0.mk (Kd.R_elder' (by (with_reducible repeat (first | apply Kd.R_alloc | apply Kd.R_drewN | apply Kd.R_drew)); exact HO428.out) (Kd.R_base ho0) hb)
      have n2_ := Aside0.mk (Kd.R_elder' (by (with_reducible repeat (first | apply Kd.R_alloc | apply Kd.R_drewN | apply Kd.R_drew)); exact HO432.out) (Kd.R_base ho0) hb)
      have n3_ := Aside0.mk (Kd.R_lower (Kd.R_new' (Kd.R_new' (Kd.R_new' ho0 (Kd.R_lt (by (with_reducible repeat (first | apply Kd.R_alloc | apply Kd.R_drewN | apply Kd.R_drew)); exact HO424.out))) (Kd.R_lt (by (with_reducible repeat (first | apply Kd.R_alloc | apply Kd.R_drewN | apply Kd.R_drew)); exact HO428.out))) (Kd.R_lt (by (with_reducible repeat (first | apply Kd.R_alloc | apply Kd.R_drewN | apply Kd.R_drew)); exact HO432.out))) (below_size (by repeat (first | (with_reducible first | exact HB.out | apply below_alloc | apply pw_below_drewN | apply below_drew1 | refine below_set ?_ GE419.out) | exact HB.out))))
      have n4_ := Aside0.mk (blk_below (g := gb419) (o := .cells #[.slice A0_0 l0_0.length c0_0, .int .i64 a0_1] 24 (0, 0)) (by (with_reducible repeat (first | refine blk_drewN ?_ _ | refine blk_drew ?_ | refine blk_alloc ?_ _)); exact BK419.out) hb)
      have n5_ := Aside0.mk (below_step (by repeat (first | (with_reducible first | exact HB.out | apply below_alloc | apply pw_below_drewN | apply below_drew1 | refine below_set ?_ GE419.out) | exact HB.out)) hb)
      clear HO424
      clear HO428
      clear HO432
      clear BK419
      clear HB
      have HO424 := n0_
      have HO428 := n1_
      have HO432 := n2_
      have HO435 := n3_
      have BK419 := n4_
      have HB := n5_
      clear n0_ n1_ n2_ n3_ n4_ n5_
      (try clear hb)
      (try clear hb2)
      (try clear hk)
      (try clear hi)
      (try clear ho0)
      obtain ⟨Ao31, co31, eo31⟩ := Kd.R_slice HO432.out
      (first | subst eo31 | (injection eo31 with f1_ f2_ f3_; have f4_ := f1_.symm; have f5_ := f3_.symm; clear f1_ f2_ f3_; subst f4_; subst f5_))
      obtain ⟨Ao32, co32, eo32⟩ := Kd.R_slice HO435.out
      (first | subst eo32 | (injection eo32 with f1_ f2_ f3_; have f4_ := f1_.symm; have f5_ := f3_.symm; clear f1_ f2_ f3_; subst f4_; subst f5_))
      refine hK.out _ _ ⟨(blk_cell BK419.out 0).trans rfl, (blk_cell BK419.out 1).trans rfl⟩ (fun hHeld => ?_)
      clear hK K
      refine norm_ (a' := ?_) ?_ ?_
      rotate_left
      ·
       show Act.put _ (some 40) _ = _
       simp only [Act.put, List.setIfInBounds_toArray, List.set_cons_zero, List.set_cons_succ, i64_w, i32_w]
       rfl
      refine one_ (i := 5) (N := some 42) #[true, true, true, true, true, true, false, false, false, false, false] rfl rfl (one_of HT_.out (by kernel_rfl)) (by decide) (fun K hK => ?_)
      refine goes_ Tryd.func19 (by kernel_rfl) rfl #[.slice Ao31 t430.length co31, .agg #[.slice Ao32 t433.length co32, .int .i64 t436], .int .i64 a1] (by rfl) rfl rfl (by (try simp only [List.map_toArray, List.map_cons, List.map_nil]); first | done | rfl | (simp only [List.length_drop, List.length_take]; rfl)) ?_
      with_reducible refine (rod_Compare.calls kj5 _ _ t430 _ _ t433 t436 a1 t437 t438 _ ?side1 ?side2 ?side3 ?side4 A21.out).mono ?_
      (case side1 => repeat (first | exact (Kd.R_reads' HO432.out).2.2 | (with_reducible refine Kd.C_alloc ?_ _) | (with_reducible refine Kd.C_drewN ?_ _) | (with_reducible refine Kd.C_drew ?_)))
      (case side2 => exact (Kd.R_reads' HO432.out).2.1)
      (case side3 => repeat (first | exact (Kd.R_reads' HO435.out).2.2 | (with_reducible refine Kd.C_alloc ?_ _) | (with_reducible refine Kd.C_drewN ?_ _) | (with_reducible refine Kd.C_drew ?_)))
      (case side4 => exact (Kd.R_reads' HO435.out).2.1)
      rintro e w33 ⟨rfl, hb⟩
      refine ⟨_, rfl, ?_⟩
      have n0_ := Aside0.mk (Kd.R_below (by (with_reducible repeat (first | apply Kd.R_alloc | apply Kd.R_drewN | apply Kd.R_drew)); exact HO424.out) hb)
      have n1_ := Aside0.mk (Kd.R_below (by (with_reducible repeat (first | apply Kd.R_alloc | apply Kd.R_drewN | apply Kd.R_drew)); exact HO428.out) hb)
      have n2_ := Aside0.mk (Kd.R_below (by (with_reducible repeat (first | apply Kd.R_alloc | apply Kd.R_drewN | apply Kd.R_drew)); exact HO432.out) hb)
      have n3_ := Aside0.mk (Kd.R_below (by (with_reducible repeat (first | apply Kd.R_alloc | apply Kd.R_drewN | apply Kd.R_drew)); exact HO435.out) hb)
      have n4_ := Aside0.mk (blk_below (g := gb419) (o := .cells #[.slice A0_0 l0_0.length c0_0, .int .i64 a0_1] 24 (0, 0)) (by (with_reducible repeat (first | refine blk_drewN ?_ _ | refine blk_drew ?_ | refine blk_alloc ?_ _)); exact BK419.out) hb)
      have n5_ := Aside0.mk (below_step (by repeat (first | (with_reducible first | exact HB.out | apply below_alloc | apply pw_below_drewN | apply below_drew1 | refine below_set ?_ GE419.out) | exact HB.out)) hb)
      clear HO424
      clear HO428
      clear HO432
      clear HO435
      clear BK419
      clear HB
      have HO424 := n0_
      have HO428 := n1_
      have HO432 := n2_
      have HO435 := n3_
      have BK419 := n4_
      have HB := n5_
      clear n0_ n1_ n2_ n3_ n4_ n5_
      (try clear hb)
      (try clear hb2)
      (try clear hk)
      (try clear hi)
      refine hK.out _ _ ⟨(blk_cell BK419.out 0).trans rfl, (blk_cell BK419.out 1).trans rfl⟩ (fun hHeld => ?_)
      clear hK K
      refine norm_ (a' := ?_) ?_ ?_
      rotate_left
      ·
       show Act.put _ (some 42) _ = _
       simp only [Act.put, List.setIfInBounds_toArray, List.set_cons_zero, List.set_cons_succ, i64_w, i32_w]
       rfl
      refine pure_ (i := 6) (N := some 36) (v := ?_) (a' := ?_) #[true, true, true, true, true, true, true, false, false, false, false] rfl rfl (any_of HT_.out (by kernel_rfl)) (fun _ _ _ h => h) (Or.inl ⟨by rfl, ?_⟩) ?_ ?_
      rotate_left
      ·
       intro w'
       go_simp
       with_reducible rfl
      rotate_left
      ·
       simp only [Act.put, List.setIfInBounds_toArray, List.set_cons_zero, List.set_cons_succ, i64_w, i32_w]
       rfl
      refine pure_ (i := 7) (N := some 43) (v := ?_) (a' := ?_) #[true, true, true, true, true, true, true, true, false, false, false] rfl rfl (any_of HT_.out (by kernel_rfl)) (fun _ _ _ h => h) (Or.inl ⟨by rfl, ?_⟩) ?_ ?_
      rotate_left
      ·
       intro w'
       go_simp
       with_reducible rfl
      rotate_left
      ·
       simp only [Act.put, List.setIfInBounds_toArray, List.set_cons_zero, List.set_cons_succ, i64_w, i32_w]
       rfl
      refine pure_ (i := 8) (N := some 44) (v := ?_) (a' := ?_) #[true, true, true, true, true, true, true, true, true, false, false] rfl rfl (any_of HT_.out (by kernel_rfl)) (fun _ _ _ h => h) (Or.inl ⟨by rfl, ?_⟩) ?_ ?_
      rotate_left
      ·
       intro w'
       go_simp
       with_reducible rfl
      rotate_left
      ·
       simp only [Act.put, List.setIfInBounds_toArray, List.set_cons_zero, List.set_cons_succ, i64_w, i32_w]
       rfl
      refine pure_ (i := 9) (N := some 9) (v := ?_) (a' := ?_) #[true, true, true, true, true, true, true, true, true, true, false] rfl rfl (any_of HT_.out (by kernel_rfl)) (fun _ _ _ h => h) (Or.inl ⟨by rfl, ?_⟩) ?_ ?_
      rotate_left
      ·
       intro w'
       go_simp
       with_reducible rfl
      rotate_left
      ·
       simp only [Act.put, List.setIfInBounds_toArray, List.set_cons_zero, List.set_cons_succ, i64_w, i32_w]
       rfl
      refine pure_ (i := 10) (N := some 10) (v := ?_) (a' := ?_) #[true, true, true, true, true, true, true, true, true, true, true] rfl rfl (any_of HT_.out (by kernel_rfl)) (fun _ _ _ h => h) (Or.inl ⟨by rfl, ?_⟩) ?_ ?_
      rotate_left
      ·
       intro w'
       go_simp
       with_reducible rfl
      rotate_left
      ·
       simp only [Act.put, List.setIfInBounds_toArray, List.set_cons_zero, List.set_cons_succ, i64_w, i32_w]
       rfl
      refine done_ (done_of HT_.out (by kernel_rfl)) ?_
      go_upto_region 9 with (fail)
      go_cut [50] (fun v50 wc => ∃ (kq : Nat) (x50_21 : Bool), v50 = .bool x50_21 ∧ Aside0 (spilelaw14_RodCoarser.j1 kq a1 a2 t426 x50_21 l0_0 a0_1 = some r) ∧ Aside0 (kq ≤ kj5) ∧ Aside0 (Kd.R k39 39 wc w.heap.size (fun _ => True) (.slice Ao28 t426.length co28) t426) ∧ Aside0 (wc.heap[gb419]? = some (.cells #[(.slice A0_0 l0_0.length c0_0), .int .i64 a0_1] 24 (0, 0))) ∧ Aside0 (Below w.heap.size w wc))
      case first =>
       have H := HC22.out
       clear HC22
       by_cases c34 : t438 = 0
       ·
        rw [if_pos c34] at H
        have c34b0 : (t438 == 0) = true := beq_iff_eq.mpr c34
        have c34b1 : (t438 != 0) = false := bne_eq_false_iff_eq.mpr c34
        clear c34
        (first | rw [c34b0] | (simp only [i64_w, i32_w]; rw [c34b0]) | skip)
        have H' := Aside0.mk H
        clear H
        go_wp2
        go_meet
        case rel => exact ⟨_, ((t437 != (-1))), (by first | rfl | (simp; done) | (simp [*]; done)), H', ⟨by have := HJ5.out; first | omega | exact Nat.le_refl _⟩, ⟨by (with_reducible repeat (first | apply Kd.R_alloc | apply Kd.R_drewN | apply Kd.R_drew)); exact Kd.R_mono HO428.out (fun _ hk => trivial)⟩, ⟨by (with_reducible repeat (first | refine blk_drewN ?_ _ | refine blk_drew ?_ | refine blk_alloc ?_ _)); exact BK419.out⟩, ⟨by repeat (first | (with_reducible first | exact HB.out | apply below_alloc | apply pw_below_drewN | apply below_drew1 | refine below_set ?_ GE419.out) | exact HB.out)⟩⟩
       ·
        rw [if_neg c34] at H
        have c34b0 : (t438 == 0) = false := beq_eq_false_iff_ne.mpr c34
        have c34b1 : (t438 != 0) = true := bne_iff_ne.mpr c34
        (first | rw [c34b0] | (simp only [i64_w, i32_w]; rw [c34b0]) | skip)
        have H' := Aside0.mk H
        clear H
        go_wp2
        go_meet
        case rel => exact ⟨_, (true), (by first | rfl | (simp; done) | (simp [*]; done)), H', ⟨by have := HJ5.out; first | omega | exact Nat.le_refl _⟩, ⟨by (with_reducible repeat (first | apply Kd.R_alloc | apply Kd.R_drewN | apply Kd.R_drew)); exact Kd.R_mono HO428.out (fun _ hk => trivial)⟩, ⟨by (with_reducible repeat (first | refine blk_drewN ?_ _ | refine blk_drew ?_ | refine blk_alloc ?_ _)); exact BK419.out⟩, ⟨by repeat (first | (with_reducible first | exact HB.out | apply below_alloc | apply pw_below_drewN | apply below_drew1 | refine below_set ?_ GE419.out) | exact HB.out)⟩⟩
      case rest =>
       clear HC22
       try clear c1
       try clear p2
       try clear c3
       try clear c5
       try clear c9
       try clear c10
       try clear c11
       try clear c12
       try clear c13
       try clear c15
       try clear c17
       try clear c18
       try clear c18b0
       try clear c18b1
       try clear c19
       try clear c34
       try clear c34b0
       try clear c34b1
       try clear hcz11_0
       try clear hcz11_1
       try clear hcz13_0
       try clear hcz13_1
       try clear hcz23_0
       try clear hcz23_1
       try clear hfz11_0
       try clear hfz11_1
       try clear hfz13_0
       try clear hfz13_1
       try clear hfz23_0
       try clear hfz23_1
       try clear p2
       obtain ⟨kq, x50_21, rfl, HA, HJ21, HO_7, BK419, HB⟩ := hcut
       cases kq with
       | zero => exact absurd HA.out (by simp [spilelaw14_RodCoarser.j1])
       | succ kj21 =>
        have H := HA.out
        clear HA
        simp only [spilelaw14_RodCoarser.j1] at H
        by_cases c35 : x50_21 = true
        ·
         subst c35
         have H1 : (some false) = some r := by rw [if_pos rfl] at H; exact H
         clear H
         have H := H1
         clear H1
         subst hr_
         exact absurd H (by simp)
        ·
         replace c35 := Bool.eq_false_iff.mpr c35
         subst c35
         have H1 : ((spileref13_Copy.f l0_0 a0_1).bind fun bt439 => ((rod_Make.f kj21 bt439.1 bt439.2 (wrap64 (a1 * (wrap64 (1 + (Int.tmod (wrap64 (a2)) 8)))))).bind fun bt443 => (if bt443.2 = 0 then (spilelaw14_RodCoarser.l0 kj21 t426 bt443.1 (bt443.1.length : Int) 0) else (some ((bt443.1.length : Int) == 0))))) = some r := by rw [if_neg (show ¬ (false = true) by decide)] at H; exact H
         clear H
         have H := H1
         clear H1
         replace H := Option.bind_eq_some_iff.mp H
         obtain ⟨⟨t439, t442⟩, A360, H⟩ := H
         replace H : ((rod_Make.f kj21 t439 t442 (wrap64 (a1 * (wrap64 (1 + (Int.tmod (wrap64 (a2)) 8)))))).bind fun bt443 => (if bt443.2 = 0 then (spilelaw14_RodCoarser.l0 kj21 t426 bt443.1 (bt443.1.length : Int) 0) else (some ((bt443.1.length : Int) == 0)))) = some r := H
         have A36 := Aside0.mk A360
         clear A360
         replace H := Option.bind_eq_some_iff.mp H
         obtain ⟨⟨t443, t446⟩, A370, H⟩ := H
         replace H : (if t446 = 0 then (spilelaw14_RodCoarser.l0 kj21 t426 t443 (t443.length : Int) 0) else (some ((t443.length : Int) == 0))) = some r := H
         have A37 := Aside0.mk A370
         clear A370
         by_cases c38 : t446 = 0
         ·
          rw [if_pos c38] at H
          have c38b0 : (t446 == 0) = true := beq_iff_eq.mpr c38
          have c38b1 : (t446 != 0) = false := bne_eq_false_iff_eq.mpr c38
          clear c38
          have H' := Aside0.mk H
          clear H
          have hcz39_0 : wc.cell? ⟨gb419, 0, none⟩ = some (.slice A0_0 l0_0.length c0_0) := (blk_cell BK419.out 0).trans rfl
          have hcz39_1 : wc.cell? ⟨gb419, 1, none⟩ = some (.int .i64 a0_1) := (blk_cell BK419.out 1).trans rfl
          have hfz39_0 := blk_frozen BK419.out 0
          have hfz39_1 := blk_frozen BK419.out 1
          go_wp2_with (first | ((with_reducible refine gate_callee (f := 13) rfl ?_); refine goesL_ (some 53) rfl rfl Tryd.func13 (by kernel_rfl) rfl #[.agg #[.slice A0_0 l0_0.length c0_0, .int .i64 a0_1]] rfl (by (try simp only [List.map_toArray, List.map_cons, List.map_nil]); first | done | rfl | (simp only [List.length_drop, List.length_take]; rfl)) ?_; (with_reducible refine (spileref13_Copy.calls _ _ l0_0 a0_1 t439 t442 _ ?side1 ?side2 A36.out).mono ?_); (case side1 => repeat (first | exact (Kd.C_below HR0_0.out HB.out) | (with_reducible refine Kd.C_alloc ?_ _) | (with_reducible refine Kd.C_drewN ?_ _) | (with_reducible refine Kd.C_drew ?_))); (case side2 => exact HC0_0.out); rintro e w40 ⟨v440, rfl, ho0, hb⟩; refine ⟨_, rfl, ?_⟩; have n0_ := Aside0.mk (Kd.R_elder' (by (with_reducible repeat (first | apply Kd.R_alloc | apply Kd.R_drewN | apply Kd.R_drew)); exact HO_7.out) (Kd.R_base ho0) hb); have n1_ := Aside0.mk (Kd.R_lower (Kd.R_new' ho0 (Kd.R_lt (by (with_reducible repeat (first | apply Kd.R_alloc | apply Kd.R_drewN | apply Kd.R_drew)); exact HO_7.out))) (below_size (by repeat (first | (with_reducible first | exact HB.out | apply below_alloc | apply pw_below_drewN | apply below_drew1 | refine below_set ?_ GE419.out) | exact HB.out)))); have n2_ := Aside0.mk (blk_below (g := gb419) (o := .cells #[.slice A0_0 l0_0.length c0_0, .int .i64 a0_1] 24 (0, 0)) (by (with_reducible repeat (first | refine blk_drewN ?_ _ | refine blk_drew ?_ | refine blk_alloc ?_ _)); exact BK419.out) hb); have n3_ := Aside0.mk (below_step (by repeat (first | (with_reducible first | exact HB.out | apply below_alloc | apply pw_below_drewN | apply below_drew1 | refine below_set ?_ GE419.out) | exact HB.out)) hb); clear HO_7; clear BK419; clear HB; have HO_7 := n0_; have HO441 := n1_; have BK419 := n2_; have HB := n3_; clear n0_ n1_ n2_ n3_; (try clear hb); (try clear hb2); (try clear hk); (try clear hi); (try clear ho0); obtain ⟨Ao41, co41, eo41⟩ := Kd.R_slice HO441.out; subst eo41) | ((with_reducible refine gate_callee (f := 12) rfl ?_); refine goesL_ (some 60) rfl rfl Tryd.func12 (by kernel_rfl) rfl #[.agg #[.slice Ao41 t439.length co41, .int .i64 t442], .int .i64 (wrap64 (a1 * (wrap64 (1 + (Int.tmod (wrap64 (a2)) 8)))))] rfl (by (try simp only [List.map_toArray, List.map_cons, List.map_nil]); first | done | rfl | (simp only [List.length_drop, List.length_take]; rfl)) ?_; (with_reducible refine (rod_Make.calls kj21 _ _ t439 t442 (wrap64 (a1 * (wrap64 (1 + (Int.tmod (wrap64 (a2)) 8))))) t443 t446 _ ?side1 ?side2 A37.out).mono ?_); (case side1 => repeat (first | exact (Kd.R_reads' HO441.out).2.2 | (with_reducible refine Kd.C_alloc ?_ _) | (with_reducible refine Kd.C_drewN ?_ _) | (with_reducible refine Kd.C_drew ?_))); (case side2 => exact (Kd.R_reads' HO441.out).2.1); rintro e w42 ⟨v444, rfl, ho0, hb⟩; refine ⟨_, rfl, ?_⟩; have n0_ := Aside0.mk (Kd.R_elder' (by (with_reducible repeat (first | apply Kd.R_alloc | apply Kd.R_drewN | apply Kd.R_drew)); exact HO_7.out) (Kd.R_base ho0) hb); have n1_ := Aside0.mk (Kd.R_elder' (by (with_reducible repeat (first | apply Kd.R_alloc | apply Kd.R_drewN | apply Kd.R_drew)); exact HO441.out) (Kd.R_base ho0) hb); have n2_ := Aside0.mk (Kd.R_lower (Kd.R_new' (Kd.R_new' ho0 (Kd.R_lt (by (with_reducible repeat (first | apply Kd.R_alloc | apply Kd.R_drewN | apply Kd.R_drew)); exact HO_7.out))) (Kd.R_lt (by (with_reducible repeat (first | apply Kd.R_alloc | apply Kd.R_drewN | apply Kd.R_drew)); exact HO441.out))) (below_size (by repeat (first | (with_reducible first | exact HB.out | apply below_alloc | apply pw_below_drewN | apply below_drew1 | refine below_set ?_ GE419.out) | exact HB.out)))); have n3_ := Aside0.mk (blk_below (g := gb419) (o := .cells #[.slice A0_0 l0_0.length c0_0, .int .i64 a0_1] 24 (0, 0)) (by (with_reducible repeat (first | refine blk_drewN ?_ _ | refine blk_drew ?_ | refine blk_alloc ?_ _)); exact BK419.out) hb); have n4_ := Aside0.mk (below_step (by repeat (first | (with_reducible first | exact HB.out | apply below_alloc | apply pw_below_drewN | apply below_drew1 | refine below_set ?_ GE419.out) | exact HB.out)) hb); clear HO_7; clear HO441; clear BK419; clear HB; have HO_7 := n0_; have HO441 := n1_; have HO445 := n2_; have BK419 := n3_; have HB := n4_; clear n0_ n1_ n2_ n3_ n4_; (try clear hb); (try clear hb2); (try clear hk); (try clear hi); (try clear ho0); obtain ⟨Ao43, co43, eo43⟩ := Kd.R_slice HO445.out; subst eo43))
          go_loopg [70] kj21 (fun kq v70 w' => ∃ (x70_3 : Int), v70 = .int .i64 x70_3 ∧ Aside0 (spilelaw14_RodCoarser.l0 kq t426 t443 (t443.length : Int) x70_3 = some r) ∧ Aside0 (kq ≤ kj21) ∧ Aside0 (Kd.R k39 39 w' w.heap.size (fun k_ => some k_ ≠ ((.slice Ao43 t443.length co43) : Value).ownBlock) (.slice Ao28 t426.length co28) t426) ∧ Aside0 (Kd.R k39 39 w' w.heap.size (fun k_ => some k_ ≠ ((.slice Ao28 t426.length co28) : Value).ownBlock) (.slice Ao43 t443.length co43) t443) ∧ Aside0 (w'.heap[gb419]? = some (.cells #[(.slice A0_0 l0_0.length c0_0), .int .i64 a0_1] 24 (0, 0))) ∧ Aside0 (Below w.heap.size w w'))
          case atStart => exact ⟨(0), (by first | rfl | (simp; done) | (simp [*]; done)), H', ⟨Nat.le_refl _⟩, ⟨by (with_reducible repeat (first | apply Kd.R_alloc | apply Kd.R_drewN | apply Kd.R_drew)); exact Kd.R_mono HO_7.out (fun _ hk => hk.2)⟩, ⟨by (with_reducible repeat (first | apply Kd.R_alloc | apply Kd.R_drewN | apply Kd.R_drew)); exact Kd.R_mono HO445.out (fun _ hk => hk.1.2)⟩, ⟨by (with_reducible repeat (first | refine blk_drewN ?_ _ | refine blk_drew ?_ | refine blk_alloc ?_ _)); exact BK419.out⟩, ⟨by repeat (first | (with_reducible first | exact HB.out | apply below_alloc | apply pw_below_drewN | apply below_drew1 | refine below_set ?_ GE419.out) | exact HB.out)⟩⟩
          case round =>
           clear H'
           try clear c1
           try clear p2
           try clear c3
           try clear c5
           try clear p6
           try clear c9
           try clear c10
           try clear c11
           try clear c12
           try clear c13
           try clear c15
           try clear c17
           try clear c18
           try clear c18b0
           try clear c18b1
           try clear c19
           try clear c34
           try clear c34b0
           try clear c34b1
           try clear c35
           try clear c38
           try clear c38b0
           try clear c38b1
           try clear hcz11_0
           try clear hcz11_1
           try clear hcz13_0
           try clear hcz13_1
           try clear hcz23_0
           try clear hcz23_1
           try clear hcz39_0
           try clear hcz39_1
           try clear hfz11_0
           try clear hfz11_1
           try clear hfz13_0
           try clear hfz13_1
           try clear hfz23_0
           try clear hfz23_1
           try clear hfz39_0
           try clear hfz39_1
           try clear p2
           obtain ⟨x70_3, rfl, HA, HK3, HO_7, HO_68, BK419, HB⟩ := hrel
           cases gk with
           | zero => exact absurd HA.out (by simp [spilelaw14_RodCoarser.l0])
           | succ k3 =>
            have H := HA.out
            clear HA
            simp only [spilelaw14_RodCoarser.l0] at H
            by_cases c44 : x70_3 < (t443.length : Int)
            ·
             rw [if_pos c44] at H
             have c44b0 : decide (x70_3 < (t443.length : Int)) = true := decide_eq_true c44
             clear c44
             by_cases c45 : 0 ≤ x70_3
             ·
              rw [if_pos c45] at H
              have c45b0 : decide (0 ≤ x70_3) = true := decide_eq_true c45
              clear c45
              by_cases c46 : x70_3 < (t443.length : Int)
              ·
               rw [if_pos c46] at H
               have c46b0 : decide (x70_3 < (t443.length : Int)) = true := decide_eq_true c46
               clear c46
               replace H := Option.bind_eq_some_iff.mp H
               obtain ⟨t449, A470, H⟩ := H
               replace H : (if t449 = true then (spilelaw14_RodCoarser.l0 k3 t426 t443 (t443.length : Int) (wrap64 (x70_3 + 1))) else (some false)) = some r := H
               have A47 := Aside0.mk A470
               clear A470
               by_cases c48 : t449 = true
               ·
                subst c48
                have H1 : (spilelaw14_RodCoarser.l0 k3 t426 t443 (t443.length : Int) (wrap64 (x70_3 + 1))) = some r := by rw [if_pos rfl] at H; exact H
                clear H
                have H := H1
                clear H1
                have H' := Aside0.mk H
                clear H
                have p447 : 0 ≤ (x70_3 : Int) := of_decide_eq_true (by first | (with_reducible assumption) | assumption)
                have q447 : x70_3 < (t443.length : Int) := of_decide_eq_true (by first | (with_reducible assumption) | assumption)
                obtain ⟨ad447, e447, hx447_0, hx447_1⟩ := at_T39 (Kd.R_reads' HO_68.out).2.2 x70_3 p447 q447
                cases e447
                replace p447 := eq_true p447
                replace q447 := eq_true q447
                go_wp2_with (first | ((with_reducible refine gate_dst (N := 14) rfl ?_); refine box_event ?hg (N := 14) ?hd (cs := #[.int .i64 0, .int .i64 0]) (t := 39) ?hr ?_; (case hd => rfl); (case hg => rfl); (case hr => first | (go_simp; done) | (go_simp; rfl)); intro gb448 hg w49 hbox hb; have n0_ := Aside0.mk (Kd.R_below (Kd.R_elderB (by (with_reducible repeat (first | apply Kd.R_alloc | apply Kd.R_drewN | apply Kd.R_drew)); exact HO_7.out) gb448 (Nat.le_of_eq hg.symm)) hb); have n1_ := Aside0.mk (Kd.R_below (Kd.R_elderB (by (with_reducible repeat (first | apply Kd.R_alloc | apply Kd.R_drewN | apply Kd.R_drew)); exact HO_68.out) gb448 (Nat.le_of_eq hg.symm)) hb); have n2_ := Aside0.mk (blk_below (g := gb419) (o := .cells #[.slice A0_0 l0_0.length c0_0, .int .i64 a0_1] 24 (0, 0)) (by (with_reducible repeat (first | refine blk_drewN ?_ _ | refine blk_drew ?_ | refine blk_alloc ?_ _)); exact BK419.out) hb); have n3_ := Aside0.mk (below_step (by repeat (first | (with_reducible first | exact HB.out | apply below_alloc | apply pw_below_drewN | apply below_drew1 | refine below_set ?_ GE419.out) | exact HB.out)) hb); have n4_ := Aside0.mk (hbox); have n5_ := Aside0.mk ((by rw [hg]; exact (below_size (by repeat (first | (with_reducible first | exact HB.out | apply below_alloc | apply pw_below_drewN | apply below_drew1 | refine below_set ?_ GE419.out) | exact HB.out))) : w.heap.size ≤ gb448)); have n6_ := Aside0.mk ((by rw [hg]; exact (below_size (by repeat (first | (with_reducible first | exact HB.out | apply below_alloc | apply pw_below_drewN | apply below_drew1 | refine below_set ?_ GE419.out) | exact HB.out))) : w.heap.size ≤ gb448)); have n7_ := Aside0.mk ((by rw [hg]; exact Nat.ne_of_lt (blk_lt (g := gb419) (o := .cells #[.slice A0_0 l0_0.length c0_0, .int .i64 a0_1] 24 (0, 0)) (by (with_reducible repeat (first | refine blk_drewN ?_ _ | refine blk_drew ?_ | refine blk_alloc ?_ _)); exact BK419.out)) : gb419 ≠ gb448)); have n8_ := Aside0.mk ((by rw [hg]; exact Nat.ne_of_gt (blk_lt (g := gb419) (o := .cells #[.slice A0_0 l0_0.length c0_0, .int .i64 a0_1] 24 (0, 0)) (by (with_reducible repeat (first | refine blk_drewN ?_ _ | refine blk_drew ?_ | refine blk_alloc ?_ _)); exact BK419.out)) : gb448 ≠ gb419)); clear HO_7; clear HO_68; clear BK419; clear HB; have HO_7 := n0_; have HO_68 := n1_; have BK419 := n2_; have HB := n3_; have BK448 := n4_; have GW448 := n5_; have GE448 := n6_; have NB419_448 := n7_; have NB448_419 := n8_; clear n0_ n1_ n2_ n3_ n4_ n5_ n6_ n7_ n8_; clear hb hbox hg; have hnb50 := NB448_419.out; have hnc50 := NB419_448.out; have hcz51_0 : w49.cell? ⟨gb448, 0, none⟩ = some (.int .i64 0) := (blk_cell BK448.out 0).trans rfl; have hcz51_1 : w49.cell? ⟨gb448, 1, none⟩ = some (.int .i64 0) := (blk_cell BK448.out 1).trans rfl; have hfz51_0 := blk_frozen BK448.out 0; have hfz51_1 := blk_frozen BK448.out 1) | ((with_reducible refine gate_callee (f := 28) rfl ?_); refine goesL_ (some 76) rfl rfl Tryd.func28 (by kernel_rfl) rfl #[.slice Ao28 t426.length co28, .func (.func 29) #[] #[.pointer (some ⟨gb448, 0, none⟩)]] rfl (by (try simp only [List.map_toArray, List.map_cons, List.map_nil]); first | done | rfl | (simp only [List.length_drop, List.length_take]; rfl)) ?_; (with_reducible refine (api_Mark_28_at_29.calls k3 _ _ t426  gb448 ((rd_T39 t443 x70_3).f0) ((rd_T39 t443 x70_3).f1) true _ ?side1 ?side2 ?side3 A47.out).mono ?_); (case side1 => refine (Kd.R_reads' (e := 39) (base := w.heap.size) (ok := fun k_ => (some k_ ≠ (.slice (some ad447) t443.length co43 : Value).ownBlock ∧ k_ ≠ gb448)) (n := t426.length) (c := co28) ?_).2.2; exact (by (with_reducible repeat (first | apply Kd.R_alloc | apply Kd.R_drewN | apply Kd.R_drew)); exact (Kd.R_mono (Kd.R_far (p := ⟨gb448, 1, none⟩) (Kd.R_far (p := ⟨gb448, 0, none⟩) (Kd.R_mono HO_7.out (fun k_ hk => (⟨hk, hk.2⟩ : _ ∧ k_ ≠ gb448))) (fun _ hk => hk.2) (.int .i64 ((rd_T39 t443 x70_3).f0))) (fun _ hk => hk.2) (.int .i64 ((rd_T39 t443 x70_3).f1))) (fun _ h_ => h_.1)))); (case side2 => exact (Kd.R_reads' HO_7.out).2.1); (case side3 => (with_reducible repeat (first | refine blk_drewN ?_ _ | refine blk_drew ?_ | refine blk_alloc ?_ _)); refine blk_put (cs := #[.int .i64 ((rd_T39 t443 x70_3).f0), .int .i64 0]) ?_ 1 _ rfl; (with_reducible repeat (first | refine blk_drewN ?_ _ | refine blk_drew ?_ | refine blk_alloc ?_ _)); refine blk_put (cs := #[.int .i64 0, .int .i64 0]) ?_ 0 _ rfl; (with_reducible repeat (first | refine blk_drewN ?_ _ | refine blk_drew ?_ | refine blk_alloc ?_ _)); exact BK448.out); rintro e w52 ⟨rfl, hb⟩; refine ⟨_, rfl, ?_⟩; have n0_ := Aside0.mk (Kd.R_below (by (with_reducible repeat (first | apply Kd.R_alloc | apply Kd.R_drewN | apply Kd.R_drew)); exact (Kd.R_mono (Kd.R_far (p := ⟨gb448, 1, none⟩) (Kd.R_far (p := ⟨gb448, 0, none⟩) (Kd.R_mono HO_7.out (fun k_ hk => (⟨hk, hk.2⟩ : _ ∧ k_ ≠ gb448))) (fun _ hk => hk.2) (.int .i64 ((rd_T39 t443 x70_3).f0))) (fun _ hk => hk.2) (.int .i64 ((rd_T39 t443 x70_3).f1))) (fun _ h_ => h_.1))) hb); have n1_ := Aside0.mk (Kd.R_below (by (with_reducible repeat (first | apply Kd.R_alloc | apply Kd.R_drewN | apply Kd.R_drew)); exact (Kd.R_mono (Kd.R_far (p := ⟨gb448, 1, none⟩) (Kd.R_far (p := ⟨gb448, 0, none⟩) (Kd.R_mono HO_68.out (fun k_ hk => (⟨hk, hk.2⟩ : _ ∧ k_ ≠ gb448))) (fun _ hk => hk.2) (.int .i64 ((rd_T39 t443 x70_3).f0))) (fun _ hk => hk.2) (.int .i64 ((rd_T39 t443 x70_3).f1))) (fun _ h_ => h_.1))) hb); have n2_ := Aside0.mk (blk_below (g := gb419) (o := .cells #[.slice A0_0 l0_0.length c0_0, .int .i64 a0_1] 24 (0, 0)) (by (with_reducible repeat (first | refine blk_drewN ?_ _ | refine blk_drew ?_ | refine blk_alloc ?_ _)); refine blk_far ?_ NB419_448.out _; (with_reducible repeat (first | refine blk_drewN ?_ _ | refine blk_drew ?_ | refine blk_alloc ?_ _)); refine blk_far ?_ NB419_448.out _; (with_reducible repeat (first | refine blk_drewN ?_ _ | refine blk_drew ?_ | refine blk_alloc ?_ _)); exact BK419.out) hb); have n3_ := Aside0.mk (blk_below (g := gb448) (o := .cells #[.int .i64 ((rd_T39 t443 x70_3).f0), .int .i64 ((rd_T39 t443 x70_3).f1)] 39 (0, 0)) (by (with_reducible repeat (first | refine blk_drewN ?_ _ | refine blk_drew ?_ | refine blk_alloc ?_ _)); refine blk_put (cs := #[.int .i64 ((rd_T39 t443 x70_3).f0), .int .i64 0]) ?_ 1 _ rfl; (with_reducible repeat (first | refine blk_drewN ?_ _ | refine blk_drew ?_ | refine blk_alloc ?_ _)); refine blk_put (cs := #[.int .i64 0, .int .i64 0]) ?_ 0 _ rfl; (with_reducible repeat (first | refine blk_drewN ?_ _ | refine blk_drew ?_ | refine blk_alloc ?_ _)); exact BK448.out) hb); have n4_ := Aside0.mk (below_step (by repeat (first | (with_reducible first | exact HB.out | apply below_alloc | apply pw_below_drewN | apply below_drew1 | refine below_set ?_ GE419.out | refine below_set ?_ GE448.out) | exact HB.out)) hb); clear HO_7; clear HO_68; clear BK419; clear BK448; clear HB; have HO_7 := n0_; have HO_68 := n1_; have BK419 := n2_; have BK448 := n3_; have HB := n4_; clear n0_ n1_ n2_ n3_ n4_; (try clear hb); (try clear hb2); (try clear hk); (try clear hi)))
                go_roundg k3
                case measure => have := HJ5.out; have := HJ21.out; have := HK3.out; omega
                case rel => exact ⟨(wrap64 (x70_3 + 1)), (by first | rfl | (simp; done) | (simp [*]; done)), H', ⟨by have := HJ5.out; have := HJ21.out; have := HK3.out; omega⟩, ⟨by (with_reducible repeat (first | apply Kd.R_alloc | apply Kd.R_drewN | apply Kd.R_drew)); exact Kd.R_mono HO_7.out (fun _ hk => hk.1)⟩, ⟨by (with_reducible repeat (first | apply Kd.R_alloc | apply Kd.R_drewN | apply Kd.R_drew)); exact Kd.R_mono HO_68.out (fun _ hk => hk.1)⟩, ⟨by (with_reducible repeat (first | refine blk_drewN ?_ _ | refine blk_drew ?_ | refine blk_alloc ?_ _)); exact BK419.out⟩, ⟨by repeat (first | (with_reducible first | exact HB.out | apply below_alloc | apply pw_below_drewN | apply below_drew1 | refine below_set ?_ GE419.out | refine below_set ?_ GE448.out) | exact HB.out)⟩⟩
               ·
                replace c48 := Bool.eq_false_iff.mpr c48
                subst c48
                have H1 : (some false) = some r := by rw [if_neg (show ¬ (false = true) by decide)] at H; exact H
                clear H
                have H := H1
                clear H1
                subst hr_
                exact absurd H (by simp)
              ·
               rw [if_neg c46] at H
               exact absurd H (by simp)
             ·
              rw [if_neg c45] at H
              exact absurd H (by simp)
            ·
             rw [if_neg c44] at H
             have c44b0 : decide (x70_3 < (t443.length : Int)) = false := decide_eq_false c44
             clear c44
             obtain rfl := Option.some.inj H
             go_wp2
             go_ret
             exact ⟨by first | rfl | (simp [errW_none, errW_some] <;> rfl) | (simp [*, errW_none, errW_some] <;> rfl), by repeat (first | (with_reducible first | exact HB.out | apply below_alloc | apply pw_below_drewN | apply below_drew1 | refine below_set ?_ GE419.out) | exact HB.out)⟩
         ·
          rw [if_neg c38] at H
          have c38b0 : (t446 == 0) = false := beq_eq_false_iff_ne.mpr c38
          have c38b1 : (t446 != 0) = true := bne_iff_ne.mpr c38
          obtain rfl := Option.some.inj H
          have hcz53_0 : wc.cell? ⟨gb419, 0, none⟩ = some (.slice A0_0 l0_0.length c0_0) := (blk_cell BK419.out 0).trans rfl
          have hcz53_1 : wc.cell? ⟨gb419, 1, none⟩ = some (.int .i64 a0_1) := (blk_cell BK419.out 1).trans rfl
          have hfz53_0 := blk_frozen BK419.out 0
          have hfz53_1 := blk_frozen BK419.out 1
          go_wp2_with (first | ((with_reducible refine gate_callee (f := 13) rfl ?_); refine goesL_ (some 53) rfl rfl Tryd.func13 (by kernel_rfl) rfl #[.agg #[.slice A0_0 l0_0.length c0_0, .int .i64 a0_1]] rfl (by (try simp only [List.map_toArray, List.map_cons, List.map_nil]); first | done | rfl | (simp only [List.length_drop, List.length_take]; rfl)) ?_; (with_reducible refine (spileref13_Copy.calls _ _ l0_0 a0_1 t439 t442 _ ?side1 ?side2 A36.out).mono ?_); (case side1 => repeat (first | exact (Kd.C_below HR0_0.out HB.out) | (with_reducible refine Kd.C_alloc ?_ _) | (with_reducible refine Kd.C_drewN ?_ _) | (with_reducible refine Kd.C_drew ?_))); (case side2 => exact HC0_0.out); rintro e w54 ⟨v440, rfl, ho0, hb⟩; refine ⟨_, rfl, ?_⟩; have n0_ := Aside0.mk (Kd.R_elder' (by (with_reducible repeat (first | apply Kd.R_alloc | apply Kd.R_drewN | apply Kd.R_drew)); exact HO_7.out) (Kd.R_base ho0) hb); have n1_ := Aside0.mk (Kd.R_lower (Kd.R_new' ho0 (Kd.R_lt (by (with_reducible repeat (first | apply Kd.R_alloc | apply Kd.R_drewN | apply Kd.R_drew)); exact HO_7.out))) (below_size (by repeat (first | (with_reducible first | exact HB.out | apply below_alloc | apply pw_below_drewN | apply below_drew1 | refine below_set ?_ GE419.out) | exact HB.out)))); have n2_ := Aside0.mk (blk_below (g := gb419) (o := .cells #[.slice A0_0 l0_0.length c0_0, .int .i64 a0_1] 24 (0, 0)) (by (with_reducible repeat (first | refine blk_drewN ?_ _ | refine blk_drew ?_ | refine blk_alloc ?_ _)); exact BK419.out) hb); have n3_ := Aside0.mk (below_step (by repeat (first | (with_reducible first | exact HB.out | apply below_alloc | apply pw_below_drewN | apply below_drew1 | refine below_set ?_ GE419.out) | exact HB.out)) hb); clear HO_7; clear BK419; clear HB; have HO_7 := n0_; have HO441 := n1_; have BK419 := n2_; have HB := n3_; clear n0_ n1_ n2_ n3_; (try clear hb); (try clear hb2); (try clear hk); (try clear hi); (try clear ho0); obtain ⟨Ao55, co55, eo55⟩ := Kd.R_slice HO441.out; subst eo55) | ((with_reducible refine gate_callee (f := 12) rfl ?_); refine goesL_ (some 60) rfl rfl Tryd.func12 (by kernel_rfl) rfl #[.agg #[.slice Ao55 t439.length co55, .int .i64 t442], .int .i64 (wrap64 (a1 * (wrap64 (1 + (Int.tmod (wrap64 (a2)) 8)))))] rfl (by (try simp only [List.map_toArray, List.map_cons, List.map_nil]); first | done | rfl | (simp only [List.length_drop, List.length_take]; rfl)) ?_; (with_reducible refine (rod_Make.calls kj21 _ _ t439 t442 (wrap64 (a1 * (wrap64 (1 + (Int.tmod (wrap64 (a2)) 8))))) t443 t446 _ ?side1 ?side2 A37.out).mono ?_); (case side1 => repeat (first | exact (Kd.R_reads' HO441.out).2.2 | (with_reducible refine Kd.C_alloc ?_ _) | (with_reducible refine Kd.C_drewN ?_ _) | (with_reducible refine Kd.C_drew ?_))); (case side2 => exact (Kd.R_reads' HO441.out).2.1); rintro e w56 ⟨v444, rfl, ho0, hb⟩; refine ⟨_, rfl, ?_⟩; have n0_ := Aside0.mk (Kd.R_elder' (by (with_reducible repeat (first | apply Kd.R_alloc | apply Kd.R_drewN | apply Kd.R_drew)); exact HO_7.out) (Kd.R_base ho0) hb); have n1_ := Aside0.mk (Kd.R_elder' (by (with_reducible repeat (first | apply Kd.R_alloc | apply Kd.R_drewN | apply Kd.R_drew)); exact HO441.out) (Kd.R_base ho0) hb); have n2_ := Aside0.mk (Kd.R_lower (Kd.R_new' (Kd.R_new' ho0 (Kd.R_lt (by (with_reducible repeat (first | apply Kd.R_alloc | apply Kd.R_drewN | apply Kd.R_drew)); exact HO_7.out))) (Kd.R_lt (by (with_reducible repeat (first | apply Kd.R_alloc | apply Kd.R_drewN | apply Kd.R_drew)); exact HO441.out))) (below_size (by repeat (first | (with_reducible first | exact HB.out | apply below_alloc | apply pw_below_drewN | apply below_drew1 | refine below_set ?_ GE419.out) | exact HB.out)))); have n3_ := Aside0.mk (blk_below (g := gb419) (o := .cells #[.slice A0_0 l0_0.length c0_0, .int .i64 a0_1] 24 (0, 0)) (by (with_reducible repeat (first | refine blk_drewN ?_ _ | refine blk_drew ?_ | refine blk_alloc ?_ _)); exact BK419.out) hb); have n4_ := Aside0.mk (below_step (by repeat (first | (with_reducible first | exact HB.out | apply below_alloc | apply pw_below_drewN | apply below_drew1 | refine below_set ?_ GE419.out) | exact HB.out)) hb); clear HO_7; clear HO441; clear BK419; clear HB; have HO_7 := n0_; have HO441 := n1_; have HO445 := n2_; have BK419 := n3_; have HB := n4_; clear n0_ n1_ n2_ n3_ n4_; (try clear hb); (try clear hb2); (try clear hk); (try clear hi); (try clear ho0); obtain ⟨Ao57, co57, eo57⟩ := Kd.R_slice HO445.out; subst eo57))
          go_ret
          exact ⟨by first | rfl | (simp [errW_none, errW_some] <;> rfl) | (simp [*, errW_none, errW_some] <;> rfl), by repeat (first | (with_reducible first | exact HB.out | apply below_alloc | apply pw_below_drewN | apply below_drew1 | refine below_set ?_ GE419.out) | exact HB.out)⟩
     ·
      rw [if_neg c18] at H
      have c18b0 : (t429 == 0) = false := beq_eq_false_iff_ne.mpr c18
      have c18b1 : (t429 != 0) = true := bne_iff_ne.mpr c18
      obtain rfl := Option.some.inj H
      have hcz58_0 : wc.cell? ⟨gb419, 0, none⟩ = some (.slice A0_0 l0_0.length c0_0) := (blk_cell BK419.out 0).trans rfl
      have hcz58_1 : wc.cell? ⟨gb419, 1, none⟩ = some (.int .i64 a0_1) := (blk_cell BK419.out 1).trans rfl
      have hfz58_0 := blk_frozen BK419.out 0
      have hfz58_1 := blk_frozen BK419.out 1
      go_wp2_with (first | ((with_reducible refine gate_callee (f := 13) rfl ?_); refine goesL_ (some 26) rfl rfl Tryd.func13 (by kernel_rfl) rfl #[.agg #[.slice A0_0 l0_0.length c0_0, .int .i64 a0_1]] rfl (by (try simp only [List.map_toArray, List.map_cons, List.map_nil]); first | done | rfl | (simp only [List.length_drop, List.length_take]; rfl)) ?_; (with_reducible refine (spileref13_Copy.calls _ _ l0_0 a0_1 t422 t425 _ ?side1 ?side2 A16.out).mono ?_); (case side1 => repeat (first | exact (Kd.C_below HR0_0.out HB.out) | (with_reducible refine Kd.C_alloc ?_ _) | (with_reducible refine Kd.C_drewN ?_ _) | (with_reducible refine Kd.C_drew ?_))); (case side2 => exact HC0_0.out); rintro e w59 ⟨v423, rfl, ho0, hb⟩; refine ⟨_, rfl, ?_⟩; have n0_ := Aside0.mk (Kd.R_lower ho0 (below_size (by repeat (first | (with_reducible first | exact HB.out | apply below_alloc | apply pw_below_drewN | apply below_drew1 | refine below_set ?_ GE419.out) | exact HB.out)))); have n1_ := Aside0.mk (blk_below (g := gb419) (o := .cells #[.slice A0_0 l0_0.length c0_0, .int .i64 a0_1] 24 (0, 0)) (by (with_reducible repeat (first | refine blk_drewN ?_ _ | refine blk_drew ?_ | refine blk_alloc ?_ _)); exact BK419.out) hb); have n2_ := Aside0.mk (below_step (by repeat (first | (with_reducible first | exact HB.out | apply below_alloc | apply pw_below_drewN | apply below_drew1 | refine below_set ?_ GE419.out) | exact HB.out)) hb); clear BK419; clear HB; have HO424 := n0_; have BK419 := n1_; have HB := n2_; clear n0_ n1_ n2_; (try clear hb); (try clear hb2); (try clear hk); (try clear hi); (try clear ho0); obtain ⟨Ao60, co60, eo60⟩ := Kd.R_slice HO424.out; subst eo60) | ((with_reducible refine gate_callee (f := 12) rfl ?_); refine goesL_ (some 28) rfl rfl Tryd.func12 (by kernel_rfl) rfl #[.agg #[.slice Ao60 t422.length co60, .int .i64 t425], .int .i64 a1] rfl (by (try simp only [List.map_toArray, List.map_cons, List.map_nil]); first | done | rfl | (simp only [List.length_drop, List.length_take]; rfl)) ?_; (with_reducible refine (rod_Make.calls kj5 _ _ t422 t425 a1 t426 t429 _ ?side1 ?side2 A17.out).mono ?_); (case side1 => repeat (first | exact (Kd.R_reads' HO424.out).2.2 | (with_reducible refine Kd.C_alloc ?_ _) | (with_reducible refine Kd.C_drewN ?_ _) | (with_reducible refine Kd.C_drew ?_))); (case side2 => exact (Kd.R_reads' HO424.out).2.1); rintro e w61 ⟨v427, rfl, ho0, hb⟩; refine ⟨_, rfl, ?_⟩; have n0_ := Aside0.mk (Kd.R_elder' (by (with_reducible repeat (first | apply Kd.R_alloc | apply Kd.R_drewN | apply Kd.R_drew)); exact HO424.out) (Kd.R_base ho0) hb); have n1_ := Aside0.mk (Kd.R_lower (Kd.R_new' ho0 (Kd.R_lt (by (with_reducible repeat (first | apply Kd.R_alloc | apply Kd.R_drewN | apply Kd.R_drew)); exact HO424.out))) (below_size (by repeat (first | (with_reducible first | exact HB.out | apply below_alloc | apply pw_below_drewN | apply below_drew1 | refine below_set ?_ GE419.out) | exact HB.out)))); have n2_ := Aside0.mk (blk_below (g := gb419) (o := .cells #[.slice A0_0 l0_0.length c0_0, .int .i64 a0_1] 24 (0, 0)) (by (with_reducible repeat (first | refine blk_drewN ?_ _ | refine blk_drew ?_ | refine blk_alloc ?_ _)); exact BK419.out) hb); have n3_ := Aside0.mk (below_step (by repeat (first | (with_reducible first | exact HB.out | apply below_alloc | apply pw_below_drewN | apply below_drew1 | refine below_set ?_ GE419.out) | exact HB.out)) hb); clear HO424; clear BK419; clear HB; have HO424 := n0_; have HO428 := n1_; have BK419 := n2_; have HB := n3_; clear n0_ n1_ n2_ n3_; (try clear hb); (try clear hb2); (try clear hk); (try clear hi); (try clear ho0); obtain ⟨Ao62, co62, eo62⟩ := Kd.R_slice HO428.out; subst eo62))
      go_ret
      exact ⟨by first | rfl | (simp [errW_none, errW_some] <;> rfl) | (simp [*, errW_none, errW_some] <;> rfl), by repeat (first | (with_reducible first | exact HB.out | apply below_alloc | apply pw_below_drewN | apply below_drew1 | refine below_set ?_ GE419.out) | exact HB.out)⟩
 ·
  replace c5 := Bool.eq_false_iff.mpr c5
  subst c5
  have H1 : (some false) = some r := by rw [if_neg (show ¬ (false = true) by decide)] at H; exact H
  clear H
  have H := H1
  clear H1
  subst hr_
  exact absurd H (by simp)
end Go.Proofs.YtkolhpacpbhceaaDoor.Pr
namespace Go.Proofs.YtkolhpacpbhceaaDoor.Pr
open Go.RowKit Go.Proofs.YtkolhpacpbhceaaDoorW.PrintWords Go.Proofs.YtkolhpacpbhceaaDoorW.PrintLast Go.Proofs.YtkolhpacpbhceaaDoorW.PrintMore Go.Proofs.YtkolhpacpbhceaaDoor.X
attribute [local go_sem] max2_int min2_int max_two min_two max_three min_three max_four min_four   -- for this text's walks alone
set_option linter.unusedVariables false
set_option linter.unusedSimpArgs false
mutual
def spileref14_Check.l0 : Nat → List (S39) → Int → Option (Int)
 | 0, _, _ => none
 | k + 1, x0, x3 => if x3 < (x0.length : Int) then (if 0 ≤ x3 then (if ((rd_T39 x0 x3).f0) < 0 then (some 2) else (if ((rd_T39 x0 x3).f0) > 200000 then (some 2) else (if ((rd_T39 x0 x3).f1) < 1 then (some 2) else (if ((rd_T39 x0 x3).f1) > 4294967296 then (some 2) else (spileref14_Check.l0 k x0 (wrap64 (x3 + 1))))))) else (none)) else (spileref14_Check.l1 k x0 1)
def spileref14_Check.l1 : Nat → List (S39) → Int → Option (Int)
 | 0, _, _ => none
 | k + 1, x0, x4 => if x4 < (x0.length : Int) then (if 0 ≤ (wrap64 (x4 - 1)) then (if (wrap64 (x4 - 1)) < (x0.length : Int) then (if 0 ≤ x4 then (if ((rd_T39 x0 (wrap64 (x4 - 1))).f0) ≥ ((rd_T39 x0 x4).f0) then (some 5) else (if ((rd_T39 x0 (wrap64 (x4 - 1))).f1) ≥ ((rd_T39 x0 x4).f1) then (some 5) else (spileref14_Check.l1 k x0 (wrap64 (x4 + 1))))) else (none)) else (none)) else (none)) else (some 0)
end
def spileref14_Check.f (k : Nat) (l0 : List (S39)) : Option (Int) := if (l0.length : Int) = 0 then (some 9) else (if (l0.length : Int) > 128 then (some 8) else (spileref14_Check.l0 k l0 0))
end Go.Proofs.YtkolhpacpbhceaaDoor.Pr
namespace Go.Proofs.YtkolhpacpbhceaaDoor.Pr
open Go.RowKit Go.Proofs.YtkolhpacpbhceaaDoorW.PrintWords Go.Proofs.YtkolhpacpbhceaaDoorW.PrintLast Go.Proofs.YtkolhpacpbhceaaDoorW.PrintMore Go.Proofs.YtkolhpacpbhceaaDoor.X
attribute [local go_sem] max2_int min2_int max_two min_two max_three min_three max_four min_four   -- for this text's walks alone
set_option linter.unusedVariables false
set_option linter.unusedSimpArgs false
def spileref13_Read.f (k : Nat) (l0_0 : List (S39)) (a0_1 : Int) (a1 : Int) : Option (Int × Int) := (spileref13_Check.f k l0_0 a0_1).bind fun t256 => (if t256 = 0 then (if 0 < (l0_0.length : Int) then (if a1 < ((rd_T39 l0_0 0).f0) then (some (0, 2)) else (if 0 ≤ (wrap64 ((l0_0.length : Int) - 1)) then (if (wrap64 ((l0_0.length : Int) - 1)) < (l0_0.length : Int) then (if a1 > ((rd_T39 l0_0 (wrap64 ((l0_0.length : Int) - 1))).f0) then (some (0, 2)) else ((spileref13_At.f k l0_0 a0_1 a1).bind fun t259 => (some (t259, 0)))) else (none)) else (none))) else (none)) else (some (0, 1)))
end Go.Proofs.YtkolhpacpbhceaaDoor.Pr
namespace Go.Proofs.YtkolhpacpbhceaaDoor.Pr
open Go.RowKit Go.Proofs.YtkolhpacpbhceaaDoorW.PrintWords Go.Proofs.YtkolhpacpbhceaaDoorW.PrintLast Go.Proofs.YtkolhpacpbhceaaDoorW.PrintMore Go.Proofs.YtkolhpacpbhceaaDoor.X
attribute [local go_sem] max2_int min2_int max_two min_two max_three min_three max_four min_four   -- for this text's walks alone
set_option linter.unusedVariables false
set_option linter.unusedSimpArgs false
mutual
def spileref14_Compare.j0 : Nat → List (S39) → Int → Bool → List (S39) → Int → Option (Int × Int)
 | 0, _, _, _, _, _ => none
 | k + 1, x0, x2, x18, x261000, x261001 => if x18 = true then (some ((-1), 1)) else (if x2 < 0 then (spileref14_Compare.j1 k x0 x2 true x261000 x261001) else (spileref14_Compare.j1 k x0 x2 (decide (x2 > 1073741824)) x261000 x261001))
def spileref14_Compare.j1 : Nat → List (S39) → Int → Bool → List (S39) → Int → Option (Int × Int)
 | 0, _, _, _, _, _ => none
 | k + 1, x0, x2, x24, x261000, x261001 => if x24 = true then (some ((-1), 2)) else (spileref14_Compare.l0 k x0 x2 0 x261000 x261001)
def spileref14_Compare.l0 : Nat → List (S39) → Int → Int → List (S39) → Int → Option (Int × Int)
 | 0, _, _, _, _, _ => none
 | k + 1, x0, x2, x8, x261000, x261001 => if x8 < (x0.length : Int) then (if 0 ≤ x8 then ((spileref13_Read.f k x261000 x261001 ((rd_T39 x0 x8).f0)).bind fun bt264 => (if bt264.2 = 0 then (if (wrap64 (bt264.1 - ((rd_T39 x0 x8).f1))) > x2 then (some (x8, 0)) else (if (wrap64 (((rd_T39 x0 x8).f1) - bt264.1)) > x2 then (some (x8, 0)) else (spileref14_Compare.l0 k x0 x2 (wrap64 (x8 + 1)) x261000 x261001))) else (some (x8, 0)))) else (none)) else (some ((-1), 0))
end
def spileref14_Compare.f (k : Nat) (l0 : List (S39)) (l1_0 : List (S39)) (a1_1 : Int) (a2 : Int) : Option (Int × Int) := (spileref14_Check.f k l0).bind fun t261 => (if t261 = 0 then ((spileref13_Check.f k l1_0 a1_1).bind fun t262 => (spileref14_Compare.j0 k l0 a2 (t262 != 0) l1_0 a1_1)) else (spileref14_Compare.j0 k l0 a2 true l1_0 a1_1))
end Go.Proofs.YtkolhpacpbhceaaDoor.Pr
namespace Go.Proofs.YtkolhpacpbhceaaDoor.Opn
open Go Go.RowKit Go.Proofs.YtkolhpacpbhceaaDoorW.PrintWords Go.Proofs.YtkolhpacpbhceaaDoor.O Go.Proofs.YtkolhpacpbhceaaDoor.Pr
theorem opens3 : Opens Tryd.prog 3 (Kd.int .i64) (fun x => (Lit.int .i64 x).wf = true) := opens_int Tryd.underlying3 (by kernel_rfl)
def ok39 (x : S39) : Prop := (Lit.int .i64 x.f0).wf = true ∧ (Lit.int .i64 x.f1).wf = true
theorem opens39 : Opens Tryd.prog 39 k39 ok39 :=
  ⟨by kernel_rfl, fun H enc w base sp held fuel cs x h => by
    obtain ⟨xs, n, _, _, hl, hx, hf⟩ := DataW.trod_struct Tryd.underlying39 h
    have hc_ : Tryd.prog.cellsOf 39 = 2 := by kernel_rfl
    rw [hc_] at hl
    obtain ⟨c0, c1, rfl⟩ : ∃ c0 c1, cs = [c0, c1] := by
      clear h hf hx
      rcases cs with _ | ⟨c0, _ | ⟨c1, _ | ⟨_, _⟩⟩⟩
      all_goals first | exact ⟨_, _, rfl⟩ | (simp at hl)
    obtain ⟨y0, hy0⟩ : ∃ y, xs[0]? = some y := ⟨xs[0]'(by rw [hx]; decide), List.getElem?_eq_getElem _⟩
    have e0 : DataW.trod enc Tryd.prog w base sp held n 3 ((List.drop 0 [c0, c1]).take (Tryd.prog.cellsOf 3)) = xs[0]? := hf 0 _ rfl
    rw [hy0, show Tryd.prog.cellsOf 3 = 1 from by kernel_rfl] at e0
    obtain ⟨v0, K0, o0⟩ := opens3.2 H enc w base sp held n _ _ e0
    replace K0 : (Kd.int .i64).K w v0 [c0] := K0
    obtain ⟨y1, hy1⟩ : ∃ y, xs[1]? = some y := ⟨xs[1]'(by rw [hx]; decide), List.getElem?_eq_getElem _⟩
    have e1 : DataW.trod enc Tryd.prog w base sp held n 3 ((List.drop 1 [c0, c1]).take (Tryd.prog.cellsOf 3)) = xs[1]? := hf 1 _ rfl
    rw [hy1, show Tryd.prog.cellsOf 3 = 1 from by kernel_rfl] at e1
    obtain ⟨v1, K1, o1⟩ := opens3.2 H enc w base sp held n _ _ e1
    replace K1 : (Kd.int .i64).K w v1 [c1] := K1
    obtain rfl : c0 = _ := List.singleton_inj.1 K0
    obtain rfl : c1 = _ := List.singleton_inj.1 K1
    refine ⟨⟨v0, v1⟩, ?_, o0, o1⟩
    exact k39_mk w ⟨v0, v1⟩ ⟩
theorem opens22 : Opens Tryd.prog 22 (Kd.slice 39 k39) (fun x => (x.length ≤ maxLen ∧ ∀ x0_, x0_ ∈ x → ok39 x0_)) := opens_slice (P := Tryd.prog) (t := 22) (e := 39) Tryd.underlying22 (by kernel_rfl) opens39
def ok24 (x : S24) : Prop := (x.f0.length ≤ maxLen ∧ ∀ x0_, x0_ ∈ x.f0 → ok39 x0_) ∧ (Lit.int .i64 x.f1).wf = true
theorem opens24 : Opens Tryd.prog 24 k24 ok24 :=
  ⟨by kernel_rfl, fun H enc w base sp held fuel cs x h => by
    obtain ⟨xs, n, _, _, hl, hx, hf⟩ := DataW.trod_struct Tryd.underlying24 h
    have hc_ : Tryd.prog.cellsOf 24 = 2 := by kernel_rfl
    rw [hc_] at hl
    obtain ⟨c0, c1, rfl⟩ : ∃ c0 c1, cs = [c0, c1] := by
      clear h hf hx
      rcases cs with _ | ⟨c0, _ | ⟨c1, _ | ⟨_, _⟩⟩⟩
      all_goals first | exact ⟨_, _, rfl⟩ | (simp at hl)
    obtain ⟨y0, hy0⟩ : ∃ y, xs[0]? = some y := ⟨xs[0]'(by rw [hx]; decide), List.getElem?_eq_getElem _⟩
    have e0 : DataW.trod enc Tryd.prog w base sp held n 22 ((List.drop 0 [c0, c1]).take (Tryd.prog.cellsOf 22)) = xs[0]? := hf 0 _ rfl
    rw [hy0, show Tryd.prog.cellsOf 22 = 1 from by kernel_rfl] at e0
    obtain ⟨v0, K0, o0⟩ := opens22.2 H enc w base sp held n _ _ e0
    replace K0 : (Kd.slice 39 k39).K w v0 [c0] := K0
    obtain ⟨y1, hy1⟩ : ∃ y, xs[1]? = some y := ⟨xs[1]'(by rw [hx]; decide), List.getElem?_eq_getElem _⟩
    have e1 : DataW.trod enc Tryd.prog w base sp held n 3 ((List.drop 1 [c0, c1]).take (Tryd.prog.cellsOf 3)) = xs[1]? := hf 1 _ rfl
    rw [hy1, show Tryd.prog.cellsOf 3 = 1 from by kernel_rfl] at e1
    obtain ⟨v1, K1, o1⟩ := opens3.2 H enc w base sp held n _ _ e1
    replace K1 : (Kd.int .i64).K w v1 [c1] := K1
    obtain ⟨A0, q0, w0, m0, g0⟩ := K0
    obtain rfl : c0 = _ := List.singleton_inj.1 w0
    obtain rfl : c1 = _ := List.singleton_inj.1 K1
    refine ⟨⟨v0, v1⟩, ?_, o0, o1⟩
    exact k24_mk w ⟨v0, v1⟩ m0 g0⟩
end Go.Proofs.YtkolhpacpbhceaaDoor.Opn
namespace Go.Proofs.YtkolhpacpbhceaaDoor.Pure
open Go Go.RowKit Go.Proofs.YtkolhpacpbhceaaDoor.Pr Go.Proofs.YtkolhpacpbhceaaDoor.Opn
def rodCoarserPure : Prop := ∀ (l0_0 : (List S39)) (a0_1 : Int) (a1 : Int) (a2 : Int), (l0_0.length ≤ maxLen ∧ ∀ x0_, x0_ ∈ l0_0 → ok39 x0_) → (Lit.int .i64 a0_1).wf = true → (Lit.int .i64 a1).wf = true → (Lit.int .u8 a2).wf = true → ∃ k, spilelaw14_RodCoarser.f k l0_0 a0_1 a1 a2 = some true
end Go.Proofs.YtkolhpacpbhceaaDoor.Pure
namespace Go.Proofs.YtkolhpacpbhceaaDoor.PL
open Go Go.RowKit Go.Proofs.YtkolhpacpbhceaaDoorW.PrintWords Go.Proofs.YtkolhpacpbhceaaDoorW.PrintLast Go.Proofs.YtkolhpacpbhceaaDoorW.PrintMore
theorem evp {α : Type} {c : Prop} [Decidable c] {g h : Nat → Option α} {r : α} (hc : c) (k : Ev g r) : Ev (fun n => if c then g n else h n) r :=
  Ev.congr (fun n => if_pos hc) k
theorem evn {α : Type} {c : Prop} [Decidable c] {g h : Nat → Option α} {r : α} (hc : ¬ c) (k : Ev h r) : Ev (fun n => if c then g n else h n) r :=
  Ev.congr (fun n => if_neg hc) k
theorem evb {α β : Type} {g : Nat → Option α} {f : Nat → α → Option β} {a : α} {r : β} (h : Ev g a) (k : Ev (fun n => f n a) r) : Ev (fun n => (g n).bind (f n)) r := Ev.bind h k
theorem evr {α : Type} {a r : α} (h : a = r) : Ev (fun _ => some a) r := by subst h; exact Ev.now _
theorem evc {α : Type} {g : Nat → Option α} {r : α} {o : Option α} (hg : ∀ n, g n = o) (h : o = some r) : Ev g r := by
  subst h
  exact Ev.congr hg (Ev.now _)
/-- A loop that counts upwards to n. -/
theorem count_up (a n : Int) (P : Int → Prop) (hend : P n) (hround : ∀ i, a ≤ i → i < n → P (i + 1) → P i) : ∀ i, a ≤ i → i ≤ n → P i := by
  intro i h0 h1
  obtain ⟨d, hd⟩ : ∃ d : Nat, n - i = d := ⟨(n - i).toNat, by omega⟩
  induction d generalizing i with
  | zero =>
    obtain rfl : i = n := by omega
    exact hend
  | succ d ih => exact hround i h0 (by omega) (ih (i + 1) (by omega) (by omega) (by omega))
theorem w64 {x : Int} (h0 : -9223372036854775808 ≤ x) (h1 : x ≤ 9223372036854775807) : wrap64 x = x := by
  unfold wrap64
  omega
theorem w64_succ {i n : Int} (h0 : 0 ≤ i) (h : i < n) (hn : n ≤ 9223372036854775807) : wrap64 (i + 1) = i + 1 := w64 (by omega) (by omega)
theorem w64_pred {i n : Int} (h0 : 0 ≤ i) (h : i ≤ n) (hn : n ≤ 9223372036854775807) : wrap64 (i - 1) = i - 1 := w64 (by omega) (by omega)
/-- A test that comes to true where P holds, and else to false. -/
def EvB (g : Nat → Option Bool) (P : Prop) : Prop := (P → Ev g true) ∧ (¬ P → Ev g false)
theorem EvB.map {g : Nat → Option Bool} {f : Nat → Bool → Option Bool} {P Q : Prop} (h : EvB g P) (ht : P → EvB (fun n => f n true) Q) (hf : ¬ P → EvB (fun n => f n false) Q) : EvB (fun n => (g n).bind (f n)) Q := by
  by_cases hp : P
  · exact ⟨fun q => Ev.bind (h.1 hp) ((ht hp).1 q), fun q => Ev.bind (h.1 hp) ((ht hp).2 q)⟩
  · exact ⟨fun q => Ev.bind (h.2 hp) ((hf hp).1 q), fun q => Ev.bind (h.2 hp) ((hf hp).2 q)⟩
theorem u64w {x : Int} (h0 : 0 ≤ x) (h1 : x ≤ 9223372036854775807) : IntKind.u64.wrap x = x := by
  unfold IntKind.wrap
  simp [IntKind.signed, IntKind.bits]
  omega
theorem half {i j : Int} (h0 : 0 ≤ i) (h1 : i < j) (h2 : j ≤ 4611686018427387904) : wrap64 ((IntKind.u64.wrap (wrap64 (i + j))) / 2) = (i + j) / 2 := by
  rw [w64 (x := i + j) (by omega) (by omega), u64w (by omega) (by omega), w64 (by omega) (by omega)]
theorem mulb {x y X Y : Int} (h0 : 0 ≤ x) (h1 : x ≤ X) (k0 : 0 ≤ y) (k1 : y ≤ Y) : 0 ≤ x * y ∧ x * y ≤ X * Y :=
  ⟨Int.mul_nonneg h0 k0, Int.mul_le_mul h1 k1 k0 (Int.le_trans h0 h1)⟩
end Go.Proofs.YtkolhpacpbhceaaDoor.PL
namespace Go.Proofs.YtkolhpacpbhceaaDoor.PL
open Go Go.RowKit Go.Proofs.YtkolhpacpbhceaaDoorW.PrintWords Go.Proofs.YtkolhpacpbhceaaDoorW.PrintLast Go.Proofs.YtkolhpacpbhceaaDoorW.PrintMore Go.Proofs.YtkolhpacpbhceaaDoor.Pr Go.Proofs.YtkolhpacpbhceaaDoor.Opn Go.Proofs.YtkolhpacpbhceaaDoor.X
theorem rd39_get {l : List S39} {i : Int} (h0 : 0 ≤ i) (h : i < (l.length : Int)) : l[i.toNat]? = some (rd_T39 l i) := by
  have hl : i.toNat < l.length := by omega
  unfold rd_T39
  rw [List.getD_eq_getElem?_getD, List.getElem?_eq_getElem hl]
  rfl
theorem rd39_mem {l : List S39} {i : Int} (h0 : 0 ≤ i) (h : i < (l.length : Int)) : rd_T39 l i ∈ l := List.mem_of_getElem? (rd39_get h0 h)
theorem rd39_of_mem {l : List S39} {x : S39} (h : x ∈ l) : ∃ i : Int, 0 ≤ i ∧ i < (l.length : Int) ∧ rd_T39 l i = x := by
  obtain ⟨i, hi⟩ := List.mem_iff_getElem?.1 h
  have hl := (List.getElem?_eq_some_iff.1 hi).1
  refine ⟨(i : Int), by omega, by omega, ?_⟩
  unfold rd_T39
  rw [List.getD_eq_getElem?_getD, Int.toNat_natCast, hi]
  rfl
theorem drop39 {l : List S39} {i : Int} (h0 : 0 ≤ i) (h1 : i < (l.length : Int)) : l.drop i.toNat = rd_T39 l i :: l.drop (i + 1).toNat := by
  have hl : i.toNat < l.length := by omega
  have g := rd39_get h0 h1
  rw [List.getElem?_eq_getElem hl] at g
  rw [← Option.some.inj g, show (i + 1).toNat = i.toNat + 1 from by omega, ← List.drop_eq_getElem_cons hl]
def Rng (x : S39) : Prop := 0 ≤ x.f0 ∧ x.f0 ≤ 200000 ∧ 0 ≤ x.f1 ∧ x.f1 ≤ 4294967296
def Stp (x y : S39) : Prop := x.f0 < y.f0 ∧ x.f1 ≤ y.f1
def OKT (l : List S39) (t : Int) : Prop := 2 ≤ (l.length : Int) ∧ (l.length : Int) ≤ 128 ∧ (0 ≤ t ∧ t ≤ 4294967296) ∧ (∀ j, 0 ≤ j → j < (l.length : Int) → Rng (rd_T39 l j)) ∧ (∀ j, 1 ≤ j → j < (l.length : Int) → Stp (rd_T39 l (j - 1)) (rd_T39 l j))
theorem volume_eq (b : Int) : dip_volume.f b = some (decide (0 ≤ b ∧ b ≤ 4294967296)) := by
  unfold dip_volume.f
  by_cases h : b ≥ 0
  · rw [if_pos h]
    exact congrArg some (decide_eq_decide.2 ⟨fun q => ⟨h, q⟩, fun q => q.2⟩)
  · rw [if_neg h, decide_eq_false (by omega)]
theorem bad_eq (x : S39) : ∃ b, dip_Check_1.f x.f0 x.f1 = some b ∧ (b = true ↔ ¬ Rng x) := by
  unfold dip_Check_1.f Rng
  rw [volume_eq]
  by_cases h1 : x.f0 < 0
  · exact ⟨true, by rw [if_pos h1], by simp; omega⟩
  by_cases h2 : x.f0 > 200000
  · exact ⟨true, by rw [if_neg h1, if_pos h2], by simp; omega⟩
  refine ⟨!decide (0 ≤ x.f1 ∧ x.f1 ≤ 4294967296), by rw [if_neg h1, if_neg h2]; rfl, ?_⟩
  by_cases h3 : 0 ≤ x.f1 ∧ x.f1 ≤ 4294967296
  · rw [decide_eq_true h3]; simp; omega
  · rw [decide_eq_false h3]; simp; omega
theorem range_dip (l : List S39) (hl : (l.length : Int) ≤ 9223372036854775807) : ∀ i, 0 ≤ i → i ≤ (l.length : Int) →
    ∃ r, Ev (fun k => api_Mark_38_at_51.l0 k l (l.length : Int) i) r ∧ (r ≥ 0 ↔ ¬ ∀ j, i ≤ j → j < (l.length : Int) → Rng (rd_T39 l j)) := by
  refine count_up 0 (l.length : Int) _ ?_ ?_
  · exact ⟨-1, Ev.step (fun k => api_Mark_38_at_51.l0.eq_2 ..) (evn (by omega) (Ev.now _)), by constructor; omega; exact fun h => absurd (fun j h1 h2 => by omega) h⟩
  · intro i h0 h1 ih
    obtain ⟨b, hb, hb2⟩ := bad_eq (rd_T39 l i)
    have hs := w64_succ h0 h1 hl
    by_cases c : Rng (rd_T39 l i)
    · obtain ⟨r, r1, r2⟩ := ih
      have hbf : ¬ b = true := fun h => hb2.1 h c
      refine ⟨r, Ev.step (fun k => api_Mark_38_at_51.l0.eq_2 ..) (evp h1 (evp h0 (evp h1 (evb (evc (fun _ => rfl) hb) (evn hbf (by rw [hs]; exact r1)))))), r2.trans (not_congr ⟨fun h j a q => ?_, fun h j a q => h j (by omega) q⟩)⟩
      by_cases e : j = i
      · rw [e]; exact c
      · exact h j (by omega) q
    · exact ⟨i, Ev.step (fun k => api_Mark_38_at_51.l0.eq_2 ..) (evp h1 (evp h0 (evp h1 (evb (evc (fun _ => rfl) hb) (evp (hb2.2 c) (Ev.now _)))))), ⟨fun _ h => c (h i (Int.le_refl _) h1), fun _ => h0⟩⟩
theorem order_both (l : List S39) (t : Int) (hn : (l.length : Int) ≤ 128) : ∀ i, 1 ≤ i → i ≤ (l.length : Int) →
    ∃ e, Ev (fun k => dip_Check.l0 k i l t) e ∧ Ev (fun k => spileref13_Check.l1 k i l t) e ∧ (e = 0 ↔ ∀ j, i ≤ j → j < (l.length : Int) → Stp (rd_T39 l (j - 1)) (rd_T39 l j)) := by
  refine count_up 1 (l.length : Int) _ ?_ ?_
  · exact ⟨0, Ev.step (fun k => dip_Check.l0.eq_2 ..) (evn (by omega) (Ev.now _)), Ev.step (fun k => spileref13_Check.l1.eq_2 ..) (evn (by omega) (Ev.now _)), ⟨fun _ j a b => by omega, fun _ => rfl⟩⟩
  · intro i h0 h1 ih
    have hs := w64_succ (i := i) (by omega) h1 (by omega)
    have hp := w64_pred (i := i) (by omega) (Int.le_of_lt h1) (by omega)
    have q0 : 0 ≤ wrap64 (i - 1) := by rw [hp]; omega
    have q1 : wrap64 (i - 1) < (l.length : Int) := by rw [hp]; omega
    by_cases c1 : (rd_T39 l (wrap64 (i - 1))).f0 ≥ (rd_T39 l i).f0
    · refine ⟨5, Ev.step (fun k => dip_Check.l0.eq_2 ..) (evp h1 (evp q0 (evp q1 (evp (by omega) (evp c1 (Ev.now _)))))), Ev.step (fun k => spileref13_Check.l1.eq_2 ..) (evp h1 (evp q0 (evp q1 (evp (by omega) (evp c1 (Ev.now _)))))), ⟨fun h => by omega, fun h => ?_⟩⟩
      rw [hp] at c1
      have := (h i (by omega) h1).1
      omega
    by_cases c2 : (rd_T39 l (wrap64 (i - 1))).f1 > (rd_T39 l i).f1
    · refine ⟨5, Ev.step (fun k => dip_Check.l0.eq_2 ..) (evp h1 (evp q0 (evp q1 (evp (by omega) (evn c1 (evp c2 (Ev.now _))))))), Ev.step (fun k => spileref13_Check.l1.eq_2 ..) (evp h1 (evp q0 (evp q1 (evp (by omega) (evn c1 (evp c2 (Ev.now _))))))), ⟨fun h => by omega, fun h => ?_⟩⟩
      rw [hp] at c2
      have := (h i (by omega) h1).2
      omega
    · obtain ⟨e, e1, e2, e3⟩ := ih
      refine ⟨e, Ev.step (fun k => dip_Check.l0.eq_2 ..) (evp h1 (evp q0 (evp q1 (evp (by omega) (evn c1 (evn c2 (by rw [hs]; exact e1))))))), Ev.step (fun k => spileref13_Check.l1.eq_2 ..) (evp h1 (evp q0 (evp q1 (evp (by omega) (evn c1 (evn c2 (by rw [hs]; exact e2))))))), e3.trans ⟨fun h j a b => ?_, fun h j a b => h j (by omega) b⟩⟩
      by_cases z : j = i
      · rw [hp] at c1 c2; rw [z]; exact ⟨by omega, by omega⟩
      · exact h j (by omega) b
theorem range_ref (l : List S39) (t e : Int) (hl : (l.length : Int) ≤ 9223372036854775807) (ht : 0 ≤ t ∧ t ≤ 4294967296 → Ev (fun k => spileref13_Check.l1 k 1 l t) e) (ht2 : ¬ (0 ≤ t ∧ t ≤ 4294967296) → e = 2) : ∀ i, 0 ≤ i → i ≤ (l.length : Int) →
    ((∀ j, i ≤ j → j < (l.length : Int) → Rng (rd_T39 l j)) → Ev (fun k => spileref13_Check.l0 k i l t) e) ∧ ((¬ ∀ j, i ≤ j → j < (l.length : Int) → Rng (rd_T39 l j)) → Ev (fun k => spileref13_Check.l0 k i l t) 2) := by
  refine count_up 0 (l.length : Int) _ ?_ ?_
  · refine ⟨fun _ => ?_, fun h => absurd (fun j a b => by omega) h⟩
    refine Ev.step (fun k => spileref13_Check.l0.eq_2 ..) (evn (by omega) ?_)
    by_cases c1 : t < 0
    · rw [ht2 (by omega)]
      exact evp c1 (Ev.step (fun k => spileref13_Check.j1.eq_2 ..) (evp rfl (Ev.now _)))
    · refine evn c1 ?_
      by_cases c2 : t > 4294967296
      · rw [ht2 (by omega), decide_eq_true c2]
        exact Ev.step (fun k => spileref13_Check.j1.eq_2 ..) (evp rfl (Ev.now _))
      · rw [decide_eq_false c2]
        exact Ev.step (fun k => spileref13_Check.j1.eq_2 ..) (evn (by simp) (ht (by omega)))
  · intro i h0 h1 ih
    have hs := w64_succ h0 h1 hl
    by_cases c : Rng (rd_T39 l i)
    · have up : ∀ r, Ev (fun k => spileref13_Check.l0 k (i + 1) l t) r → Ev (fun k => spileref13_Check.l0 k i l t) r := fun r h => by
        have c' := c
        unfold Rng at c'
        exact Ev.step (fun k => spileref13_Check.l0.eq_2 ..) (evp h1 (evp h0 (evn (by omega) (evn (by omega) (evn (by omega) (evn (by omega) (by rw [hs]; exact h)))))))
      refine ⟨fun h => up _ (ih.1 fun j a b => h j (by omega) b), fun h => up _ (ih.2 fun h2 => h fun j a b => ?_)⟩
      by_cases z : j = i
      · rw [z]; exact c
      · exact h2 j (by omega) b
    · refine ⟨fun h => absurd (h i (Int.le_refl _) h1) c, fun _ => ?_⟩
      unfold Rng at c
      by_cases d1 : (rd_T39 l i).f0 < 0
      · exact Ev.step (fun k => spileref13_Check.l0.eq_2 ..) (evp h1 (evp h0 (evp d1 (Ev.now _))))
      by_cases d2 : (rd_T39 l i).f0 > 200000
      · exact Ev.step (fun k => spileref13_Check.l0.eq_2 ..) (evp h1 (evp h0 (evn d1 (evp d2 (Ev.now _)))))
      by_cases d3 : (rd_T39 l i).f1 < 0
      · exact Ev.step (fun k => spileref13_Check.l0.eq_2 ..) (evp h1 (evp h0 (evn d1 (evn d2 (evp d3 (Ev.now _))))))
      · exact Ev.step (fun k => spileref13_Check.l0.eq_2 ..) (evp h1 (evp h0 (evn d1 (evn d2 (evn d3 (evp (by omega) (Ev.now _)))))))
theorem tab_both (l : List S39) (t : Int) (hl : (l.length : Int) ≤ 9223372036854775807) : ∃ e, Ev (fun k => dip_Check.f k l t) e ∧ Ev (fun k => spileref13_Check.f k l t) e ∧ (e = 0 ↔ OKT l t) := by
  by_cases a1 : (l.length : Int) < 2
  · exact ⟨9, evp a1 (Ev.now _), evp a1 (Ev.now _), ⟨fun h => by omega, fun h => by have := h.1; omega⟩⟩
  by_cases a2 : (l.length : Int) > 128
  · exact ⟨8, evn a1 (evp a2 (Ev.now _)), evn a1 (evp a2 (Ev.now _)), ⟨fun h => by omega, fun h => by have := h.2.1; omega⟩⟩
  obtain ⟨e, e1, e2, e3⟩ := order_both l t (by omega) 1 (Int.le_refl _) (by omega)
  obtain ⟨r, r1, r2⟩ := range_dip l hl 0 (Int.le_refl _) (by omega)
  have two : Ev (fun k => dip_Check.j0 k true l t) 2 := Ev.step (fun k => dip_Check.j0.eq_2 ..) (evp rfl (Ev.now _))
  by_cases ht : 0 ≤ t ∧ t ≤ 4294967296
  · have ref := range_ref l t e hl (fun _ => e2) (fun h => absurd ht h) 0 (Int.le_refl _) (by omega)
    have pre : ∀ z, Ev (fun k => dip_Check.j0 k (decide (r ≥ 0)) l t) z → Ev (fun k => dip_Check.f k l t) z := fun z h =>
      evn a1 (evn a2 (evb (evc (fun _ => rfl) (volume_eq t)) (evp (decide_eq_true ht) (evb (evb r1 (Ev.now _)) h))))
    by_cases hr : ∀ j, 0 ≤ j → j < (l.length : Int) → Rng (rd_T39 l j)
    · refine ⟨e, pre _ ?_, evn a1 (evn a2 (ref.1 hr)), e3.trans ⟨fun h => ⟨by omega, by omega, ht, hr, h⟩, fun h => h.2.2.2.2⟩⟩
      rw [decide_eq_false (fun h => r2.1 h hr)]
      exact Ev.step (fun k => dip_Check.j0.eq_2 ..) (evn (by simp) e1)
    · refine ⟨2, pre _ ?_, evn a1 (evn a2 (ref.2 hr)), ⟨fun h => by omega, fun h => absurd h.2.2.2.1 hr⟩⟩
      rw [decide_eq_true (r2.2 hr)]
      exact two
  · have ref := range_ref l t 2 hl (fun h => absurd h ht) (fun _ => rfl) 0 (Int.le_refl _) (by omega)
    refine ⟨2, evn a1 (evn a2 (evb (evc (fun _ => rfl) (volume_eq t)) (evn (by simpa using ht) two))), evn a1 (evn a2 ?_), ⟨fun h => by omega, fun h => absurd h.2.2.1 ht⟩⟩
    by_cases hr : ∀ j, 0 ≤ j → j < (l.length : Int) → Rng (rd_T39 l j)
    · exact ref.1 hr
    · exact ref.2 hr
def atL : List S39 → Int → Int
  | a :: b :: r, x => if x ≤ b.f0 then a.f1 + (b.f1 - a.f1) * (x - a.f0) / (b.f0 - a.f0) else atL (b :: r) x
  | _, _ => 0
theorem atL_cons (a b : S39) (r : List S39) (x : Int) : atL (a :: b :: r) x = if x ≤ b.f0 then a.f1 + (b.f1 - a.f1) * (x - a.f0) / (b.f0 - a.f0) else atL (b :: r) x := rfl
/-- What a table is, told along the list. -/
def Up : List S39 → Prop
  | a :: b :: r => Stp a b ∧ Rng a ∧ Rng b ∧ Up (b :: r)
  | _ => True
def lastM (d : S39) : List S39 → S39
  | [] => d
  | x :: r => lastM x r
theorem up_of (l : List S39) (hr : ∀ j, 0 ≤ j → j < (l.length : Int) → Rng (rd_T39 l j)) (hs : ∀ j, 1 ≤ j → j < (l.length : Int) → Stp (rd_T39 l (j - 1)) (rd_T39 l j)) : Up l := by
  have key : ∀ i, 0 ≤ i → i ≤ (l.length : Int) → Up (l.drop i.toNat) := by
    refine count_up 0 (l.length : Int) _ ?_ ?_
    · rw [List.drop_eq_nil_of_le (by omega)]; trivial
    · intro i h0 h1 ih
      rw [drop39 h0 h1]
      by_cases c : i + 1 < (l.length : Int)
      · rw [drop39 (i := i + 1) (by omega) c] at ih ⊢
        have := hs (i + 1) (by omega) c
        rw [show i + 1 - 1 = i from by omega] at this
        exact ⟨this, hr i h0 h1, hr (i + 1) (by omega) c, ih⟩
      · rw [List.drop_eq_nil_of_le (by omega)]; trivial
  have := key 0 (Int.le_refl _) (by omega)
  rwa [show (0 : Int).toNat = 0 from rfl, List.drop_zero] at this
theorem frac {p q n d : Int} (hp : 0 ≤ p) (hn : 0 ≤ n) (hnd : n ≤ d) (hd : 0 < d) : 0 ≤ p * n / d ∧ p * n / d ≤ p := by
  refine ⟨Int.ediv_nonneg (Int.mul_nonneg hp hn) (by omega), ?_⟩
  have h1 : p * n ≤ p * d := Int.mul_le_mul_of_nonneg_left hnd hp
  have h2 := Int.ediv_le_ediv hd h1
  rwa [Int.mul_ediv_cancel _ (by omega)] at h2
theorem up_last : ∀ (l : List S39) (a : S39), Up (a :: l) → a.f0 ≤ (lastM a l).f0 ∧ a.f1 ≤ (lastM a l).f1
  | [], a, _ => ⟨Int.le_refl _, Int.le_refl _⟩
  | b :: r, a, h => by
    have ih := up_last r b h.2.2.2
    have hs := h.1
    unfold Stp at hs
    show a.f0 ≤ (lastM b r).f0 ∧ a.f1 ≤ (lastM b r).f1
    omega
theorem at_bounds : ∀ (r : List S39) (a b : S39) (x : Int), Up (a :: b :: r) → a.f0 ≤ x → x ≤ (lastM b r).f0 → a.f1 ≤ atL (a :: b :: r) x ∧ atL (a :: b :: r) x ≤ (lastM b r).f1
  | r, a, b, x, h, h0, h1 => by
    have hs := h.1
    unfold Stp at hs
    have hl := up_last r b h.2.2.2
    rw [atL_cons]
    by_cases c : x ≤ b.f0
    · rw [if_pos c]
      have := frac (p := b.f1 - a.f1) (q := 0) (n := x - a.f0) (d := b.f0 - a.f0) (by omega) (by omega) (by omega) (by omega)
      omega
    · rw [if_neg c]
      match r, h, h1 with
      | [], _, h1 => simp only [lastM] at h1; omega
      | d :: r, h, h1 =>
        have ih := at_bounds r b d x h.2.2.2 (by omega) h1
        show a.f1 ≤ _ ∧ _ ≤ (lastM d r).f1
        omega
theorem at_mono : ∀ (r : List S39) (a b : S39) (x y : Int), Up (a :: b :: r) → a.f0 ≤ x → x ≤ y → y ≤ (lastM b r).f0 → atL (a :: b :: r) x ≤ atL (a :: b :: r) y
  | r, a, b, x, y, h, h0, h1, h2 => by
    have hs := h.1
    unfold Stp at hs
    rw [atL_cons, atL_cons]
    by_cases c : y ≤ b.f0
    · rw [if_pos (by omega), if_pos c]
      have hm : (b.f1 - a.f1) * (x - a.f0) ≤ (b.f1 - a.f1) * (y - a.f0) := Int.mul_le_mul_of_nonneg_left (by omega) (by omega)
      have := Int.ediv_le_ediv (c := b.f0 - a.f0) (by omega) hm
      omega
    · rw [if_neg c]
      match r, h, h2 with
      | [], _, h2 => simp only [lastM] at h2; omega
      | d :: r, h, h2 =>
        by_cases c2 : x ≤ b.f0
        · rw [if_pos c2]
          have f := frac (p := b.f1 - a.f1) (q := 0) (n := x - a.f0) (d := b.f0 - a.f0) (by omega) (by omega) (by omega) (by omega)
          have := (at_bounds r b d y h.2.2.2 (by omega) h2).1
          omega
        · rw [if_neg c2]
          exact at_mono r b d x y h.2.2.2 (by omega) h1 h2
theorem at_last : ∀ (r : List S39) (a b : S39), Up (a :: b :: r) → atL (a :: b :: r) (lastM b r).f0 = (lastM b r).f1
  | [], a, b, h => by
    have hs := h.1
    unfold Stp at hs
    show (if b.f0 ≤ b.f0 then a.f1 + (b.f1 - a.f1) * (b.f0 - a.f0) / (b.f0 - a.f0) else atL [b] b.f0) = b.f1
    rw [if_pos (Int.le_refl _), Int.mul_ediv_cancel _ (by omega)]
    omega
  | d :: r, a, b, h => by
    have hs := h.2.2.2.1
    unfold Stp at hs
    have hl := up_last r d h.2.2.2.2.2.2
    show atL (a :: b :: d :: r) (lastM d r).f0 = (lastM d r).f1
    rw [atL_cons, if_neg (by omega)]
    exact at_last r b d h.2.2.2
theorem lastM_rd : ∀ (l : List S39) (a : S39), lastM a l = rd_T39 (a :: l) (((a :: l).length : Int) - 1)
  | [], a => rfl
  | b :: r, a => by
    have e := lastM_rd r b
    show lastM b r = _
    rw [e]
    unfold rd_T39
    rw [show (((a :: b :: r).length : Int) - 1).toNat = (((b :: r).length : Int) - 1).toNat + 1 from by simp]
    rfl
/-- The first and the last height, the last volume. -/
def h0 (l : List S39) : Int := (rd_T39 l 0).f0
def hN (l : List S39) : Int := (rd_T39 l ((l.length : Int) - 1)).f0
def vN (l : List S39) : Int := (rd_T39 l ((l.length : Int) - 1)).f1
structure Facts (l : List S39) : Prop where
  h0le : 0 ≤ h0 l
  hNle : hN l ≤ 200000
  h01 : h0 l ≤ hN l
  vNle : vN l ≤ 4294967296
  bounds : ∀ x, h0 l ≤ x → x ≤ hN l → 0 ≤ atL l x ∧ atL l x ≤ vN l
  mono : ∀ x y, h0 l ≤ x → x ≤ y → y ≤ hN l → atL l x ≤ atL l y
  last : atL l (hN l) = vN l
theorem two_of {l : List S39} (h : 2 ≤ (l.length : Int)) : ∃ a b r, l = a :: b :: r := by
  cases l with
  | nil => exact absurd h (by simp)
  | cons a l =>
    cases l with
    | nil => exact absurd h (by simp)
    | cons b r => exact ⟨a, b, r, rfl⟩
theorem facts {l : List S39} {t : Int} (h : OKT l t) : Facts l := by
  obtain ⟨h2, h3, h4, h5, h6⟩ := h
  have hu := up_of l h5 h6
  obtain ⟨a, b, r, rfl⟩ := two_of h2
  have e : lastM b r = rd_T39 (a :: b :: r) (((a :: b :: r).length : Int) - 1) := lastM_rd (b :: r) a
  have q0 := h5 0 (Int.le_refl _) (by omega)
  have q1 := h5 (((a :: b :: r).length : Int) - 1) (by omega) (by omega)
  unfold Rng at q0 q1
  have f0 : (rd_T39 (a :: b :: r) 0) = a := rfl
  have hl := up_last (b :: r) a hu
  have hl2 : lastM a (b :: r) = lastM b r := rfl
  rw [hl2, e] at hl
  rw [f0] at q0
  refine ⟨q0.1, q1.2.1, hl.1, q1.2.2.2, fun x g0 g1 => ?_, fun x y g0 g1 g2 => ?_, ?_⟩
  · have := at_bounds r a b x hu g0 (by rw [e]; exact g1)
    rw [e] at this
    exact ⟨by omega, this.2⟩
  · exact at_mono r a b x y hu g0 g1 (by rw [e]; exact g2)
  · have := at_last r a b hu
    rw [e] at this
    exact this
theorem step_eq {l : List S39} {i : Int} (x : Int) (h1 : 1 ≤ i) (h2 : i < (l.length : Int)) : atL (l.drop (i - 1).toNat) x = if x ≤ (rd_T39 l i).f0 then (rd_T39 l (i - 1)).f1 + ((rd_T39 l i).f1 - (rd_T39 l (i - 1)).f1) * (x - (rd_T39 l (i - 1)).f0) / ((rd_T39 l i).f0 - (rd_T39 l (i - 1)).f0) else atL (l.drop i.toNat) x := by
  rw [drop39 (i := i - 1) (by omega) (by omega), show i - 1 + 1 = i from by omega, drop39 (i := i) (by omega) h2, atL_cons, ← drop39 (i := i) (by omega) h2]
theorem read_loop {l : List S39} {t : Int} (h : OKT l t) (x : Int) (hx : x ≤ hN l) : ∀ i, 1 ≤ i → i ≤ (l.length : Int) → i < (l.length : Int) → (rd_T39 l (i - 1)).f0 ≤ x →
    Ev (fun k => dip_read.l0 k x i l t) (atL (l.drop (i - 1).toNat) x) ∧ Ev (fun k => spileref13_At.l0 k x i l t) (atL (l.drop (i - 1).toNat) x) := by
  obtain ⟨h2, h3, h4, h5, h6⟩ := h
  refine count_up 1 (l.length : Int) (fun i => i < (l.length : Int) → (rd_T39 l (i - 1)).f0 ≤ x → Ev (fun k => dip_read.l0 k x i l t) (atL (l.drop (i - 1).toNat) x) ∧ Ev (fun k => spileref13_At.l0 k x i l t) (atL (l.drop (i - 1).toNat) x)) (fun g => absurd g (by omega)) ?_
  intro i g0 g1 ih _ gx
  have hp := w64_pred (i := i) (by omega) (Int.le_of_lt g1) (by omega)
  have hs := w64_succ (i := i) (by omega) g1 (by omega)
  have q0 : 0 ≤ wrap64 (i - 1) := by rw [hp]; omega
  have q1 : wrap64 (i - 1) < (l.length : Int) := by rw [hp]; omega
  have ra := h5 (i - 1) (by omega) (by omega)
  have rb := h5 i (by omega) g1
  have rs := h6 i g0 g1
  unfold Rng at ra rb
  unfold Stp at rs
  rw [step_eq x g0 g1]
  by_cases c : (rd_T39 l i).f0 < x
  · rw [if_neg (by omega)]
    have c2 : i + 1 < (l.length : Int) := by
      rcases Int.lt_or_le (i + 1) (l.length : Int) with h | h
      · exact h
      · have e : i = (l.length : Int) - 1 := by omega
        unfold hN at hx
        rw [← e] at hx
        omega
    have q := ih c2 (by rw [show i + 1 - 1 = i from by omega]; omega)
    rw [show i + 1 - 1 = i from by omega] at q
    exact ⟨Ev.step (fun k => dip_read.l0.eq_2 ..) (evp (by omega) (evp g1 (evp c (by rw [hs]; exact q.1)))), Ev.step (fun k => spileref13_At.l0.eq_2 ..) (evp (by omega) (evp g1 (evp c (by rw [hs]; exact q.2))))⟩
  · rw [if_pos (by omega)]
    have w1 : wrap64 ((rd_T39 l i).f0 - (rd_T39 l (i - 1)).f0) = (rd_T39 l i).f0 - (rd_T39 l (i - 1)).f0 := w64 (by omega) (by omega)
    have w2 : wrap64 ((rd_T39 l i).f1 - (rd_T39 l (i - 1)).f1) = (rd_T39 l i).f1 - (rd_T39 l (i - 1)).f1 := w64 (by omega) (by omega)
    have w3 : wrap64 (x - (rd_T39 l (i - 1)).f0) = x - (rd_T39 l (i - 1)).f0 := w64 (by omega) (by omega)
    have mb := mulb (x := (rd_T39 l i).f1 - (rd_T39 l (i - 1)).f1) (y := x - (rd_T39 l (i - 1)).f0) (X := 4294967296) (Y := 200000) (by omega) (by omega) (by omega) (by omega)
    have w4 : wrap64 (((rd_T39 l i).f1 - (rd_T39 l (i - 1)).f1) * (x - (rd_T39 l (i - 1)).f0)) = ((rd_T39 l i).f1 - (rd_T39 l (i - 1)).f1) * (x - (rd_T39 l (i - 1)).f0) := w64 (by omega) (by omega)
    have fr := frac (p := (rd_T39 l i).f1 - (rd_T39 l (i - 1)).f1) (q := 0) (n := x - (rd_T39 l (i - 1)).f0) (d := (rd_T39 l i).f0 - (rd_T39 l (i - 1)).f0) (by omega) (by omega) (by omega) (by omega)
    have w5 : Int.tdiv (((rd_T39 l i).f1 - (rd_T39 l (i - 1)).f1) * (x - (rd_T39 l (i - 1)).f0)) ((rd_T39 l i).f0 - (rd_T39 l (i - 1)).f0) = ((rd_T39 l i).f1 - (rd_T39 l (i - 1)).f1) * (x - (rd_T39 l (i - 1)).f0) / ((rd_T39 l i).f0 - (rd_T39 l (i - 1)).f0) := Int.tdiv_eq_ediv_of_nonneg mb.1
    have w6 : wrap64 (((rd_T39 l i).f1 - (rd_T39 l (i - 1)).f1) * (x - (rd_T39 l (i - 1)).f0) / ((rd_T39 l i).f0 - (rd_T39 l (i - 1)).f0)) = ((rd_T39 l i).f1 - (rd_T39 l (i - 1)).f1) * (x - (rd_T39 l (i - 1)).f0) / ((rd_T39 l i).f0 - (rd_T39 l (i - 1)).f0) := w64 (by omega) (by omega)
    constructor
    · refine Ev.step (fun k => dip_read.l0.eq_2 ..) (evp (by omega) (evp g1 (evn c (evp q0 (evp q1 ?_)))))
      rw [hp, w1, w2, w3, w4, w5, w6]
      exact evn (by omega) (evr (w64 (by omega) (by omega)))
    · refine Ev.step (fun k => spileref13_At.l0.eq_2 ..) (evp (by omega) (evp g1 (evn c (evp q0 (evp q1 ?_)))))
      rw [hp, w1, w2, w3, w4, w5, w6]
      exact evn (by omega) (evr (w64 (by omega) (by omega)))
theorem read_both {l : List S39} {t : Int} (h : OKT l t) (x : Int) (hx0 : h0 l ≤ x) (hx : x ≤ hN l) : Ev (fun k => dip_read.f k l t x) (atL l x) ∧ Ev (fun k => spileref13_At.f k l t x) (atL l x) := by
  have := read_loop h x hx 1 (Int.le_refl _) (by have := h.1; omega) (by have := h.1; omega) hx0
  rwa [show (1 - 1 : Int).toNat = 0 from rfl, List.drop_zero] at this
/-- What Read answers. -/
def rdR (l : List S39) (x : Int) : Int × Int := if x < h0 l then (0, 2) else if x > hN l then (0, 2) else (atL l x, 0)
theorem Read_both {l : List S39} {t : Int} (h : OKT l t) (x : Int) : Ev (fun k => dip_Read.f k l t x) (rdR l x) ∧ Ev (fun k => spileref13_Read.f k l t x) (rdR l x) := by
  have h2 := h.1
  have h3 := h.2.1
  obtain ⟨e, e1, e2, e3⟩ := tab_both l t (by omega)
  obtain rfl := e3.2 h
  have hp := w64_pred (i := (l.length : Int)) (by omega) (Int.le_refl _) (by omega)
  have q0 : 0 ≤ wrap64 ((l.length : Int) - 1) := by rw [hp]; omega
  have q1 : wrap64 ((l.length : Int) - 1) < (l.length : Int) := by rw [hp]; omega
  unfold rdR
  by_cases c1 : x < h0 l
  · rw [if_pos c1]
    exact ⟨evb e1 (evp rfl (evp (by omega) (evp c1 (Ev.now _)))), evb e2 (evp rfl (evp (by omega) (evp c1 (Ev.now _))))⟩
  by_cases c2 : x > hN l
  · rw [if_neg c1, if_pos c2]
    have c2' : x > (rd_T39 l (wrap64 ((l.length : Int) - 1))).f0 := by rw [hp]; exact c2
    exact ⟨evb e1 (evp rfl (evp (by omega) (evn c1 (evp q0 (evp q1 (evp c2' (Ev.now _))))))), evb e2 (evp rfl (evp (by omega) (evn c1 (evp q0 (evp q1 (evp c2' (Ev.now _)))))))⟩
  · rw [if_neg c1, if_neg c2]
    have c2' : ¬ x > (rd_T39 l (wrap64 ((l.length : Int) - 1))).f0 := by rw [hp]; exact c2
    obtain ⟨r1, r2⟩ := read_both h x (by omega) (by omega)
    exact ⟨evb e1 (evp rfl (evp (by omega) (evn c1 (evp q0 (evp q1 (evn c2' (evb r1 (Ev.now _)))))))), evb e2 (evp rfl (evp (by omega) (evn c1 (evp q0 (evp q1 (evn c2' (evb r2 (Ev.now _))))))))⟩
end Go.Proofs.YtkolhpacpbhceaaDoor.PL
