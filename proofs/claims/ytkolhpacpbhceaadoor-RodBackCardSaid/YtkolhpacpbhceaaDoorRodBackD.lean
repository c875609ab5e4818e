/-
The law RodBack returns true for every input that can be read as data, and leaves its arguments as they were: the row, and the card that ties the listed variables to the program's text.
No condition of its own beyond those that the given row prints.
-/
import Derived.Lib.LazyBuf
import Derived.HandedShaped
import Derived.Handed
import Derived.Test.YtkolhpacpbhceaaDoorCards
import Derived.Test.YtkolhpacpbhceaaDoorTie
import Derived.ProofKit
import Derived.OpenShut
import Derived.ShutString
import Derived.ChangeOld
import Derived.SizedLaws
import Derived.LaidMore
import Derived.Lay
import Derived.MakeChecks
import Derived.SevenTiedAt
import Derived.LaidSub
import Derived.LaidOnce
import Derived.Stop.Joined
import Derived.Stop.LaidErr
import Derived.Test.YtkolhpacpbhceaaDoorRodBackC
set_option linter.unusedVariables false
set_option linter.unusedSimpArgs false
namespace Go.Proofs.YtkolhpacpbhceaaDoor.X
open Go Go.RowKit Go.Proofs.YtkolhpacpbhceaaDoor.TX Go.Proofs.YtkolhpacpbhceaaDoorW.PrintWords Go.Proofs.YtkolhpacpbhceaaDoorW.PrintLast Go.Proofs.YtkolhpacpbhceaaDoorW.PrintMore
theorem below_drawn (w : World) (n : Nat) : Below w.heap.size w (w.drewN n) := ⟨rfl, rfl, rfl, Nat.le_refl _, fun _ _ => rfl⟩
/-- The first piece, the rest, and whether the byte stands in it. -/
def strings_Cut.f (a0 a1 : ByteArray) : Option (ByteArray × ByteArray × Bool) := if a0.size < 4294967281 then some (⟨(Lib.cut a0.data.toList a1.data.toList).1.toArray⟩, ⟨(Lib.cut a0.data.toList a1.data.toList).2.1.toArray⟩, (Lib.cut a0.data.toList a1.data.toList).2.2) else none
theorem strings_Cut.calls (a0 a1 r1 r2 : ByteArray) (r3 : Bool) (w : World) (hG : GI w) (h : strings_Cut.f a0 a1 = some (r1, r2, r3)) :
    Calls Tryd.prog 46 #[.string a0, .string a1] w fun e w' => e = .returned (.tuple #[.string r1, .string r2, .bool r3]) ∧ Below w.heap.size w w' := by
  unfold strings_Cut.f at h
  by_cases hs : a0.size < 4294967281
  · rw [if_pos hs] at h
    obtain ⟨m, hm⟩ := hG.2.2.2
    simp only [Option.some.injEq, Prod.mk.injEq] at h
    obtain ⟨rfl, rfl, rfl⟩ := h
    refine (Tryd.strings_Cut a0 a1 m w hs hm).mono ?_
    rintro e w' ⟨rfl, n, rfl⟩
    exact ⟨rfl, below_drawn w n⟩
  · rw [if_neg hs] at h; cases h
end Go.Proofs.YtkolhpacpbhceaaDoor.X
namespace Go.Proofs.YtkolhpacpbhceaaDoor.X
open Go Go.RowKit Go.Lib Go.Proofs Go.Shelf Go.Proofs.YtkolhpacpbhceaaDoor.TX Go.Proofs.YtkolhpacpbhceaaDoorW.PrintWords Go.Proofs.YtkolhpacpbhceaaDoorW.PrintLast Go.Proofs.YtkolhpacpbhceaaDoorW.PrintMore
attribute [local go_sem] Oper.semAt_some
/-- The lines of a text, and whether each has its line feed. -/
def lns (s : ByteArray) : List (ByteArray × Bool) := if h : s.size = 0 then [] else (⟨(cut1 10 s.data.toList).1.toArray⟩, (cut1 10 s.data.toList).2.2) :: lns ⟨(cut1 10 s.data.toList).2.1.toArray⟩
termination_by s.size
decreasing_by
  have h1 : s.data.toList.length = s.size := Array.length_toList
  show ((cut1 10 s.data.toList).2.1.toArray).size < s.size
  rw [List.size_toArray, ← h1]
  cases hb : (cut1 10 s.data.toList).2.2 with
  | true => exact cut1_len 10 _ hb
  | false => rw [(cut1_no 10 _ hb).2]; show 0 < _; omega
theorem lns_nil {s : ByteArray} (h : s.size = 0) : lns s = [] := by rw [lns, dif_pos h]
theorem lns_cons {s : ByteArray} (h : ¬ s.size = 0) : lns s = (⟨(cut1 10 s.data.toList).1.toArray⟩, (cut1 10 s.data.toList).2.2) :: lns ⟨(cut1 10 s.data.toList).2.1.toArray⟩ := by rw [lns, dif_neg h]
theorem rest_lt {s : ByteArray} (h : ¬ s.size = 0) : (⟨(cut1 10 s.data.toList).2.1.toArray⟩ : ByteArray).size < s.size := by
  have h1 : s.data.toList.length = s.size := Array.length_toList
  show ((cut1 10 s.data.toList).2.1.toArray).size < s.size
  rw [List.size_toArray, ← h1]
  cases hb : (cut1 10 s.data.toList).2.2 with
  | true => exact cut1_len 10 _ hb
  | false => rw [(cut1_no 10 _ hb).2]; show 0 < _; omega
def lencs (x : ByteArray × Bool) : Array Value := #[.string x.1, .bool x.2]
/-- What is left, read off the world. -/
def leftB (b : Nat) (W : World) : Nat := match W.cell? ⟨b, 0, none⟩ with
  | some (.string s) => s.size
  | _ => 0
set_option maxRecDepth 100000 in
set_option maxHeartbeats 2000000 in
theorem lines1_in (l b : Nat) (L : List (ByteArray × Bool)) (J Jx : List (ByteArray × Bool) → World → Prop) (text : ByteArray) (hs : text.size < 4294967281) (hL : lns text = L) (W : World) (hGI : ∀ pre W, J pre W → GI W)
    (hJ : AbBox b J) (hJx : AbBox b Jx) (hbx : Boxed W b 9 (.string text))
    (hY : ∀ pre x W1, J pre W1 → pre ++ [x] <+: L → YieldAt Fence.wide (4 - 1) Tryd.prog l (lencs x) W1 fun e W' =>
      (e = .returned (.bool true) ∧ J (pre ++ [x]) W' ∧ W'.heap[b]? = W1.heap[b]?) ∨ (e = .returned (.bool false) ∧ Jx (pre ++ [x]) W'))
    (h0 : J [] W) :
    CallsIn Fence.wide 4 Tryd.prog 56 #[.func (.yield l) #[] #[], .pointer (some ⟨b, 0, none⟩)] W fun e W' => (∃ v, e = .returned v) ∧ (J L W' ∨ (∃ pre, pre <+: L ∧ Jx pre W')) := by
  refine callsIn_of_wp Tryd.func56 rfl trivial ?_ rfl
  simp only [Tryd.ntmps56, List.size_toArray, List.length_cons, List.length_nil, Nat.reduceAdd, Nat.reduceSub, Array.replicate_succ, Array.replicate_zero, List.push_toArray, List.append_toArray, List.nil_append, List.cons_append]
  gi_wp2
  gi_loopw [] (fun wr => ∃ (pre rest : List (ByteArray × Bool)) (s : ByteArray), s.size < 4294967281 ∧ Boxed wr b 9 (.string s) ∧ lns s = rest ∧ L = pre ++ rest ∧ J pre wr)
    (fun wr => leftB b wr)
  case atStart =>
    exact ⟨[], L, text, hs, hbx, hL, rfl, h0⟩
  case round =>
    obtain ⟨pre, rest, s, hsz, hbw, hr, hx, hJs⟩ := hrel
    have hc := hbw.cell
    have hf := hbw.frozen
    have e1 : s.data.toList.length = s.size := Array.length_toList
    by_cases hz : s.size = 0
    · have tE : s.toList.isEmpty = true := by rw [ByteArray.toList_eq, show s.data.toList = [] from List.eq_nil_of_length_eq_zero (by omega)]; rfl
      rw [lns_nil hz] at hr
      subst hr
      gi_wp2
      go_end0
      exact ⟨⟨_, rfl⟩, .inl (by rw [hx, List.append_nil]; exact hJs)⟩
    · have tE : s.toList.isEmpty = false := by
        rw [ByteArray.toList_eq]
        cases hd : s.data.toList with
        | nil => rw [hd] at e1; exact absurd e1.symm hz
        | cons a t => rfl
      rw [lns_cons hz] at hr
      have hcut : strings_Cut.f s ⟨#[10]⟩ = some (⟨(cut1 10 s.data.toList).1.toArray⟩, ⟨(cut1 10 s.data.toList).2.1.toArray⟩, (cut1 10 s.data.toList).2.2) := by
        unfold strings_Cut.f
        rw [if_pos hsz]
        have e : Lib.cut s.data.toList (⟨#[10]⟩ : ByteArray).data.toList = cut1 10 s.data.toList := cut_eq 10 s.data.toList
        rw [e]
      have hrl := rest_lt hz
      generalize (⟨(cut1 10 s.data.toList).1.toArray⟩ : ByteArray) = line at hcut hr
      generalize (⟨(cut1 10 s.data.toList).2.1.toArray⟩ : ByteArray) = left at hcut hr hrl
      generalize (cut1 10 s.data.toList).2.2 = ok at hcut hr
      have HY := hY pre (line, ok)
      have hpre : pre ++ [(line, ok)] <+: L := ⟨lns left, by rw [hx, ← hr]; simp⟩
      gi_wp2_with (refine ⟨trivial, ?_⟩; gi_at_call 46; refine (callsIn_wide.2 (strings_Cut.calls s ⟨#[10]⟩ line left ok wr (hGI pre wr hJs) hcut)).mono ?_; rintro e w1 ⟨rfl, hb1⟩; have hg1 : wr.grownBy w1 (some b) := ⟨hb1.os, hb1.tape, hb1.output, hb1.size, fun k hk _ => hb1.block k hk⟩; have hJ1 := hJ pre wr w1 hJs hg1; have hb1w : Boxed w1 b 9 (.string s) := (hb1.block b hbw.lt).trans hbw; obtain ⟨fn, tmps, assign, body, hy, hR⟩ := HY w1 hJ1 hpre; dsimp only [lencs] at hy)
      refine hR.mono ?_
      rintro e W3 (⟨rfl, hJ3, hk3⟩ | ⟨rfl, hJx3⟩)
      · have hb3 : Boxed W3 b 9 (.string s) := hk3.trans hb1w
        have hc3 := hb3.cell
        have hf3 := hb3.frozen
        gi_wp2
        go_roundw
        case rel => exact ⟨pre ++ [(line, ok)], lns left, left, by omega, hb3.set _, rfl, by rw [hx, ← hr]; simp, hJ _ _ _ hJ3 (grownBy_setCell' W3 b _)⟩
        case measure =>
          have m1 : leftB b (W3.setCell ⟨b, 0, none⟩ (.string left)) = left.size := by unfold leftB; rw [(hb3.set (.string left)).cell]
          have m2 : leftB b wr = s.size := by unfold leftB; rw [hc]
          rw [m1, m2]
          exact hrl
      · gi_wp2
        refine bodyPost_ret (results_none rfl _ _ _) rfl ?_
        exact ⟨⟨_, rfl⟩, .inr ⟨pre ++ [(line, ok)], hpre, hJx3⟩⟩
/-- What 'lines' hands back captures a new box. -/
theorem lines_calls (text : ByteArray) (w : World) : CallsIn Fence.wide 4 Tryd.prog 45 #[.string text] w fun e w' => e = .returned (.func (.func 56) #[] #[.pointer (some ⟨w.heap.size, 0, none⟩)]) ∧ w' = w.alloc (.cells #[.string text] 9) := by
  refine callsIn_of_wp Tryd.func45 rfl trivial ?_ rfl
  simp only [Tryd.ntmps45, List.size_toArray, List.length_cons, List.length_nil, Nat.reduceAdd, Nat.reduceSub, Array.replicate_succ, Array.replicate_zero, List.push_toArray, List.append_toArray, List.nil_append, List.cons_append]
  gi_wp2
  go_ret
  exact ⟨rfl, rfl⟩
theorem lines_box (b : Nat) (text : ByteArray) (hs : text.size < 4294967281) (w : World) (hbx : Boxed w b 9 (.string text)) :
    SeqBox Fence.wide 4 Tryd.prog 56 #[.pointer (some ⟨b, 0, none⟩)] lencs b GI (lns text) w := by
  intro l J Jx W hW hG hJ hJx hY h0
  exact lines1_in l b (lns text) J Jx text hs rfl W hG hJ hJx ((hW.block b hbx.lt).trans hbx) hY h0
end Go.Proofs.YtkolhpacpbhceaaDoor.X
namespace Go.Proofs.YtkolhpacpbhceaaDoor.Pr
open Go.RowKit Go.Proofs.YtkolhpacpbhceaaDoorW.PrintWords Go.Proofs.YtkolhpacpbhceaaDoorW.PrintLast Go.Proofs.YtkolhpacpbhceaaDoorW.PrintMore Go.Proofs.YtkolhpacpbhceaaDoor.X
attribute [local go_sem] max2_int min2_int max_two min_two max_three min_three max_four min_four   -- for this text's walks alone
set_option linter.unusedVariables false
set_option linter.unusedSimpArgs false
def rod_Print.app (acc : List UInt8) (s : ByteArray) : Option (List UInt8) := if acc.length + s.size ≤ 140737488355328 then some (acc ++ s.data.toList) else none
def rod_Print.part (x : S39) : Option ByteArray := (strconv_Itoa.f x.f0).bind fun a => (strconv_Itoa.f x.f1).bind fun b => if a.size ≤ 100 ∧ b.size ≤ 100 then some (((a ++ ⟨#[32]⟩) ++ b) ++ ⟨#[10]⟩) else none
def rod_Print.l0 : Nat → List S39 → List UInt8 → Int → Option (ByteArray × Int)
 | 0, _, _, _ => none
 | k + 1, l, acc, i => if i < (l.length : Int) then (if 0 ≤ i then ((rod_Print.part (rd_T39 l i)).bind fun s => (rod_Print.app acc s).bind fun acc2 => rod_Print.l0 k l acc2 (wrap64 (i + 1))) else none) else some (⟨acc.toArray⟩, 0)
def rod_Print.f (k : Nat) (l0 : List (S39)) : Option (ByteArray × Int) := (rod_Check.f k l0).bind fun t => if t = 0 then rod_Print.l0 k l0 [] 0 else some (⟨#[]⟩, t)
set_option maxHeartbeats 8000000 in
set_option maxRecDepth 100000 in
theorem rod_Print.calls (k : Nat) (A0 : Option Addr) (c0 : Nat) (l0 : List (S39)) (r1 : ByteArray) (r2 : Int) (w : World) (hr0 : Kd.C k39 w A0 l0.length l0) (hc0 : l0.length ≤ c0) (hG : GI w) (h : rod_Print.f k l0 = some (r1, r2)) :
  Calls Tryd.prog 23 #[.slice A0 l0.length c0] w fun e w' => e = .returned (.tuple #[.string r1, .int .i64 r2]) ∧ Below w.heap.size w w' := by
 have HR0 := Aside0.mk hr0
 have HC0 := Aside0.mk hc0
 clear hr0 hc0
 have HG := Aside0.mk hG
 clear hG
 replace h := Option.bind_eq_some_iff.mp h
 obtain ⟨t, ht, h⟩ := h
 have H1 := Aside0.mk ht
 have H2 := Aside0.mk h
 clear ht h
 go_enter Tryd.func23, Tryd.ntmps23
 go_wp2_with (go_at_call 21; refine (rod_Check.calls k A0 c0 l0 t w HR0.out HC0.out H1.out).mono ?_)
 rintro e w1 ⟨rfl, hb1⟩
 have HB := Aside0.mk hb1
 clear hb1
 by_cases ht : t = 0
 case neg =>
  have H := H2.out
  rw [if_neg ht] at H
  have ht0 : (t == 0) = false := beq_eq_false_iff_ne.mpr ht
  have ht1 : (t != 0) = true := bne_iff_ne.mpr ht
  simp only [Option.some.injEq, Prod.mk.injEq] at H
  obtain ⟨rfl, rfl⟩ := H
  go_wp2
  go_ret2
  exact ⟨rfl, HB.out⟩
 case pos =>
  subst ht
  have H := H2.out
  rw [if_pos rfl] at H
  have H' := Aside0.mk H
  clear H H2
  have HBu := Aside0.mk (Lib.IsBuilderF.of (Lib.fresh_isBuilder 63 5 w1))
  have HB0 := HB
  have HB1 := HB0
  replace HB := Aside0.mk (below_alloc HB.out (.cells #[.pointer none, .slice none 0 0] 63))
  clear HB0
  go_wp2
  go_loopg [15] k (fun kq v15 w' => ∃ (x : Int) (acc : List UInt8), v15 = .int .i64 x ∧ Aside0 (rod_Print.l0 kq l0 acc x = some (r1, r2)) ∧ Aside0 (kq ≤ k) ∧ Aside0 (Lib.IsBuilderF 63 5 w1.heap.size w1.heap.size (Lib.byteCells acc) w') ∧ Aside0 (Below w.heap.size w w'))
  case atStart => exact ⟨0, [], rfl, H', ⟨Nat.le_refl _⟩, HBu, HB⟩
  case round =>
   clear H' HBu HB
   have HW1 : Aside0 (w.heap.size ≤ w1.heap.size) := ⟨HB1.out.size⟩
   obtain ⟨x, acc, rfl, HA, HK1, HBu, HB⟩ := hrel
   cases gk with
   | zero => exact absurd HA.out (by simp [rod_Print.l0])
   | succ k1 =>
    have H := HA.out
    clear HA
    simp only [rod_Print.l0] at H
    by_cases c2 : x < (l0.length : Int)
    ·
     rw [if_pos c2] at H
     have c2b : decide (x < (l0.length : Int)) = true := decide_eq_true c2
     by_cases c3 : 0 ≤ x
     ·
      rw [if_pos c3] at H
      have c3b : decide (0 ≤ x) = true := decide_eq_true c3
      obtain ⟨s, hs, H⟩ := Option.bind_eq_some_iff.mp H
      obtain ⟨acc2, ha, H⟩ := Option.bind_eq_some_iff.mp H
      obtain ⟨ta, hta, hs⟩ := Option.bind_eq_some_iff.mp hs
      obtain ⟨tb, htb, hs⟩ := Option.bind_eq_some_iff.mp hs
      by_cases hsz : ta.size ≤ 100 ∧ tb.size ≤ 100
      case neg => rw [if_neg hsz] at hs; cases hs
      rw [if_pos hsz] at hs
      obtain rfl := Option.some.inj hs
      unfold rod_Print.app at ha
      by_cases hln : acc.length + (((ta ++ ⟨#[32]⟩) ++ tb) ++ ⟨#[10]⟩ : ByteArray).size ≤ 140737488355328
      case neg => rw [if_neg hln] at ha; cases ha
      rw [if_pos hln] at ha
      obtain rfl := Option.some.inj ha
      have HLEN := Aside0.mk hln
      have HSZ := Aside0.mk hsz
      have H' := Aside0.mk H
      have HTA := Aside0.mk hta
      have HTB := Aside0.mk htb
      clear H hta htb hs ha hln hsz
      obtain ⟨ad1, e1, hy0, hy1⟩ := at_T39 HR0.out x c3 c2
      cases e1
      replace hy0 := (HB.out.cell (World.block_lt_of_cell? w _ hy0)).trans hy0
      replace hy1 := (HB.out.cell (World.block_lt_of_cell? w _ hy1)).trans hy1
      replace c3 := eq_true c3
      replace c2 := eq_true c2
      go_wp2_with (first | ((with_reducible refine gate_dst (N := 7) rfl ?_); refine box_event ?hg (N := 7) ?hd (cs := #[.int .i64 0, .int .i64 0]) (t := 39) ?hr ?_; (case hd => rfl); (case hg => rfl); (case hr => first | (go_simp; done) | (go_simp; rfl)); intro gs hgs w14 hbox hb; have BK := Aside0.mk hbox; have GS := Aside0.mk hgs; have Hb14 := Aside0.mk hb; have HBu14 := Aside0.mk (bld_below HBu.out hb); clear hbox hb hgs; have hcz0 : w14.cell? ⟨gs, 0, none⟩ = some (.int .i64 0) := (blk_cell BK.out 0).trans rfl; have hcz1 : w14.cell? ⟨gs, 1, none⟩ = some (.int .i64 0) := (blk_cell BK.out 1).trans rfl; have hfz0 := blk_frozen BK.out 0; have hfz1 := blk_frozen BK.out 1))
      have HbW : Aside0 (Below wr.heap.size wr ((w14.setCell ⟨gs, 0, none⟩ (.int .i64 (rd_T39 l0 x).f0)).setCell ⟨gs, 1, none⟩ (.int .i64 (rd_T39 l0 x).f1))) :=
       ⟨(Hb14.out.setCell (p := ⟨gs, 0, none⟩) (Nat.le_of_eq GS.out.symm) _).setCell (p := ⟨gs, 1, none⟩) (Nat.le_of_eq GS.out.symm) _⟩
      have HX : Aside0 (((w14.setCell ⟨gs, 0, none⟩ (.int .i64 (rd_T39 l0 x).f0)).setCell ⟨gs, 1, none⟩ (.int .i64 (rd_T39 l0 x).f1)).heap[gs]? = some (.cells #[.int .i64 (rd_T39 l0 x).f0, .int .i64 (rd_T39 l0 x).f1] 39 (0, 0))) :=
       ⟨blk_put (cs := #[.int .i64 (rd_T39 l0 x).f0, .int .i64 0]) (blk_put (cs := #[.int .i64 0, .int .i64 0]) BK.out 0 _ rfl) 1 _ rfl⟩
      generalize ((w14.setCell ⟨gs, 0, none⟩ (.int .i64 (rd_T39 l0 x).f0)).setCell ⟨gs, 1, none⟩ (.int .i64 (rd_T39 l0 x).f1)) = W at HbW HX ⊢
      have HBuW := Aside0.mk (bld_below HBu.out HbW.out)
      have HBW := Aside0.mk (below_step HB.out HbW.out)
      clear hcz0 hcz1 hfz0 hfz1 hy0 hy1 BK Hb14 HB HBu HbW HBu14
      have hz1 : (⟨#[32]⟩ : ByteArray).size = 1 := rfl
      have hz3 : (⟨#[10]⟩ : ByteArray).size = 1 := rfl
      have ha1 : ∀ w, (Op.stringOp .add ta ⟨#[32]⟩).run Tryd.prog w = .ok (.string (ta ++ ⟨#[32]⟩)) w := fun w => run_string_add_sum _ _ _ (by have := HSZ.out.1; rw [hz1]; omega)
      have ha2 : ∀ w, (Op.stringOp .add (ta ++ ⟨#[32]⟩) tb).run Tryd.prog w = .ok (.string ((ta ++ ⟨#[32]⟩) ++ tb)) w := fun w => run_string_add_sum _ _ _ (by have := HSZ.out; simp only [ByteArray.size_append]; rw [hz1]; omega)
      have ha3 : ∀ w, (Op.stringOp .add ((ta ++ ⟨#[32]⟩) ++ tb) ⟨#[10]⟩).run Tryd.prog w = .ok (.string (((ta ++ ⟨#[32]⟩) ++ tb) ++ ⟨#[10]⟩)) w := fun w => run_string_add_sum _ _ _ (by have := HSZ.out; simp only [ByteArray.size_append]; rw [hz1, hz3]; omega)
      refine start_ (n := 10) (S := fun w' => w'.cell? ⟨gs, 0, none⟩ = some (.int .i64 (rd_T39 l0 x).f0) ∧ w'.cell? ⟨gs, 1, none⟩ = some (.int .i64 (rd_T39 l0 x).f1) ∧ Lib.IsBuilderF 63 5 w1.heap.size w1.heap.size (Lib.byteCells acc) w' ∧ Below w.heap.size w w' ∧ GI w') (ds := [9]) #[false, false, false, false, false, false, false, false, false, false] (by kernel_rfl) rfl rfl ⟨(blk_cell HX.out 0).trans rfl, (blk_cell HX.out 1).trans rfl, HBuW.out, (below_drew1 HBW.out), (GI.below HG.out (below_drew1 HBW.out))⟩ (fun hHeld => ?_)
      generalize W.drew = Wd at hHeld ⊢
      refine pure_ (i := 0) (N := some 19) (v := ?_) (a' := ?_) #[true, false, false, false, false, false, false, false, false, false] rfl rfl (by kernel_rfl) (fun _ _ _ h => h) (Or.inl ⟨by rfl, ?_⟩) ?_ ?_
      rotate_left
      ·
       intro w'
       go_simp
       with_reducible rfl
      rotate_left
      ·
       simp only [Act.put, List.setIfInBounds_toArray, List.set_cons_zero, List.set_cons_succ, i64_w, i32_w]
       rfl
      refine pure_ (i := 4) (N := some 23) (v := ?_) (a' := ?_) #[true, false, false, false, true, false, false, false, false, false] rfl rfl (by kernel_rfl) (fun _ _ _ h => h) (Or.inl ⟨by rfl, ?_⟩) ?_ ?_
      rotate_left
      ·
       intro w'
       go_simp
       with_reducible rfl
      rotate_left
      ·
       simp only [Act.put, List.setIfInBounds_toArray, List.set_cons_zero, List.set_cons_succ, i64_w, i32_w]
       rfl
      refine take_ (i := 1) (N := some 20) (v := ?_) (a' := ?_) #[true, true, false, false, true, false, false, false, false, false] rfl rfl (by kernel_rfl) (fun _ _ _ h => h) (Or.inl ⟨by rfl, ?_⟩) hHeld ?_ ?_
      rotate_left
      ·
       rintro w' ⟨s0, s1, s2, s3, s4⟩
       go_simp
       with_reducible rfl
      rotate_left
      ·
       simp only [Act.put, List.setIfInBounds_toArray, List.set_cons_zero, List.set_cons_succ, i64_w, i32_w]
       rfl
      refine take_ (i := 5) (N := some 24) (v := ?_) (a' := ?_) #[true, true, false, false, true, true, false, false, false, false] rfl rfl (by kernel_rfl) (fun _ _ _ h => h) (Or.inl ⟨by rfl, ?_⟩) hHeld ?_ ?_
      rotate_left
      ·
       rintro w' ⟨s0, s1, s2, s3, s4⟩
       go_simp
       with_reducible rfl
      rotate_left
      ·
       simp only [Act.put, List.setIfInBounds_toArray, List.set_cons_zero, List.set_cons_succ, i64_w, i32_w]
       rfl
      refine one_ (i := 2) (N := some 21) #[true, true, true, false, true, true, false, false, false, false] rfl rfl (by kernel_rfl) (by decide) (fun K hK => ?_)
      refine goes_ Tryd.func43 (by kernel_rfl) rfl #[.int .i64 ((rd_T39 l0 x).f0)] (by rfl) rfl rfl (by simp only [List.map_toArray, List.map_cons, List.map_nil]; rfl) ?_
      with_reducible refine (strconv_Itoa.calls _ _ _ hHeld.2.2.2.2 HTA.out).mono ?_
      rintro e w3 ⟨rfl, hb3⟩
      refine ⟨_, rfl, ?_⟩
      refine hK.out _ _ ⟨((hb3.cell (World.block_lt_of_cell? _ _ (hHeld.1))).trans (hHeld.1)), ((hb3.cell (World.block_lt_of_cell? _ _ (hHeld.2.1))).trans (hHeld.2.1)), bld_below (hHeld.2.2.1) hb3, below_step (hHeld.2.2.2.1) hb3, GI.below (hHeld.2.2.2.2) hb3⟩ (fun hHeld => ?_)
      clear hK K
      refine norm_ (a' := ?_) ?_ ?_
      rotate_left
      ·
       show Act.put _ (some 21) _ = _
       simp only [Act.put, List.setIfInBounds_toArray, List.set_cons_zero, List.set_cons_succ, i64_w, i32_w]
       rfl
      refine pure_ (i := 3) (N := some 22) (v := ?_) (a' := ?_) #[true, true, true, true, true, true, false, false, false, false] rfl rfl (by kernel_rfl) (fun _ _ _ h => h) (Or.inl ⟨by rfl, ?_⟩) ?_ ?_
      rotate_left
      ·
       intro w'
       go_simp
       with_reducible rfl
      rotate_left
      ·
       simp only [Act.put, List.setIfInBounds_toArray, List.set_cons_zero, List.set_cons_succ, i64_w, i32_w]
       rfl
      refine one_ (i := 6) (N := some 25) #[true, true, true, true, true, true, true, false, false, false] rfl rfl (by kernel_rfl) (by decide) (fun K hK => ?_)
      refine goes_ Tryd.func43 (by kernel_rfl) rfl #[.int .i64 ((rd_T39 l0 x).f1)] (by rfl) rfl rfl (by simp only [List.map_toArray, List.map_cons, List.map_nil]; rfl) ?_
      with_reducible refine (strconv_Itoa.calls _ _ _ hHeld.2.2.2.2 HTB.out).mono ?_
      rintro e w3 ⟨rfl, hb3⟩
      refine ⟨_, rfl, ?_⟩
      refine hK.out _ _ ⟨((hb3.cell (World.block_lt_of_cell? _ _ (hHeld.1))).trans (hHeld.1)), ((hb3.cell (World.block_lt_of_cell? _ _ (hHeld.2.1))).trans (hHeld.2.1)), bld_below (hHeld.2.2.1) hb3, below_step (hHeld.2.2.2.1) hb3, GI.below (hHeld.2.2.2.2) hb3⟩ (fun hHeld => ?_)
      clear hK K
      refine norm_ (a' := ?_) ?_ ?_
      rotate_left
      ·
       show Act.put _ (some 25) _ = _
       simp only [Act.put, List.setIfInBounds_toArray, List.set_cons_zero, List.set_cons_succ, i64_w, i32_w]
       rfl
      refine pure_ (i := 7) (N := some 26) (v := ?_) (a' := ?_) #[true, true, true, true, true, true, true, true, false, false] rfl rfl (by kernel_rfl) (fun _ _ _ h => h) (Or.inl ⟨by rfl, ?_⟩) ?_ ?_
      rotate_left
      ·
       intro w'
       go_simp
       with_reducible rfl
      rotate_left
      ·
       simp only [Act.put, List.setIfInBounds_toArray, List.set_cons_zero, List.set_cons_succ, i64_w, i32_w]
       rfl
      refine pure_ (i := 8) (N := some 27) (v := ?_) (a' := ?_) #[true, true, true, true, true, true, true, true, true, false] rfl rfl (by kernel_rfl) (fun _ _ _ h => h) (Or.inl ⟨by rfl, ?_⟩) ?_ ?_
      rotate_left
      ·
       intro w'
       go_simp
       with_reducible rfl
      rotate_left
      ·
       simp only [Act.put, List.setIfInBounds_toArray, List.set_cons_zero, List.set_cons_succ, i64_w, i32_w]
       rfl
      refine last_ (i := 9) (N := some 28) #[true, true, true, true, true, true, true, true, true, true] rfl rfl (by kernel_rfl) (by decide) (fun K hK => ?_)
      refine goes_ Tryd.func42 (by kernel_rfl) rfl #[.pointer (some ⟨w1.heap.size, 0, none⟩), .string (((ta ++ ⟨#[32]⟩) ++ tb) ++ ⟨#[10]⟩)] (by rfl) rfl rfl (by simp only [List.map_toArray, List.map_cons, List.map_nil]; rfl) ?_
      with_reducible refine (writeBytes _ _ _ _ _ (hHeld.2.2.1) HLEN.out).mono ?_
      rintro e w3 ⟨⟨n3, rfl⟩, hbu3, hb3, hk3⟩
      have HBu2 := Aside0.mk hbu3
      have HB2 := Aside0.mk (below_mine (hHeld.2.2.2.1) hb3 HW1.out)
      clear hbu3 hb3 hk3
      refine ⟨_, rfl, ?_⟩
      refine hK.out _ _ ?_
      clear hK K
      refine norm_ (a' := ?_) ?_ ?_
      rotate_left
      ·
       show Act.put _ (some 28) _ = _
       simp only [Act.put, List.setIfInBounds_toArray, List.set_cons_zero, List.set_cons_succ, i64_w, i32_w]
       rfl
      refine done_ (by kernel_rfl) ?_
      clear ha1 ha2 ha3
      go_wp2
      go_roundg k1
      case measure => have := HK1.out; omega
      case rel => exact ⟨wrap64 (x + 1), _, rfl, H', ⟨by have := HK1.out; omega⟩, HBu2, HB2⟩
     ·
      rw [if_neg c3] at H
      cases H
    ·
     rw [if_neg c2] at H
     have c2b : decide (x < (l0.length : Int)) = false := decide_eq_false c2
     clear c2
     obtain ⟨rfl, rfl⟩ := Prod.mk.inj (Option.some.inj H)
     go_wp2_with (go_at_call 44; refine (Tryd.Builder_String_any_k _ _ acc _ HBu.out (bld_size HBu.out)).mono ?_)
     intro e w9 he hq1 hb9 hq2
     subst he
     go_wp2
     go_ret2
     exact ⟨rfl, below_mine HB.out hb9 HW1.out⟩
def rod_number_1.f (a0 : Int) : Option (Bool) := if a0 ≥ 48 then (some (decide (a0 ≤ 57))) else (some false)
set_option maxHeartbeats 8000000 in
set_option maxRecDepth 100000 in
theorem rod_number_1.calls (a0 : Int) (r : Bool) (w : World) (h : rod_number_1.f a0 = some r) :
  Calls Tryd.prog 58 #[.int .u8 a0] w fun e w' => e = .returned (.bool r) ∧ Drawn0 w w' := by
 have H : (if a0 ≥ 48 then (some (decide (a0 ≤ 57))) else (some false)) = some r := h
 clear h
 by_cases c2 : a0 ≥ 48
 ·
  rw [if_pos c2] at H
  have c2b0 : decide (48 ≤ a0) = true := decide_eq_true c2
  clear c2
  obtain rfl := Option.some.inj H
  go_enter Tryd.func58, Tryd.ntmps58
  go_wp2
  go_ret
  exact ⟨by first | rfl | (simp; done) | (simp [*]; done), by repeat (first | exact Drawn0.refl _ | apply Drawn0.step)⟩
 ·
  rw [if_neg c2] at H
  have c2b0 : decide (48 ≤ a0) = false := decide_eq_false c2
  clear c2
  obtain rfl := Option.some.inj H
  go_enter Tryd.func58, Tryd.ntmps58
  go_wp2
  go_ret
  exact ⟨by first | rfl | (simp; done) | (simp [*]; done), by repeat (first | exact Drawn0.refl _ | apply Drawn0.step)⟩
mutual
def rod_number.j0 : Nat → ByteArray → Bool → Option (Int × Bool)
 | 0, _, _ => none
 | k + 1, x0, x24 => if x24 = true then (some (0, false)) else (rod_number.l0 k x0 0 (x0.size : Int) 0)
def rod_number.l0 : Nat → ByteArray → Int → Int → Int → Option (Int × Bool)
 | 0, _, _, _, _ => none
 | k + 1, x0, x5, x26, x27 => if x27 < x26 then (if 0 ≤ x27 then (if x27 < (x0.size : Int) then ((rod_number_1.f (bt x0 x27)).bind fun t168 => (if t168 = true then (rod_number.l0 k x0 (wrap64 ((wrap64 (10 * x5)) + (((bt x0 x27) - 48) % 256))) x26 (wrap64 (x27 + 1))) else (some (0, false)))) else (none)) else (none)) else (some (x5, true))
end
def rod_number.f (k : Nat) (a0 : ByteArray) : Option (Int × Bool) := if (a0.size : Int) < 1 then (rod_number.j0 k a0 true) else (if (a0.size : Int) > 10 then (rod_number.j0 k a0 true) else (if (a0.size : Int) > 1 then (if 0 < (a0.size : Int) then (rod_number.j0 k a0 ((bt a0 0) == 48)) else (none)) else (rod_number.j0 k a0 false)))
set_option maxHeartbeats 8000000 in
set_option maxRecDepth 100000 in
theorem rod_number.calls (k : Nat) (a0 : ByteArray) (r1 : Int) (r2 : Bool) (w : World) (h : rod_number.f k a0 = some (r1, r2)) :
  Calls Tryd.prog 47 #[.string a0] w fun e w' => e = .returned (.tuple #[.int .i64 r1, .bool r2]) ∧ Drawn0 w w' := by
 have H : (if (a0.size : Int) < 1 then (rod_number.j0 k a0 true) else (if (a0.size : Int) > 10 then (rod_number.j0 k a0 true) else (if (a0.size : Int) > 1 then (if 0 < (a0.size : Int) then (rod_number.j0 k a0 ((bt a0 0) == 48)) else (none)) else (rod_number.j0 k a0 false)))) = some (r1, r2) := h
 clear h
 have HC2 := Aside0.mk H
 clear H
 go_enter Tryd.func47, Tryd.ntmps47
 go_upto_region 2 with (fail)
 go_cut [24] (fun v24 wc => ∃ (kq : Nat) (x24_1 : Bool), v24 = .bool x24_1 ∧ Aside0 (rod_number.j0 kq a0 x24_1 = some (r1, r2)) ∧ Aside0 (kq ≤ k) ∧ Drawn0 w wc)
 case first =>
  have H := HC2.out
  clear HC2
  by_cases c3 : (a0.size : Int) < 1
  ·
   rw [if_pos c3] at H
   have c3b0 : decide ((a0.size : Int) < 1) = true := decide_eq_true c3
   have c3b1 : decide (a0.size < 1) = true := decide_eq_true (by omega)
   clear c3
   (first | rw [c3b0] | (simp only [i64_w, i32_w]; rw [c3b0]) | skip)
   have H' := Aside0.mk H
   clear H
   go_wp2
   go_meet
   case rel => exact ⟨_, (true), (by first | rfl | (simp; done) | (simp [*]; done)), H', ⟨by first | omega | exact Nat.le_refl _⟩, by repeat (first | exact Drawn0.refl _ | apply Drawn0.step)⟩
  ·
   rw [if_neg c3] at H
   have c3b0 : decide ((a0.size : Int) < 1) = false := decide_eq_false c3
   have c3b1 : decide (a0.size < 1) = false := decide_eq_false (by omega)
   clear c3
   (first | rw [c3b0] | (simp only [i64_w, i32_w]; rw [c3b0]) | skip)
   by_cases c4 : (a0.size : Int) > 10
   ·
    rw [if_pos c4] at H
    have c4b0 : decide (10 < (a0.size : Int)) = true := decide_eq_true c4
    have c4b1 : decide (10 < a0.size) = true := decide_eq_true (by omega)
    clear c4
    have H' := Aside0.mk H
    clear H
    go_wp2
    go_meet
    case rel => exact ⟨_, (true), (by first | rfl | (simp; done) | (simp [*]; done)), H', ⟨by first | omega | exact Nat.le_refl _⟩, by repeat (first | exact Drawn0.refl _ | apply Drawn0.step)⟩
   ·
    rw [if_neg c4] at H
    have c4b0 : decide (10 < (a0.size : Int)) = false := decide_eq_false c4
    have c4b1 : decide (10 < a0.size) = false := decide_eq_false (by omega)
    clear c4
    by_cases c5 : (a0.size : Int) > 1
    ·
     rw [if_pos c5] at H
     have c5b0 : decide (1 < (a0.size : Int)) = true := decide_eq_true c5
     have c5b1 : decide (1 < a0.size) = true := decide_eq_true (by omega)
     clear c5
     by_cases c6 : 0 < (a0.size : Int)
     ·
      rw [if_pos c6] at H
      have c6b0 : decide (0 < (a0.size : Int)) = true := decide_eq_true c6
      have c6b1 : decide (0 < a0.size) = true := decide_eq_true (by omega)
      clear c6
      have H' := Aside0.mk H
      clear H
      have p7 : 0 ≤ (0 : Int) := (by omega)
      have q7 : 0 < a0.size := (by have : (0 : Int) < (a0.size : Int) := of_decide_eq_true (by first | (with_reducible assumption) | assumption); omega)
      have hx7 : ∀ h : 0 < a0.size, ((a0[0]'h).toNat : Int) = bt a0 0 := bt_at a0 0
      clear p7
      have qi7 : (0 < (a0.size : Int)) = True := eq_true (of_decide_eq_true (by first | (with_reducible assumption) | assumption))
      replace q7 := eq_true q7
      go_wp2
      go_meet
      case rel => exact ⟨_, (((bt a0 0) == 48)), (by first | rfl | (simp; done) | (simp [*]; done)), H', ⟨by first | omega | exact Nat.le_refl _⟩, by repeat (first | exact Drawn0.refl _ | apply Drawn0.step)⟩
     ·
      rw [if_neg c6] at H
      exact absurd H (by simp)
    ·
     rw [if_neg c5] at H
     have c5b0 : decide (1 < (a0.size : Int)) = false := decide_eq_false c5
     have c5b1 : decide (1 < a0.size) = false := decide_eq_false (by omega)
     clear c5
     have H' := Aside0.mk H
     clear H
     go_wp2
     go_meet
     case rel => exact ⟨_, (false), (by first | rfl | (simp; done) | (simp [*]; done)), H', ⟨by first | omega | exact Nat.le_refl _⟩, by repeat (first | exact Drawn0.refl _ | apply Drawn0.step)⟩
 case rest =>
  clear HC2
  try clear p2
  try clear c3
  try clear c3b0
  try clear c3b1
  try clear c4
  try clear c4b0
  try clear c4b1
  try clear c5
  try clear c5b0
  try clear c5b1
  try clear c6
  try clear c6b0
  try clear c6b1
  try clear p7
  try clear q7
  try clear hx7
  try clear qi7
  try clear p7
  try clear q7
  obtain ⟨kq, x24_1, rfl, HA, HJ1, ⟨mc1, rfl⟩⟩ := hcut
  cases kq with
  | zero => exact absurd HA.out (by simp [rod_number.j0])
  | succ kj1 =>
   have H := HA.out
   clear HA
   simp only [rod_number.j0] at H
   by_cases c8 : x24_1 = true
   ·
    subst c8
    have H1 : (some (0, false)) = some (r1, r2) := by rw [if_pos rfl] at H; exact H
    clear H
    have H := H1
    clear H1
    simp only [Option.some.injEq, Prod.mk.injEq] at H
    obtain ⟨rfl, rfl⟩ := H
    go_wp2
    go_ret2
    exact ⟨by first | rfl | (simp; done) | (simp [*]; done), by repeat (first | exact Drawn0.refl _ | apply Drawn0.step)⟩
   ·
    replace c8 := Bool.eq_false_iff.mpr c8
    subst c8
    have H1 : (rod_number.l0 kj1 a0 0 (a0.size : Int) 0) = some (r1, r2) := by rw [if_neg (show ¬ (false = true) by decide)] at H; exact H
    clear H
    have H := H1
    clear H1
    have H' := Aside0.mk H
    clear H
    go_wp2
    go_loopg [5, 27] kj1 (fun kq v5 v27 w' => ∃ (x5_2 : Int) (x27_2 : Int), v5 = .int .i64 x5_2 ∧ v27 = .int .i64 x27_2 ∧ Aside0 (rod_number.l0 kq a0 x5_2 (a0.size : Int) x27_2 = some (r1, r2)) ∧ Aside0 (kq ≤ kj1) ∧ Drawn0 w w')
    case atStart => exact ⟨(0), (0), (by first | rfl | (simp; done) | (simp [*]; done)), (by first | rfl | (simp; done) | (simp [*]; done)), H', ⟨Nat.le_refl _⟩, by repeat (first | exact Drawn0.refl _ | apply Drawn0.step)⟩
    case round =>
     clear H'
     try clear c1
     try clear p2
     try clear c3
     try clear c3b0
     try clear c3b1
     try clear c4
     try clear c4b0
     try clear c4b1
     try clear c5
     try clear c5b0
     try clear c5b1
     try clear c6
     try clear c6b0
     try clear c6b1
     try clear p7
     try clear q7
     try clear hx7
     try clear qi7
     try clear c8
     try clear p2
     try clear p7
     try clear q7
     obtain ⟨x5_2, x27_2, rfl, rfl, HA, HK2, ⟨m2, rfl⟩⟩ := hrel
     cases gk with
     | zero => exact absurd HA.out (by simp [rod_number.l0])
     | succ k2 =>
      have H := HA.out
      clear HA
      simp only [rod_number.l0] at H
      by_cases c9 : x27_2 < (a0.size : Int)
      ·
       rw [if_pos c9] at H
       have c9b0 : decide (x27_2 < (a0.size : Int)) = true := decide_eq_true c9
       clear c9
       by_cases c10 : 0 ≤ x27_2
       ·
        rw [if_pos c10] at H
        have c10b0 : decide (0 ≤ x27_2) = true := decide_eq_true c10
        clear c10
        by_cases c11 : x27_2 < (a0.size : Int)
        ·
         rw [if_pos c11] at H
         have c11b0 : decide (x27_2 < (a0.size : Int)) = true := decide_eq_true c11
         clear c11
         replace H := Option.bind_eq_some_iff.mp H
         obtain ⟨t168, A130, H⟩ := H
         replace H : (if t168 = true then (rod_number.l0 k2 a0 (wrap64 ((wrap64 (10 * x5_2)) + (((bt a0 x27_2) - 48) % 256))) (a0.size : Int) (wrap64 (x27_2 + 1))) else (some (0, false))) = some (r1, r2) := H
         have A13 := Aside0.mk A130
         clear A130
         by_cases c14 : t168 = true
         ·
          subst c14
          have H1 : (rod_number.l0 k2 a0 (wrap64 ((wrap64 (10 * x5_2)) + (((bt a0 x27_2) - 48) % 256))) (a0.size : Int) (wrap64 (x27_2 + 1))) = some (r1, r2) := by rw [if_pos rfl] at H; exact H
          clear H
          have H := H1
          clear H1
          have H' := Aside0.mk H
          clear H
          have p12 : 0 ≤ (x27_2 : Int) := of_decide_eq_true (by first | (with_reducible assumption) | assumption)
          have q12 : x27_2 < (a0.size : Int) := of_decide_eq_true (by first | (with_reducible assumption) | assumption)
          have hx12 := bt_at a0 x27_2
          replace p12 := eq_true p12
          replace q12 := eq_true q12
          go_wp2_with (first | (go_at_call 58; (with_reducible refine (rod_number_1.calls (bt a0 x27_2) true _ A13.out).mono ?_); rintro e w' ⟨rfl, ⟨nd, rfl⟩⟩; have p15 : 0 ≤ (x27_2 : Int) := of_decide_eq_true (by first | (with_reducible assumption) | assumption); have q15 : x27_2 < (a0.size : Int) := of_decide_eq_true (by first | (with_reducible assumption) | assumption); have hx15 := bt_at a0 x27_2; replace p15 := eq_true p15; replace q15 := eq_true q15))
          go_roundg k2
          case measure => have := HJ1.out; have := HK2.out; omega
          case rel => exact ⟨(wrap64 ((wrap64 (10 * x5_2)) + (((bt a0 x27_2) - 48) % 256))), (wrap64 (x27_2 + 1)), (by first | rfl | (simp; done) | (simp [*]; done)), (by first | rfl | (simp; done) | (simp [*]; done)), H', ⟨by have := HJ1.out; have := HK2.out; omega⟩, by repeat (first | exact Drawn0.refl _ | apply Drawn0.step)⟩
         ·
          replace c14 := Bool.eq_false_iff.mpr c14
          subst c14
          have H1 : (some (0, false)) = some (r1, r2) := by rw [if_neg (show ¬ (false = true) by decide)] at H; exact H
          clear H
          have H := H1
          clear H1
          simp only [Option.some.injEq, Prod.mk.injEq] at H
          obtain ⟨rfl, rfl⟩ := H
          have p12 : 0 ≤ (x27_2 : Int) := of_decide_eq_true (by first | (with_reducible assumption) | assumption)
          have q12 : x27_2 < (a0.size : Int) := of_decide_eq_true (by first | (with_reducible assumption) | assumption)
          have hx12 := bt_at a0 x27_2
          replace p12 := eq_true p12
          replace q12 := eq_true q12
          go_wp2_with (first | (go_at_call 58; (with_reducible refine (rod_number_1.calls (bt a0 x27_2) false _ A13.out).mono ?_); rintro e w' ⟨rfl, ⟨nd, rfl⟩⟩))
          go_ret2
          exact ⟨by first | rfl | (simp; done) | (simp [*]; done), by repeat (first | exact Drawn0.refl _ | apply Drawn0.step)⟩
        ·
         rw [if_neg c11] at H
         exact absurd H (by simp)
       ·
        rw [if_neg c10] at H
        exact absurd H (by simp)
      ·
       rw [if_neg c9] at H
       have c9b0 : decide (x27_2 < (a0.size : Int)) = false := decide_eq_false c9
       clear c9
       simp only [Option.some.injEq, Prod.mk.injEq] at H
       obtain ⟨rfl, rfl⟩ := H
       go_wp2
       go_ret2
       exact ⟨by first | rfl | (simp; done) | (simp [*]; done), by repeat (first | exact Drawn0.refl _ | apply Drawn0.step)⟩
def rod_Parse.line (k : Nat) (x : ByteArray × Bool) : Option (Option S39) := (strings_Cut.f x.1 ⟨#[32]⟩).bind fun c => (rod_number.f k c.1).bind fun h => (rod_number.f k c.2.1).bind fun v =>
 if x.2 = true ∧ h.2 = true ∧ v.2 = true then some (some ⟨h.1, v.1⟩) else some none
def rod_Parse.rows (k : Nat) : List (ByteArray × Bool) → List S39 → Option (List S39 × Int × Int)
 | [], acc => (rod_Check.f k acc).bind fun c => if c = 0 then some (acc, 0, 0) else some ([], 0, c)
 | x :: r, acc => if acc.length < 4294967296 then (rod_Parse.line k x).bind fun y => match y with
  | none => some ([], (acc.length : Int) + 1, 3)
  | some g => rod_Parse.rows k r (acc ++ [g]) else none
def rod_Parse.f (k : Nat) (a0 : ByteArray) : Option (List S39 × Int × Int) := if (a0.size : Int) > 4096 then some ([], 0, 8) else rod_Parse.rows k (lns a0) []
def flat39 (l : List S39) : List Value := l.flatMap fun x => [Value.int .i64 x.f0, Value.int .i64 x.f1]
theorem flat39_len (l : List S39) : (flat39 l).length = l.length * 2 := by
 induction l with
 | nil => rfl
 | cons x r ih => show (_ :: _ :: flat39 r).length = _; simp only [List.length_cons, ih]; omega
theorem flat39_get (ys : List S39) : ∀ (j : Nat) (p : S39), ys[j]? = some p → ((flat39 ys).drop (j * 2)).take 2 = [.int .i64 p.f0, .int .i64 p.f1] := by
 induction ys with
 | nil => intro j p hp; simp at hp
 | cons y r ih =>
  intro j p hp
  cases j with
  | zero => obtain rfl := Option.some.inj hp; rfl
  | succ j =>
   have := ih j p (by simpa using hp)
   rw [show (j + 1) * 2 = j * 2 + 1 + 1 from by omega]
   exact this
theorem own_R39 {w : World} {base : Nat} {v : Value} {xs : List S39} (h : w.ownsRow base 39 2 v xs.length (flat39 xs)) : Kd.R k39 39 w base (fun _ => True) v xs :=
 ⟨fun _ _ => trivial, flat39 xs, h, flat39_len xs, fun j p hp => by
  have e := flat39_get xs j p hp
  show k39.M _ _ _ p (((flat39 xs).drop (j * 2)).take 2)
  rw [e]
  exact k39_mkM _ _ _ p⟩
section
attribute [local go_sem] Oper.semAt_some
/-- What stands between two rounds. -/
def rod_Parse.I (k : Nat) (a0 : ByteArray) (r : List S39 × Int × Int) (w : World) (pre : List (ByteArray × Bool)) (W : World) : Prop :=
 ∃ (acc : List S39) (v : Value) (rest : List (ByteArray × Bool)), lns a0 = pre ++ rest ∧ rod_Parse.rows k rest acc = some r ∧ Boxed W (w.heap.size + 3) 22 v ∧ Boxed W (w.heap.size + 4) 3 (.int .i64 (acc.length : Int)) ∧ W.ownsRow (w.heap.size + 6) 39 2 v acc.length (flat39 acc) ∧
  (Boxed W w.heap.size 22 (.slice none 0 0) ∧ Boxed W (w.heap.size + 1) 3 (.int .i64 0) ∧ Boxed W (w.heap.size + 2) 27 (.int .i64 0)) ∧ Below w.heap.size w W ∧ w.heap.size + 6 ≤ W.heap.size
def rod_Parse.Ix (r : List S39 × Int × Int) (w : World) (pre : List (ByteArray × Bool)) (W : World) : Prop :=
 r.1 = [] ∧ (Boxed W w.heap.size 22 (.slice none 0 0) ∧ Boxed W (w.heap.size + 1) 3 (.int .i64 r.2.1) ∧ Boxed W (w.heap.size + 2) 27 (.int .i64 r.2.2)) ∧ Below w.heap.size w W
theorem box_turn {W W' : World} {row : Option Nat} {bt B k : Nat} {t : TypeId} {v : Value} (h : Boxed W k t v) (hg : W.grownBy W' row) (hr : ∀ r, row = some r → r = bt ∨ (B ≤ r ∧ ∃ o : Obj, W.heap[r]? = some o ∧ o.isCells = false)) (h1 : k ≠ bt) (h2 : k < B) : Boxed W' k t v :=
 h.kept hg (fun e => by rcases hr k e.symm with h3 | h3 <;> omega)
theorem own_turn {W W' : World} {row : Option Nat} {bt B : Nat} {v : Value} {n : Nat} {xs : List Value} (h : W.ownsRow B 39 2 v n xs) (hg : W.grownBy W' row) (hr : ∀ r, row = some r → r = bt ∨ (B ≤ r ∧ ∃ o : Obj, W.heap[r]? = some o ∧ o.isCells = false)) (h1 : bt < B) : W'.ownsRow B 39 2 v n xs := by
 refine own_other h hg ?_
 rcases h.2 with ⟨rfl, _⟩ | ⟨g, cap, cur, rfl, hb, hh, _⟩
 ·
  exact .inl rfl
 ·
  refine .inr fun e => ?_
  rcases hr g e.symm with h3 | ⟨_, o, ho, hc⟩
  ·
   omega
  ·
   rw [hh] at ho; cases ho; cases hc
theorem box_facts {W w1 : World} {b : Nat} {t : TypeId} {v : Value} (h : Boxed W b t v) (hb : Below W.heap.size W w1) : w1.cell? ⟨b, 0, none⟩ = some v ∧ w1.frozen? ⟨b, 0, none⟩ = false :=
 have k : Boxed w1 b t v := (hb.block b h.lt).trans h
 ⟨k.cell, k.frozen⟩
theorem rod_Parse.failed {w W w1 : World} {B : Nat} (n : Int) (xs : List (ByteArray × Bool)) (hB : Below w.heap.size w W) (hb1 : Below W.heap.size W w1) (hBw : w.heap.size + 6 ≤ B)
  (y0 : Boxed W w.heap.size 22 (.slice none 0 0)) (y1 : Boxed W (w.heap.size + 1) 3 (.int .i64 0)) (y2 : Boxed W (w.heap.size + 2) 27 (.int .i64 0)) :
  KeepsFrom B W ((((w1.setCell ⟨w.heap.size, 0, none⟩ (.slice none 0 0)).setCell ⟨w.heap.size + 1, 0, none⟩ (.int .i64 n)).setCell ⟨w.heap.size + 1 + 1, 0, none⟩ (.int .i64 3)).drew) ∧
  rod_Parse.Ix ([], n, 3) w xs ((((w1.setCell ⟨w.heap.size, 0, none⟩ (.slice none 0 0)).setCell ⟨w.heap.size + 1, 0, none⟩ (.int .i64 n)).setCell ⟨w.heap.size + 1 + 1, 0, none⟩ (.int .i64 3)).drew) := by
 have b0 : Boxed w1 w.heap.size 22 (.slice none 0 0) := (hb1.block _ y0.lt).trans y0
 have b1 : Boxed w1 (w.heap.size + 1) 3 (.int .i64 0) := (hb1.block _ y1.lt).trans y1
 have b2 : Boxed w1 (w.heap.size + 2) 27 (.int .i64 0) := (hb1.block _ y2.lt).trans y2
 refine ⟨⟨?_, fun k o hk ho hc => ?_⟩, rfl, ⟨?_, ?_, ?_⟩, ?_⟩
 ·
  have := hb1.size
  simpa using this
 ·
  have h1 := (hb1.block k (Array.getElem?_eq_some_iff.1 ho).1).trans ho
  refine (Below.heap_setCell _ _ _ k (by show k ≠ w.heap.size + 1 + 1; omega)).trans ((Below.heap_setCell _ _ _ k (by show k ≠ w.heap.size + 1; omega)).trans ((Below.heap_setCell _ _ _ k (by show k ≠ w.heap.size; omega)).trans h1))
 ·
  exact ((b0.set (.slice none 0 0)).other (by omega) _).other (by omega) _
 ·
  exact ((b1.other (by omega) _).set (.int .i64 n)).other (by omega) _
 ·
  exact ((b2.other (by omega) _).other (by omega) _).set (.int .i64 3)
 ·
  exact ((((below_step hB hb1).setCell (p := ⟨w.heap.size, 0, none⟩) (Nat.le_refl _) _).setCell (p := ⟨w.heap.size + 1, 0, none⟩) (by show w.heap.size ≤ w.heap.size + 1; omega) _).setCell (p := ⟨w.heap.size + 1 + 1, 0, none⟩) (by show w.heap.size ≤ w.heap.size + 1 + 1; omega) _).drew
theorem flat39_snoc (acc : List S39) (g : S39) : flat39 (acc ++ [g]) = flat39 acc ++ [.int .i64 g.f0, .int .i64 g.f1] := by simp [flat39]
theorem box_grown {W w3 w4 : World} {tmp : Obj} {base b : Nat} {t : TypeId} {u v : Value} {n : Nat} {xs : List Value} (h : Boxed W b t u) (h3 : Below W.heap.size W w3) (ht : t ≠ 39) (ho : w3.ownsRow base 39 2 v n xs) (hg : (w3.alloc tmp).grownBy w4 v.ownBlock) : Boxed w4 b t u :=
 have k : Boxed w3 b t u := (h3.block b h.lt).trans h
 (k.alloc tmp).kept hg (k.not_row ht ho)
theorem rod_Parse.went {k : Nat} {a0 : ByteArray} {r : List S39 × Int × Int} {w W w3 w4 : World} {B : Nat} {acc : List S39} {v v' : Value} {g : S39} {pre more : List (ByteArray × Bool)} {x : ByteArray × Bool} {tmp : Obj}
  (hl : lns a0 = (pre ++ [x]) ++ more) (hq : rod_Parse.rows k more (acc ++ [g]) = some r) (hB : Below w.heap.size w W) (h3 : Below W.heap.size W w3)
  (hv : Boxed W (w.heap.size + 3) 22 v) (ho : W.ownsRow (w.heap.size + 6) 39 2 v acc.length (flat39 acc)) (hbt : w.heap.size + 5 < W.heap.size) (y4 : Boxed W (w.heap.size + 4) 3 (.int .i64 ((acc.length : Int) + 1)))
  (y0 : Boxed W w.heap.size 22 (.slice none 0 0)) (y1 : Boxed W (w.heap.size + 1) 3 (.int .i64 0)) (y2 : Boxed W (w.heap.size + 2) 27 (.int .i64 0))
  (hown' : w4.ownsRow (w.heap.size + 6) 39 2 v' (acc.length + 1) (flat39 acc ++ [.int .i64 g.f0, .int .i64 g.f1])) (hgrow : (w3.alloc tmp).grownBy w4 v.ownBlock) :
  KeepsFrom B W (w4.setCell ⟨w.heap.size + 3, 0, none⟩ v') ∧ (w4.setCell ⟨w.heap.size + 3, 0, none⟩ v').heap[w.heap.size + 5]? = W.heap[w.heap.size + 5]? ∧ rod_Parse.I k a0 r w (pre ++ [x]) (w4.setCell ⟨w.heap.size + 3, 0, none⟩ v') := by
 have ho3 : w3.ownsRow (w.heap.size + 6) 39 2 v acc.length (flat39 acc) := pw_own_below ho h3
 have hv3 : Boxed w3 (w.heap.size + 3) 22 v := (h3.block _ hv.lt).trans hv
 have hw3 : Below w.heap.size w w3 := below_step hB h3
 obtain ⟨hv4, hv5, _, hk, hb⟩ := hv3.appended (n₀ := w.heap.size) (by decide) (own_weaken ho3 (by omega)) hw3.size (by omega) (own_weaken hown' (by omega)) hgrow
 have hr5 : (w4.setCell ⟨w.heap.size + 3, 0, none⟩ v').ownsRow (w.heap.size + 6) 39 2 v' (acc.length + 1) (flat39 acc ++ [.int .i64 g.f0, .int .i64 g.f1]) := hown'.kept (grownBy_setCell' w4 _ v') (.inr (hv4.not_row (by decide) hown').symm)
 refine ⟨KeepsFrom.trans ⟨h3.size, fun i o _ hi _ => (h3.block i (Array.getElem?_eq_some_iff.1 hi).1).trans hi⟩ (hk.from B), ?_, acc ++ [g], v', more, hl, hq, hv5, ?_, ?_, ⟨?_, ?_, ?_⟩, hw3.trans hb, ?_⟩
 ·
  refine (Below.heap_setCell _ _ _ _ (by show w.heap.size + 5 ≠ w.heap.size + 3; omega)).trans ?_
  have h4 : w.heap.size + 5 < w3.heap.size := Nat.lt_of_lt_of_le hbt h3.size
  refine (hgrow.block _ (by rw [World.size_alloc]; omega) (fun e => ?_)).trans ((Below.heap_alloc w3 tmp _ h4).trans (h3.block _ hbt))
  have := own_base ho3 _ e.symm
  omega
 ·
  have e : ((acc ++ [g]).length : Int) = (acc.length : Int) + 1 := by simp
  rw [e]
  exact (box_grown y4 h3 (by decide) ho3 hgrow).other (by omega) _
 ·
  rw [flat39_snoc, List.length_append]; exact hr5
 ·
  exact (box_grown y0 h3 (by decide) ho3 hgrow).other (by omega) _
 ·
  exact (box_grown y1 h3 (by decide) ho3 hgrow).other (by omega) _
 ·
  exact (box_grown y2 h3 (by decide) ho3 hgrow).other (by omega) _
 ·
  have e1 := h3.size
  have e2 := hk.size
  omega
theorem two_cells (w : World) (a b : Value) (t : TypeId) : ∀ (j : Nat) (u : Value), [a, b][j]? = some u → (w.alloc (.cells #[a, b] t)).cell? ((⟨w.heap.size, 0, none⟩ : Addr).add j) = some u := by
 intro j u hj
 rw [Addr.add_lit, Nat.zero_add, World.cell?_alloc_at (w := w) _ _ w.heap.size j rfl]
 simpa using hj
theorem results_boxes {W : World} {tmps : Array Value} {g1 g2 g3 : Nat} {v1 v2 v3 : Value} (h1 : tmps.getD 2 undef = .pointer (some ⟨g1, 0, none⟩)) (h2 : tmps.getD 3 undef = .pointer (some ⟨g2, 0, none⟩)) (h3 : tmps.getD 4 undef = .pointer (some ⟨g3, 0, none⟩))
  (b1 : Boxed W g1 22 v1) (b2 : Boxed W g2 3 v2) (b3 : Boxed W g3 27 v3) : (results Tryd.f25 tmps).run Tryd.prog W = .ok (.tuple #[v1, v2, v3]) W := by
 have a22 : ∀ W : World, (isAgg 22).run Tryd.prog W = .ok false W := fun W => by kernel_rfl
 have a3 : ∀ W : World, (isAgg 3).run Tryd.prog W = .ok false W := fun W => by kernel_rfl
 have a27 : ∀ W : World, (isAgg 27).run Tryd.prog W = .ok false W := fun W => by kernel_rfl
 have c1 := b1.cell
 have c2 := b2.cell
 have c3 := b3.cell
 have h1' : tmps[2]?.getD undef = .pointer (some ⟨g1, 0, none⟩) := by simpa using h1
 have h2' : tmps[3]?.getD undef = .pointer (some ⟨g2, 0, none⟩) := by simpa using h2
 have h3' : tmps[4]?.getD undef = .pointer (some ⟨g3, 0, none⟩) := by simpa using h3
 unfold results
 rw [show Tryd.f25.results = [ResultVar.cell 2 22, ResultVar.cell 3 3, ResultVar.cell 4 27].toArray from rfl, List.mapM_toArray]
 simp only [Sem.run_bind, Sem.run_map]
 simp [List.mapM_cons, h1', h2', h3', asAddr, loadVar, a22, a3, a27, c1, c2, c3]
theorem rod_Parse.leave {n : Nat} {w W : World} {D : Nat} {v1 : Value} {r2 r3 : Int} {tmps : Array Value} {xs : List S39} (hK : W.heap[D]? = some (.deferred (some []))) (hD : w.heap.size + 6 ≤ D)
  (y0 : Boxed W w.heap.size 22 v1) (y1 : Boxed W (w.heap.size + 1) 3 (.int .i64 r2)) (y2 : Boxed W (w.heap.size + 2) 27 (.int .i64 r3)) (hB : Below w.heap.size w W) (hrow : W.ownsRow (w.heap.size + 6) 39 2 v1 xs.length (flat39 xs))
  (t2 : tmps.getD 2 undef = .pointer (some ⟨w.heap.size, 0, none⟩)) (t3 : tmps.getD 3 undef = .pointer (some ⟨w.heap.size + 1, 0, none⟩)) (t4 : tmps.getD 4 undef = .pointer (some ⟨w.heap.size + 1 + 1, 0, none⟩)) :
  LeavesInM Fence.wide n Tryd.prog Tryd.f25 tmps (fun e w' => ∃ v0_, e = .returned (.tuple #[v0_, .int .i64 r2, .int .i64 r3]) ∧ Kd.R k39 39 w' w.heap.size (fun _ => True) v0_ xs ∧ Below w.heap.size w w') [{ target := .collected D, args := #[] }] .returning W := by
 have hg := grownBy_putObj' W D (.deferred none)
 have ne : ∀ b, b < w.heap.size + 6 → some b ≠ some D := fun b hb e => by have := Option.some.inj e; omega
 refine ⟨by simp, .inl ⟨_, _, rfl, run_takeDeferred hK, ⟨_, results_boxes t2 t3 t4 (y0.kept hg (ne _ (by omega))) (y1.kept hg (ne _ (by omega))) (y2.kept hg (ne _ (by omega))), v1, rfl, own_R39 (own_weaken (ownsRow_putObj hrow _ hK rfl) (by omega)), ?_⟩⟩⟩
 exact hB.grown hg hB.size (fun k e => by cases e; omega)
theorem rod_Parse.stored {w W W1 : World} {D : Nat} {u1 u2 u3 : Value} (v1 v2 v3 : Value) {n : Nat} {xs : List Value} (hK : W.heap[D]? = some (.deferred (some []))) (h1 : Below W.heap.size W W1) (hD : w.heap.size + 6 ≤ D)
  (y0 : Boxed W w.heap.size 22 u1) (y1 : Boxed W (w.heap.size + 1) 3 u2) (y2 : Boxed W (w.heap.size + 2) 27 u3) (hB : Below w.heap.size w W) (hrow : W.ownsRow (w.heap.size + 6) 39 2 v1 n xs) :
  (((W1.setCell ⟨w.heap.size, 0, none⟩ v1).setCell ⟨w.heap.size + 1, 0, none⟩ v2).setCell ⟨w.heap.size + 1 + 1, 0, none⟩ v3).heap[D]? = some (.deferred (some [])) ∧
  Boxed (((W1.setCell ⟨w.heap.size, 0, none⟩ v1).setCell ⟨w.heap.size + 1, 0, none⟩ v2).setCell ⟨w.heap.size + 1 + 1, 0, none⟩ v3) w.heap.size 22 v1 ∧
  Boxed (((W1.setCell ⟨w.heap.size, 0, none⟩ v1).setCell ⟨w.heap.size + 1, 0, none⟩ v2).setCell ⟨w.heap.size + 1 + 1, 0, none⟩ v3) (w.heap.size + 1) 3 v2 ∧
  Boxed (((W1.setCell ⟨w.heap.size, 0, none⟩ v1).setCell ⟨w.heap.size + 1, 0, none⟩ v2).setCell ⟨w.heap.size + 1 + 1, 0, none⟩ v3) (w.heap.size + 2) 27 v3 ∧
  Below w.heap.size w (((W1.setCell ⟨w.heap.size, 0, none⟩ v1).setCell ⟨w.heap.size + 1, 0, none⟩ v2).setCell ⟨w.heap.size + 1 + 1, 0, none⟩ v3) ∧
  (((W1.setCell ⟨w.heap.size, 0, none⟩ v1).setCell ⟨w.heap.size + 1, 0, none⟩ v2).setCell ⟨w.heap.size + 1 + 1, 0, none⟩ v3).ownsRow (w.heap.size + 6) 39 2 v1 n xs := by
 have b0 : Boxed W1 w.heap.size 22 u1 := (h1.block _ y0.lt).trans y0
 have b1 : Boxed W1 (w.heap.size + 1) 3 u2 := (h1.block _ y1.lt).trans y1
 have b2 : Boxed W1 (w.heap.size + 2) 27 u3 := (h1.block _ y2.lt).trans y2
 have ho1 := pw_own_below hrow h1
 have no : ∀ b, b < w.heap.size + 6 → some b ≠ v1.ownBlock := fun b hb e => by have := own_base ho1 b e.symm; omega
 refine ⟨?_, ?_, ?_, ?_, ?_, ?_⟩
 ·
  have hd := (h1.block _ (Array.getElem?_eq_some_iff.1 hK).1).trans hK
  exact (Below.heap_setCell _ _ _ _ (by show D ≠ w.heap.size + 1 + 1; omega)).trans ((Below.heap_setCell _ _ _ _ (by show D ≠ w.heap.size + 1; omega)).trans ((Below.heap_setCell _ _ _ _ (by show D ≠ w.heap.size; omega)).trans hd))
 ·
  exact ((b0.set v1).other (by omega) _).other (by omega) _
 ·
  exact ((b1.other (by omega) _).set v2).other (by omega) _
 ·
  exact ((b2.other (by omega) _).other (by omega) _).set v3
 ·
  exact (((below_step hB h1).setCell (p := ⟨w.heap.size, 0, none⟩) (Nat.le_refl _) _).setCell (p := ⟨w.heap.size + 1, 0, none⟩) (by show w.heap.size ≤ w.heap.size + 1; omega) _).setCell (p := ⟨w.heap.size + 1 + 1, 0, none⟩) (by show w.heap.size ≤ w.heap.size + 1 + 1; omega) _
 ·
  exact own_setCell (own_setCell (own_setCell ho1 (no _ (by show w.heap.size < _; omega)) _) (no _ (by show w.heap.size + 1 < _; omega)) _) (no _ (by show w.heap.size + 1 + 1 < _; omega)) _
theorem keeps_set {W : World} {B b : Nat} {t : TypeId} {u : Value} (h : Boxed W b t u) (v : Value) : KeepsFrom B W (W.setCell ⟨b, 0, none⟩ v) := by
 refine ⟨by simp, fun k o hk ho hc => ?_⟩
 by_cases e : k = b
 ·
  subst e
  have h2 : W.heap[k]? = some (.cells #[u] t (0, 0)) := h
  rw [h2] at ho
  cases ho
  cases hc
 ·
  exact (Below.heap_setCell _ _ _ k e).trans ho
set_option maxHeartbeats 8000000 in
set_option maxRecDepth 100000 in
theorem rod_Parse.calls (k : Nat) (a0 : ByteArray) (r1 : List (S39)) (r2 : Int) (r3 : Int) (w : World) (hG : GI w) (h : rod_Parse.f k a0 = some (r1, r2, r3)) :
  Calls Tryd.prog 25 #[.string a0] w fun e w' => ∃ v0_ : Value, e = .returned (.tuple #[v0_, .int .i64 r2, .int .i64 r3]) ∧ Kd.R k39 39 w' w.heap.size (fun _ => True) v0_ r1 ∧ Below w.heap.size w w' := by
 have hu22 := Tryd.underlying22
 unfold rod_Parse.f at h
 refine (callsIn_wide (n := 5)).1 ?_
 refine callsIn_of_wp_marks Tryd.func25 rfl trivial ?_ rfl
 simp only [Tryd.ntmps25, List.size_toArray, List.length_cons, List.length_nil, Nat.reduceAdd, Nat.reduceSub, Array.replicate_succ, Array.replicate_zero, List.push_toArray, List.append_toArray, List.nil_append, List.cons_append]
 by_cases hbig : (a0.size : Int) > 4096
 ·
  rw [if_pos hbig] at h
  cases h
  gi_wp2
  refine ⟨_, results_boxes (g1 := w.heap.size) (g2 := w.heap.size + 1) (g3 := w.heap.size + 1 + 1) rfl rfl rfl (((Boxed.new w 22 _).alloc _).alloc _) ?_ ?_, ⟨_, rfl, Kd.R_nil _ _ _ _ _, ?_⟩⟩
  ·
   have := (Boxed.new (w.alloc (.cells #[.slice none 0 0] 22)) 3 (.int .i64 0)).alloc (.cells #[.int .i64 8] 27)
   rwa [World.size_alloc] at this
  ·
   have := Boxed.new ((w.alloc (.cells #[.slice none 0 0] 22)).alloc (.cells #[.int .i64 0] 3)) 27 (.int .i64 8)
   rwa [World.size_alloc, World.size_alloc] at this
  ·
   exact below_alloc (below_alloc (below_alloc (Below.refl _ _) _) _) _
 ·
  rw [if_neg hbig] at h
  obtain ⟨W0, hW0⟩ : ∃ W0, W0 = (((((w.alloc (.cells #[.slice none 0 0] 22)).alloc (.cells #[.int .i64 0] 3)).alloc (.cells #[.int .i64 0] 27)).alloc (.cells #[.slice none 0 0] 22)).alloc (.cells #[.int .i64 0] 3)).alloc (.cells #[.string a0] 9) := ⟨_, rfl⟩
  have hsz : W0.heap.size = w.heap.size + 6 := by rw [hW0]; simp [World.size_alloc]
  have hB0 : Below w.heap.size w W0 := by rw [hW0]; exact below_alloc (below_alloc (below_alloc (below_alloc (below_alloc (below_alloc (Below.refl _ _) _) _) _) _) _) _
  have x0 : Boxed W0 w.heap.size 22 (.slice none 0 0) := by rw [hW0]; exact (((((Boxed.new w 22 _).alloc _).alloc _).alloc _).alloc _).alloc _
  have x1 : Boxed W0 (w.heap.size + 1) 3 (.int .i64 0) := by
   rw [hW0]
   have := ((((Boxed.new (w.alloc (.cells #[.slice none 0 0] 22)) 3 (.int .i64 0)).alloc (.cells #[.int .i64 0] 27)).alloc (.cells #[.slice none 0 0] 22)).alloc (.cells #[.int .i64 0] 3)).alloc (.cells #[.string a0] 9)
   simpa only [World.size_alloc] using this
  have x2 : Boxed W0 (w.heap.size + 2) 27 (.int .i64 0) := by
   rw [hW0]
   have := (((Boxed.new ((w.alloc (.cells #[.slice none 0 0] 22)).alloc (.cells #[.int .i64 0] 3)) 27 (.int .i64 0)).alloc (.cells #[.slice none 0 0] 22)).alloc (.cells #[.int .i64 0] 3)).alloc (.cells #[.string a0] 9)
   simpa only [World.size_alloc] using this
  have x3 : Boxed W0 (w.heap.size + 3) 22 (.slice none 0 0) := by
   rw [hW0]
   have := ((Boxed.new (((w.alloc (.cells #[.slice none 0 0] 22)).alloc (.cells #[.int .i64 0] 3)).alloc (.cells #[.int .i64 0] 27)) 22 (.slice none 0 0)).alloc (.cells #[.int .i64 0] 3)).alloc (.cells #[.string a0] 9)
   simpa only [World.size_alloc] using this
  have x4 : Boxed W0 (w.heap.size + 4) 3 (.int .i64 0) := by
   rw [hW0]
   have := (Boxed.new ((((w.alloc (.cells #[.slice none 0 0] 22)).alloc (.cells #[.int .i64 0] 3)).alloc (.cells #[.int .i64 0] 27)).alloc (.cells #[.slice none 0 0] 22)) 3 (.int .i64 0)).alloc (.cells #[.string a0] 9)
   simpa only [World.size_alloc] using this
  have x5 : Boxed W0 (w.heap.size + 5) 9 (.string a0) := by
   rw [hW0]
   have := Boxed.new (((((w.alloc (.cells #[.slice none 0 0] 22)).alloc (.cells #[.int .i64 0] 3)).alloc (.cells #[.int .i64 0] 27)).alloc (.cells #[.slice none 0 0] 22)).alloc (.cells #[.int .i64 0] 3)) 9 (.string a0)
   simpa only [World.size_alloc] using this
  gi_wp2_with (refine ⟨trivial, ?_⟩; gi_at_call 45; refine (lines_calls a0 _).mono ?_; rintro e w' ⟨rfl, rfl⟩)
  have hseq := lines_box (w.heap.size + 5) a0 (by omega) W0 x5
  try simp only [World.size_alloc]
  rw [← hW0]
  refine wpIn_rangeFunc_box (F := Fence.wide) (n := 5) (b := w.heap.size + 5) rfl (by decide) (gf := 56) (lb := #[.pointer (some ⟨w.heap.size + 5, 0, none⟩)]) rfl trivial (enters_of Tryd.func56 (by kernel_rfl) rfl) hseq (by omega) (Below.refl _ _) (fun _ => rfl)
   (rod_Parse.I k a0 (r1, r2, r3) w) (rod_Parse.Ix (r1, r2, r3) w) ?hIG ?hI ?hIx ?h0
   (fun x => { tmps := #[.string a0, undef, .pointer (some ⟨w.heap.size, 0, none⟩), .pointer (some ⟨w.heap.size + 1, 0, none⟩), .pointer (some ⟨w.heap.size + 1 + 1, 0, none⟩), .pointer (some ⟨w.heap.size + 1 + 1 + 1, 0, none⟩), .pointer (some ⟨w.heap.size + 1 + 1 + 1 + 1, 0, none⟩), .string x.1, .bool x.2, undef, undef, undef, undef, undef, undef, undef, undef, .string a0, .int .i64 (a0.size : Int), .bool false, .string a0, .func (.func 56) #[] #[.pointer (some ⟨w.heap.size + 1 + 1 + 1 + 1 + 1, 0, none⟩)], .string x.1, .bool x.2, undef, undef, undef, undef, undef, undef, undef, undef, undef, undef, undef, undef, undef, undef, undef, undef, undef, undef, undef, undef, undef, undef, undef, undef, undef, undef, undef, undef, undef, undef, undef, undef, undef, undef, undef, undef, undef, undef, undef, undef, undef], defers := [] }) ?assign ?body ?done ?stop
  case hIG =>
   rintro pre W ⟨_, _, _, _, _, _, _, _, _, hB, _⟩
   exact GI.below hG hB
  case hI =>
   rintro s W W' row ⟨acc, v, rest, q1, q2, hv, hn, ho, ⟨y0, y1, y2⟩, hB, hW5⟩ hg hr
   rw [hsz] at hr
   exact ⟨acc, v, rest, q1, q2, box_turn hv hg hr (by omega) (by omega), box_turn hn hg hr (by omega) (by omega), own_turn ho hg hr (by omega), ⟨box_turn y0 hg hr (by omega) (by omega), box_turn y1 hg hr (by omega) (by omega), box_turn y2 hg hr (by omega) (by omega)⟩, hB.grown hg hB.size (fun k e => by rcases hr k e with q | q <;> omega), Nat.le_trans hW5 hg.size⟩
  case hIx =>
   rintro s W W' row ⟨q1, ⟨y0, y1, y2⟩, hB⟩ hg hr
   rw [hsz] at hr
   exact ⟨q1, ⟨box_turn y0 hg hr (by omega) (by omega), box_turn y1 hg hr (by omega) (by omega), box_turn y2 hg hr (by omega) (by omega)⟩, hB.grown hg hB.size (fun k e => by rcases hr k e with q | q <;> omega)⟩
  case h0 => exact ⟨[], _, lns a0, rfl, h, x3, x4, World.ownsRow_nil _ _ _ _, ⟨x0, x1, x2⟩, hB0, by omega⟩
  case assign =>
   intro l x W K hK
   dsimp only [lencs]
   gi_wp2
   exact hK
  case body =>
   rintro l pre x W2 ⟨acc, v, rest, q1, q2, hv2, hn2, ho2, ⟨z0, z1, z2⟩, hB2, hW52⟩ hpre
   obtain ⟨more, hmore⟩ := hpre
   have hrest : rest = x :: more := by
    rw [← hmore, List.append_assoc] at q1
    exact (List.append_cancel_left q1).symm
   subst hrest
   unfold rod_Parse.rows at q2
   by_cases hacc : acc.length < 4294967296
   case neg => rw [if_neg hacc] at q2; cases q2
   rw [if_pos hacc] at q2
   replace q2 := Option.bind_eq_some_iff.mp q2
   obtain ⟨y, hy, q2⟩ := q2
   unfold rod_Parse.line at hy
   replace hy := Option.bind_eq_some_iff.mp hy
   obtain ⟨⟨ca, cb, cc⟩, hcut, hy⟩ := hy
   replace hy := Option.bind_eq_some_iff.mp hy
   obtain ⟨⟨n1, o1⟩, hn1, hy⟩ := hy
   replace hy := Option.bind_eq_some_iff.mp hy
   obtain ⟨⟨n3, o3⟩, hn3, hy⟩ := hy
   dsimp only at hn1 hn3 hy
   obtain ⟨Av, cv, rfl⟩ := own_slice ho2
   have hGW2 := GI.below hG hB2
   have mixed : Tryd.prog.follows Departure.mixedOrders = true := by kernel_rfl
   have hinc : wrap64 ((acc.length : Int) + 1) = (acc.length : Int) + 1 := by unfold wrap64; omega
   have hc := hn2.cell
   have hf := hn2.frozen
   obtain ⟨W, hW⟩ : ∃ W, W = W2.setCell ⟨w.heap.size + 1 + 1 + 1 + 1, 0, none⟩ (.int .i64 ((acc.length : Int) + 1)) := ⟨_, rfl⟩
   have ne2 : ∀ b, b < w.heap.size + 6 → some b ≠ (Value.slice Av acc.length cv).ownBlock := fun b hb e => by have := own_base ho2 b e.symm; omega
   have hv : Boxed W (w.heap.size + 3) 22 (.slice Av acc.length cv) := by rw [hW]; exact hv2.other (by omega) _
   have hn : Boxed W (w.heap.size + 4) 3 (.int .i64 ((acc.length : Int) + 1)) := by rw [hW]; exact hn2.set _
   have y0 : Boxed W w.heap.size 22 (.slice none 0 0) := by rw [hW]; exact z0.other (by omega) _
   have y1 : Boxed W (w.heap.size + 1) 3 (.int .i64 0) := by rw [hW]; exact z1.other (by omega) _
   have y2 : Boxed W (w.heap.size + 2) 27 (.int .i64 0) := by rw [hW]; exact z2.other (by omega) _
   have ho : W.ownsRow (w.heap.size + 6) 39 2 (.slice Av acc.length cv) acc.length (flat39 acc) := by rw [hW]; exact own_setCell ho2 (ne2 _ (by show w.heap.size + 1 + 1 + 1 + 1 < _; omega)) _
   have hB : Below w.heap.size w W := by rw [hW]; exact hB2.setCell (p := ⟨w.heap.size + 1 + 1 + 1 + 1, 0, none⟩) (by show w.heap.size ≤ w.heap.size + 1 + 1 + 1 + 1; omega) _
   have hW5 : w.heap.size + 6 ≤ W.heap.size := by rw [hW]; simpa using hW52
   have hKW : KeepsFrom W0.heap.size W2 W := by rw [hW]; exact keeps_set hn2 _
   have hbx : W.heap[w.heap.size + 5]? = W2.heap[w.heap.size + 5]? := by rw [hW]; exact Below.heap_setCell _ _ _ _ (by show w.heap.size + 5 ≠ w.heap.size + 1 + 1 + 1 + 1; omega)
   have hGW := GI.below hG hB
   obtain ⟨xs, xb⟩ := x
   dsimp only at hcut hy ⊢
   by_cases hgood : xb = true ∧ o1 = true ∧ o3 = true
   case neg =>
    rw [if_neg hgood] at hy
    cases hy
    cases q2
    have hwhich : xb = false ∨ (xb = true ∧ o1 = false) ∨ (xb = true ∧ o1 = true ∧ o3 = false) := by
     cases xb <;> cases o1 <;> cases o3 <;> simp_all
    rcases hwhich with rfl | ⟨rfl, rfl⟩ | ⟨rfl, rfl, rfl⟩
    all_goals
     gi_wp2_with (first | (refine ⟨trivial, ?_⟩; gi_at_call 46; (try simp only [hinc]); rw [← hW]; refine (CallsIn.inRound l (callsIn_wide.2 (strings_Cut.calls xs ⟨#[32]⟩ ca cb cc W hGW hcut))).mono ?_; rintro e w1 ⟨rfl, hb1⟩) | (refine ⟨trivial, ?_⟩; gi_at_call 47; refine (CallsIn.inRound l (callsIn_wide.2 (rod_number.calls k ca n1 _ w1 hn1))).mono ?_; rintro e w2 ⟨rfl, hd2⟩; have hb2 := hd2.below; clear hn1) | (refine ⟨trivial, ?_⟩; gi_at_call 47; refine (CallsIn.inRound l (callsIn_wide.2 (rod_number.calls k cb n3 _ w2 hn3))).mono ?_; rintro e w3 ⟨rfl, hd3⟩; have hb3 := hd3.below; have hb13 := below_step (below_step hb1 hb2) hb3; have zn : w3.cell? ⟨w.heap.size + 1 + 1 + 1 + 1, 0, none⟩ = some (.int .i64 ((acc.length : Int) + 1)) := (box_facts hn hb13).1; have z0 : w3.cell? ⟨w.heap.size, 0, none⟩ = some (.slice none 0 0) := (box_facts y0 hb13).1; have z1 : w3.cell? ⟨w.heap.size + 1, 0, none⟩ = some (.int .i64 0) := (box_facts y1 hb13).1; have z2 : w3.cell? ⟨w.heap.size + 1 + 1, 0, none⟩ = some (.int .i64 0) := (box_facts y2 hb13).1; have z3 : w3.cell? ⟨w.heap.size + 1 + 1 + 1, 0, none⟩ = some (.slice Av acc.length cv) := (box_facts hv hb13).1; have g0 : w3.frozen? ⟨w.heap.size, 0, none⟩ = false := (box_facts y0 hb13).2; have g1 : w3.frozen? ⟨w.heap.size + 1, 0, none⟩ = false := (box_facts y1 hb13).2; have g2 : w3.frozen? ⟨w.heap.size + 1 + 1, 0, none⟩ = false := (box_facts y2 hb13).2))
     gi_region_o
     all_goals gi_wp2
     all_goals exact ⟨hKW.trans (rod_Parse.failed (B := W0.heap.size) ((acc.length : Int) + 1) [] hB hb13 (by omega) y0 y1 y2).1, (rod_Parse.failed (B := W0.heap.size) ((acc.length : Int) + 1) _ hB hb13 (by omega) y0 y1 y2).2⟩
   case pos =>
    rw [if_pos hgood] at hy
    cases hy
    obtain ⟨rfl, rfl, rfl⟩ := hgood
    obtain ⟨i0, hi0, hz0, hzs, hzb⟩ := info_parts info39
    gi_wp2_with (first | (refine ⟨trivial, ?_⟩; gi_at_call 46; (try simp only [hinc]); rw [← hW]; refine (CallsIn.inRound l (callsIn_wide.2 (strings_Cut.calls xs ⟨#[32]⟩ ca cb cc W hGW hcut))).mono ?_; rintro e w1 ⟨rfl, hb1⟩) | (refine ⟨trivial, ?_⟩; gi_at_call 47; refine (CallsIn.inRound l (callsIn_wide.2 (rod_number.calls k ca n1 _ w1 hn1))).mono ?_; rintro e w2 ⟨rfl, hd2⟩; have hb2 := hd2.below; clear hn1) | (refine ⟨trivial, ?_⟩; gi_at_call 47; refine (CallsIn.inRound l (callsIn_wide.2 (rod_number.calls k cb n3 _ w2 hn3))).mono ?_; rintro e w3 ⟨rfl, hd3⟩; have hb3 := hd3.below; have hb13 := below_step (below_step hb1 hb2) hb3; have zn : w3.cell? ⟨w.heap.size + 1 + 1 + 1 + 1, 0, none⟩ = some (.int .i64 ((acc.length : Int) + 1)) := (box_facts hn hb13).1; have z0 : w3.cell? ⟨w.heap.size, 0, none⟩ = some (.slice none 0 0) := (box_facts y0 hb13).1; have z1 : w3.cell? ⟨w.heap.size + 1, 0, none⟩ = some (.int .i64 0) := (box_facts y1 hb13).1; have z2 : w3.cell? ⟨w.heap.size + 1 + 1, 0, none⟩ = some (.int .i64 0) := (box_facts y2 hb13).1; have z3 : w3.cell? ⟨w.heap.size + 1 + 1 + 1, 0, none⟩ = some (.slice Av acc.length cv) := (box_facts hv hb13).1; have g0 : w3.frozen? ⟨w.heap.size, 0, none⟩ = false := (box_facts y0 hb13).2; have g1 : w3.frozen? ⟨w.heap.size + 1, 0, none⟩ = false := (box_facts y1 hb13).2; have g2 : w3.frozen? ⟨w.heap.size + 1 + 1, 0, none⟩ = false := (box_facts y2 hb13).2) | (gi_at_builtin; refine wpListIn_append_own _ rfl _ _ 22 rfl (w.heap.size + 6) 39 i0 (.agg #[(.int .i64 0), (.int .i64 0)]) 2 16 Tryd.underlying22 hi0 hz0 hzs hzb rfl (by decide) _ _ _ rfl (own_alloc (pw_own_below ho hb13) _) ⟨w3.heap.size, 0, none⟩ 1 1 [.int .i64 n1, .int .i64 n3] rfl rfl (two_cells _ _ _ _) (by simp [Value.oneCell']) (by unfold maxLen; omega) (by omega) (by have := hb13.size; rw [World.size_alloc]; omega) ?_; intro v' w4 hown' hgrow _; obtain ⟨g', cap', rfl⟩ := ownsRow_succ hown'; have hc4 : w4.cell? ⟨w.heap.size + 1 + 1 + 1, 0, none⟩ = some (.slice Av acc.length cv) := (box_grown hv hb13 (by decide) (pw_own_below ho hb13) hgrow).cell; have hf4 : w4.frozen? ⟨w.heap.size + 1 + 1 + 1, 0, none⟩ = false := (box_grown hv hb13 (by decide) (pw_own_below ho hb13) hgrow).frozen))
    have hwent := rod_Parse.went (B := W0.heap.size) (a0 := a0) (pre := pre) (x := (xs, true)) (by rw [q1, List.append_assoc]; rfl) q2 hB hb13 hv ho (by omega) hn y0 y1 y2 hown' hgrow
    exact ⟨hKW.trans hwent.1, hwent.2.1.trans hbx, hwent.2.2⟩
  case done =>
   rintro W ⟨acc, v, rest, q1, q2, hv, hn, ho, ⟨y0, y1, y2⟩, hB, hW5⟩ hD
   have hrest : rest = [] := by simpa using q1
   subst hrest
   unfold rod_Parse.rows at q2
   replace q2 := Option.bind_eq_some_iff.mp q2
   obtain ⟨d2, hck, q2⟩ := q2
   obtain ⟨Av, cv, hse, hle, hC⟩ := Kd.R_reads (own_R39 ho)
   subst hse
   have hc : W.cell? ⟨w.heap.size + 1 + 1 + 1, 0, none⟩ = some (.slice Av acc.length cv) := hv.cell
   have hDs : w.heap.size + 6 ≤ W0.heap.size := by omega
   by_cases hd : d2 = 0
   ·
    rw [if_pos hd] at q2
    cases q2
    subst hd
    gi_wp2_with (refine ⟨trivial, ?_⟩; gi_at_call 21; refine (callsIn_wide.2 (rod_Check.calls k Av cv r1 0 W hC hle hck)).mono ?_; rintro e w1 ⟨rfl, hb1⟩; have z0 : w1.cell? ⟨w.heap.size, 0, none⟩ = some (.slice none 0 0) := (box_facts y0 hb1).1; have z1 : w1.cell? ⟨w.heap.size + 1, 0, none⟩ = some (.int .i64 0) := (box_facts y1 hb1).1; have z2 : w1.cell? ⟨w.heap.size + 1 + 1, 0, none⟩ = some (.int .i64 0) := (box_facts y2 hb1).1; have z3 : w1.cell? ⟨w.heap.size + 1 + 1 + 1, 0, none⟩ = some (.slice Av r1.length cv) := (box_facts hv hb1).1; have g0 : w1.frozen? ⟨w.heap.size, 0, none⟩ = false := (box_facts y0 hb1).2; have g1 : w1.frozen? ⟨w.heap.size + 1, 0, none⟩ = false := (box_facts y1 hb1).2; have g2 : w1.frozen? ⟨w.heap.size + 1 + 1, 0, none⟩ = false := (box_facts y2 hb1).2)
    have hDD : W0.heap.size = w.heap.size + 1 + 1 + 1 + 1 + 1 + 1 := by omega
    rw [hDD] at hD hDs
    obtain ⟨hK, b0, b1, b2, hB', hrow⟩ := rod_Parse.stored (.slice Av r1.length cv) (.int .i64 0) (.int .i64 0) hD hb1 hDs y0 y1 y2 hB ho
    exact rod_Parse.leave hK hDs b0 b1 b2 hB' hrow rfl rfl rfl
   ·
    rw [if_neg hd] at q2
    cases q2
    have hdd : ¬ (r3 = 0) := hd
    gi_wp2_with (refine ⟨trivial, ?_⟩; gi_at_call 21; refine (callsIn_wide.2 (rod_Check.calls k Av cv acc r3 W hC hle hck)).mono ?_; rintro e w1 ⟨rfl, hb1⟩; have z0 : w1.cell? ⟨w.heap.size, 0, none⟩ = some (.slice none 0 0) := (box_facts y0 hb1).1; have z1 : w1.cell? ⟨w.heap.size + 1, 0, none⟩ = some (.int .i64 0) := (box_facts y1 hb1).1; have z2 : w1.cell? ⟨w.heap.size + 1 + 1, 0, none⟩ = some (.int .i64 0) := (box_facts y2 hb1).1; have z3 : w1.cell? ⟨w.heap.size + 1 + 1 + 1, 0, none⟩ = some (.slice Av acc.length cv) := (box_facts hv hb1).1; have g0 : w1.frozen? ⟨w.heap.size, 0, none⟩ = false := (box_facts y0 hb1).2; have g1 : w1.frozen? ⟨w.heap.size + 1, 0, none⟩ = false := (box_facts y1 hb1).2; have g2 : w1.frozen? ⟨w.heap.size + 1 + 1, 0, none⟩ = false := (box_facts y2 hb1).2)
    have hDD : W0.heap.size = w.heap.size + 1 + 1 + 1 + 1 + 1 + 1 := by omega
    rw [hDD] at hD hDs
    obtain ⟨hK, b0, b1, b2, hB', hrow⟩ := rod_Parse.stored (.slice none 0 0) (.int .i64 0) (.int .i64 r3) hD hb1 hDs y0 y1 y2 hB (World.ownsRow_nil _ _ _ _ : W.ownsRow (w.heap.size + 6) 39 2 (.slice none 0 0) 0 [])
    exact rod_Parse.leave (xs := []) hK hDs b0 b1 b2 hB' hrow rfl rfl rfl
  case stop =>
   rintro pre W _ ⟨hr1, ⟨y0, y1, y2⟩, hB⟩ hD
   dsimp only at hr1 y1 y2
   subst hr1
   gi_wp2
   exact rod_Parse.leave hD (by omega) y0 y1 y2 hB (World.ownsRow_nil _ _ _ _) rfl rfl rfl
end
end Go.Proofs.YtkolhpacpbhceaaDoor.Pr
namespace Go.Proofs.YtkolhpacpbhceaaDoor.Pr
open Go.RowKit Go.Proofs.YtkolhpacpbhceaaDoorW.PrintWords Go.Proofs.YtkolhpacpbhceaaDoorW.PrintLast Go.Proofs.YtkolhpacpbhceaaDoorW.PrintMore Go.Proofs.YtkolhpacpbhceaaDoor.X
attribute [local go_sem] max2_int min2_int max_two min_two max_three min_three max_four min_four   -- for this text's walks alone
set_option linter.unusedVariables false
set_option linter.unusedSimpArgs false
def spilelaw14_Steps.f  : Option ((List (S39)) × Int) := some ((([(⟨0, 0⟩ : S39), (⟨10, 100⟩ : S39), (⟨20, 100⟩ : S39)] : List (S39))), 0)
set_option maxHeartbeats 8000000 in
set_option maxRecDepth 100000 in
theorem spilelaw14_Steps.calls  (r1 : List (S39)) (r2 : Int) (w : World) (h : spilelaw14_Steps.f  = some (r1, r2)) :
  Calls Tryd.prog 30 #[] w fun e w' => ∃ v0_ : Value, e = .returned (.agg #[v0_, .int .i64 r2]) ∧ Kd.R k39 39 w' w.heap.size (fun _ => True) v0_ r1 ∧ Below w.heap.size w w' := by
 have hu24 := Tryd.underlying24
 have hu39 := Tryd.underlying39
 have HB := Aside0.mk (Below.refl w.heap.size w)
 have H : (some ((([(⟨0, 0⟩ : S39), (⟨10, 100⟩ : S39), (⟨20, 100⟩ : S39)] : List (S39))), 0)) = some (r1, r2) := h
 clear h
 obtain ⟨y170, hy170⟩ : ∃ y_ : List (S39), y_ = (([(⟨0, 0⟩ : S39), (⟨10, 100⟩ : S39), (⟨20, 100⟩ : S39)] : List (S39))) := ⟨_, rfl⟩
 replace H : (some (y170, 0)) = some (r1, r2) := by first | (rw [hy170]; with_reducible exact H) | (have H2_ := (Option.bind_some _ _).symm.trans H; rw [hy170]; with_reducible exact H2_) | (have H2_ := (Option.bind_some _ _).symm.trans H; with_reducible exact H2_) | with_reducible exact H | (rw [hy170]; exact H) | exact H
 have Ny170 := Aside0.mk hy170
 clear hy170
 simp only [Option.some.injEq, Prod.mk.injEq] at H
 obtain ⟨rfl, rfl⟩ := H
 go_enter Tryd.func30, Tryd.ntmps30
 go_wp2_with (first | ((with_reducible refine gate_dst (N := 0) rfl ?_); refine box_event ?hg (N := 0) ?hd (cs := #[.slice none 0 0, .int .i64 0]) (t := 24) ?hr ?_; (case hd => rfl); (case hg => rfl); (case hr => first | (go_simp; done) | (go_simp; rfl)); intro gb169 hg w1 hbox hb; have n0_ := Aside0.mk (below_step (by repeat (first | (with_reducible first | exact HB.out | apply below_alloc | apply pw_below_drewN | apply below_drew1) | exact HB.out)) hb); have n1_ := Aside0.mk (hbox); have n2_ := Aside0.mk ((by rw [hg]; exact (below_size (by repeat (first | (with_reducible first | exact HB.out | apply below_alloc | apply pw_below_drewN | apply below_drew1) | exact HB.out))) : w.heap.size ≤ gb169)); have n3_ := Aside0.mk ((by rw [hg]; exact (below_size (by repeat (first | (with_reducible first | exact HB.out | apply below_alloc | apply pw_below_drewN | apply below_drew1) | exact HB.out))) : w.heap.size ≤ gb169)); clear HB; have HB := n0_; have BK169 := n1_; have GW169 := n2_; have GE169 := n3_; clear n0_ n1_ n2_ n3_; clear hb hbox hg) | ((with_reducible refine gate_dst (N := 4) rfl ?_); refine Kd.R_lit k39 _ 39 ?hg (N := 4) ?hd (xs := ([(⟨0, 0⟩ : S39), (⟨10, 100⟩ : S39), (⟨20, 100⟩ : S39)] : List (S39))) (inner := [.int .i64 0, .int .i64 0, .int .i64 10, .int .i64 100, .int .i64 20, .int .i64 100]) (ok := fun _ => True) (okp := fun _ => True) ?hr ?hp (fun _ hk => hk) trivial (Below.refl _ _) (Nat.le_refl _) (by simp) ?_; (case hd => rfl); (case hg => rfl); (case hr => first | (go_simp; done) | (go_simp; rfl)); (case hp => exact (Reps.c2 (show Kd.M k39 _ _ _ (⟨0, 0⟩ : S39) [.int .i64 0, .int .i64 0] from (k39_mkM _ _ _ (⟨0, 0⟩ : S39) )) (Reps.c2 (show Kd.M k39 _ _ _ (⟨10, 100⟩ : S39) [.int .i64 10, .int .i64 100] from (k39_mkM _ _ _ (⟨10, 100⟩ : S39) )) (Reps.c2 (show Kd.M k39 _ _ _ (⟨20, 100⟩ : S39) [.int .i64 20, .int .i64 100] from (k39_mkM _ _ _ (⟨20, 100⟩ : S39) )) (Reps.none _ _))))); intro v171 w2 ho3 hb hg_ hnew_; clear hg_ hnew_; (first | rw [← Ny170.out] at ho3 | (simp only [Int.reduceToNat] at ho3; rw [← Ny170.out] at ho3)); have n0_ := Aside0.mk (Kd.R_lower ho3 (below_size (by repeat (first | (with_reducible first | exact HB.out | apply below_alloc | apply pw_below_drewN | apply below_drew1 | refine below_set ?_ GE169.out) | exact HB.out)))); have n1_ := Aside0.mk (blk_below (g := gb169) (o := .cells #[.slice none 0 0, .int .i64 0] 24 (0, 0)) (by (with_reducible repeat (first | refine blk_drewN ?_ _ | refine blk_drew ?_ | refine blk_alloc ?_ _)); exact BK169.out) hb); have n2_ := Aside0.mk (below_step (by repeat (first | (with_reducible first | exact HB.out | apply below_alloc | apply pw_below_drewN | apply below_drew1 | refine below_set ?_ GE169.out) | exact HB.out)) hb); clear BK169; clear HB; have HO172 := n0_; have BK169 := n1_; have HB := n2_; clear n0_ n1_ n2_; clear hb ho3; obtain ⟨Ao4, co4, eo4⟩ := Kd.R_slice HO172.out; subst eo4; have hcz5_0 : w2.cell? ⟨gb169, 0, none⟩ = some (.slice none 0 0) := (blk_cell BK169.out 0).trans rfl; have hcz5_1 : w2.cell? ⟨gb169, 1, none⟩ = some (.int .i64 0) := (blk_cell BK169.out 1).trans rfl; have hfz5_0 := blk_frozen BK169.out 0; have hfz5_1 := blk_frozen BK169.out 1))
 refine bodyPost_ret (results_cell_row rfl _ _ gb169 24 #[.slice Ao4 y170.length co4, .int .i64 0] (0, 0) _ rfl (by (with_reducible repeat (first | refine blk_drewN ?_ _ | refine blk_drew ?_ | refine blk_alloc ?_ _)); refine blk_put (cs := #[.slice Ao4 y170.length co4, .int .i64 0]) ?_ 1 _ rfl; (with_reducible repeat (first | refine blk_drewN ?_ _ | refine blk_drew ?_ | refine blk_alloc ?_ _)); refine blk_put (cs := #[.slice none 0 0, .int .i64 0]) ?_ 0 _ rfl; (with_reducible repeat (first | refine blk_drewN ?_ _ | refine blk_drew ?_ | refine blk_alloc ?_ _)); exact BK169.out) Tryd.underlying24 rfl (by kernel_rfl)) rfl ?_
 exact ⟨_, by first | rfl | (simp [errW_none, errW_some] <;> rfl) | (simp [*, errW_none, errW_some] <;> rfl), by (with_reducible repeat (first | apply Kd.R_alloc | apply Kd.R_drewN | apply Kd.R_drew)); exact Kd.R_mono (Kd.R_far (p := ⟨gb169, 1, none⟩) (Kd.R_far (p := ⟨gb169, 0, none⟩) (Kd.R_types HO172.out BK169.out (by decide)) (fun _ hk => hk.2) (.slice Ao4 y170.length co4)) (fun _ hk => hk.2) (.int .i64 0)) (fun _ hk => trivial), by repeat (first | (with_reducible first | exact HB.out | apply below_alloc | apply pw_below_drewN | apply below_drew1 | refine below_set ?_ GE169.out) | exact HB.out)⟩
def spilelaw14_awake.f  : Option (Bool) := some true
set_option maxHeartbeats 8000000 in
set_option maxRecDepth 100000 in
theorem spilelaw14_awake.calls  (r : Bool) (w : World) (hG : GI w) (h : spilelaw14_awake.f  = some r) :
  Calls Tryd.prog 10 #[] w fun e w' => e = .returned (.bool r) ∧ Below w.heap.size w w' := by
 have hu34 := Tryd.underlying34
 have hu39 := Tryd.underlying39
 have HG := Aside0.mk hG
 clear hG
 have HB := Aside0.mk (Below.refl w.heap.size w)
 have H : (some true) = some r := h
 clear h
 have A1 := Aside0.mk (show (spilelaw14_Steps.f) = some ([(⟨0, 0⟩ : S39), (⟨10, 100⟩ : S39), (⟨20, 100⟩ : S39)], 0) from by kernel_rfl)
 have A2 := Aside0.mk (show (rod_Make.f 400 [(⟨0, 0⟩ : S39), (⟨10, 100⟩ : S39), (⟨20, 100⟩ : S39)] 0 30) = some ([(⟨3, 30⟩ : S39), (⟨6, 60⟩ : S39), (⟨9, 90⟩ : S39)], 0) from by kernel_rfl)
 have A3 := Aside0.mk (show (rod_Reading.f 400 [(⟨3, 30⟩ : S39), (⟨6, 60⟩ : S39), (⟨9, 90⟩ : S39)] 7) = some (60, 89, 0) from by kernel_rfl)
 have A4 := Aside0.mk (show (rod_Reading.f 400 [(⟨3, 30⟩ : S39), (⟨6, 60⟩ : S39), (⟨9, 90⟩ : S39)] 2) = some (0, 29, 0) from by kernel_rfl)
 have A5 := Aside0.mk (show (rod_Reading.f 400 [(⟨3, 30⟩ : S39), (⟨6, 60⟩ : S39), (⟨9, 90⟩ : S39)] 9) = some (90, 90, 0) from by kernel_rfl)
 have A6 := Aside0.mk (show (spilelaw14_Steps.f) = some ([(⟨0, 0⟩ : S39), (⟨10, 100⟩ : S39), (⟨20, 100⟩ : S39)], 0) from by kernel_rfl)
 have A7 := Aside0.mk (show (rod_Compare.f 400 [(⟨3, 30⟩ : S39), (⟨6, 60⟩ : S39), (⟨9, 90⟩ : S39)] [(⟨0, 0⟩ : S39), (⟨10, 100⟩ : S39), (⟨20, 100⟩ : S39)] 0 0) = some ((-1), 0) from by kernel_rfl)
 have A8 := Aside0.mk (show (rod_Print.f 400 [(⟨3, 30⟩ : S39), (⟨6, 60⟩ : S39), (⟨9, 90⟩ : S39)]) = some ((⟨#[51, 32, 51, 48, 10, 54, 32, 54, 48, 10, 57, 32, 57, 48, 10]⟩ : ByteArray), 0) from by kernel_rfl)
 have A9 := Aside0.mk (show (rod_Parse.f 400 (⟨#[51, 32, 51, 48, 10, 54, 32, 54, 48, 10, 57, 32, 57, 48, 10]⟩ : ByteArray)) = some ([(⟨3, 30⟩ : S39), (⟨6, 60⟩ : S39), (⟨9, 90⟩ : S39)], 0, 0) from by kernel_rfl)
 obtain ⟨y184, hy184⟩ : ∃ y_ : List (S39), y_ = (([(⟨3, 30⟩ : S39), (⟨6, 60⟩ : S39), (⟨9, 90⟩ : S39)] : List (S39))) := ⟨_, rfl⟩
 have Ny184 := Aside0.mk hy184
 clear hy184
 have A10 := Aside0.mk (show (spileref14_Same.f 400 [(⟨3, 30⟩ : S39), (⟨6, 60⟩ : S39), (⟨9, 90⟩ : S39)] y184) = some true from by (try rw [Ny184.out]); kernel_rfl)
 have A11 := Aside0.mk (show (spileref14_Same.f 400 [(⟨3, 30⟩ : S39), (⟨6, 60⟩ : S39), (⟨9, 90⟩ : S39)] [(⟨3, 30⟩ : S39), (⟨6, 60⟩ : S39), (⟨9, 90⟩ : S39)]) = some true from by kernel_rfl)
 have A12 := Aside0.mk (show (rod_Check.f 400 [(⟨3, 30⟩ : S39), (⟨6, 60⟩ : S39), (⟨9, 90⟩ : S39)]) = some 0 from by kernel_rfl)
 obtain rfl := Option.some.inj H
 go_enter Tryd.func10, Tryd.ntmps10
 try simp only [List.append_eq, List.cons_append, List.nil_append]
 go_wp2_with (first | ((with_reducible refine gate_callee (f := 30) rfl ?_); refine goesL_ (some 17) rfl rfl Tryd.func30 (by kernel_rfl) rfl #[] rfl (by (try simp only [List.map_toArray, List.map_cons, List.map_nil]); first | done | rfl | (simp only [List.length_drop, List.length_take]; rfl)) ?_; (with_reducible refine (spilelaw14_Steps.calls  [(⟨0, 0⟩ : S39), (⟨10, 100⟩ : S39), (⟨20, 100⟩ : S39)] 0 _ A1.out).mono ?_); rintro e w13 ⟨v173, rfl, ho0, hb⟩; refine ⟨_, rfl, ?_⟩; have n0_ := Aside0.mk (Kd.R_lower ho0 (below_size (by repeat (first | (with_reducible first | exact HB.out | apply below_alloc | apply pw_below_drewN | apply below_drew1) | exact HB.out)))); have n1_ := Aside0.mk (below_step (by repeat (first | (with_reducible first | exact HB.out | apply below_alloc | apply pw_below_drewN | apply below_drew1) | exact HB.out)) hb); clear HB; have HO174 := n0_; have HB := n1_; clear n0_ n1_; (try clear hb); (try clear hb2); (try clear hk); (try clear hi); (try clear ho0); obtain ⟨Ao14, co14, eo14⟩ := Kd.R_slice HO174.out; subst eo14) | ((with_reducible refine gate_callee (f := 12) rfl ?_); refine goesL_ (some 18) rfl rfl Tryd.func12 (by kernel_rfl) rfl #[.agg #[.slice Ao14 [(⟨0, 0⟩ : S39), (⟨10, 100⟩ : S39), (⟨20, 100⟩ : S39)].length co14, .int .i64 0], .int .i64 30] rfl (by (try simp only [List.map_toArray, List.map_cons, List.map_nil]); first | done | rfl | (simp only [List.length_drop, List.length_take]; rfl)) ?_; (with_reducible refine (rod_Make.calls 400 _ _ [(⟨0, 0⟩ : S39), (⟨10, 100⟩ : S39), (⟨20, 100⟩ : S39)] 0 30 [(⟨3, 30⟩ : S39), (⟨6, 60⟩ : S39), (⟨9, 90⟩ : S39)] 0 _ ?side1 ?side2 A2.out).mono ?_); (case side1 => repeat (first | exact (Kd.R_reads' HO174.out).2.2 | (with_reducible refine Kd.C_alloc ?_ _) | (with_reducible refine Kd.C_drewN ?_ _) | (with_reducible refine Kd.C_drew ?_))); (case side2 => exact (Kd.R_reads' HO174.out).2.1); rintro e w15 ⟨v175, rfl, ho0, hb⟩; refine ⟨_, rfl, ?_⟩; have n0_ := Aside0.mk (Kd.R_elder' (by (with_reducible repeat (first | apply Kd.R_alloc | apply Kd.R_drewN | apply Kd.R_drew)); exact HO174.out) (Kd.R_base ho0) hb); have n1_ := Aside0.mk (Kd.R_lower (Kd.R_new' ho0 (Kd.R_lt (by (with_reducible repeat (first | apply Kd.R_alloc | apply Kd.R_drewN | apply Kd.R_drew)); exact HO174.out))) (below_size (by repeat (first | (with_reducible first | exact HB.out | apply below_alloc | apply pw_below_drewN | apply below_drew1) | exact HB.out)))); have n2_ := Aside0.mk (below_step (by repeat (first | (with_reducible first | exact HB.out | apply below_alloc | apply pw_below_drewN | apply below_drew1) | exact HB.out)) hb); clear HO174; clear HB; have HO174 := n0_; have HO176 := n1_; have HB := n2_; clear n0_ n1_ n2_; (try clear hb); (try clear hb2); (try clear hk); (try clear hi); (try clear ho0); obtain ⟨Ao16, co16, eo16⟩ := Kd.R_slice HO176.out; subst eo16) | ((with_reducible refine gate_callee (f := 16) rfl ?_); refine goesL_ (some 23) rfl rfl Tryd.func16 (by kernel_rfl) rfl #[.slice Ao16 [(⟨3, 30⟩ : S39), (⟨6, 60⟩ : S39), (⟨9, 90⟩ : S39)].length co16, .int .i64 7] rfl (by (try simp only [List.map_toArray, List.map_cons, List.map_nil]); first | done | rfl | (simp only [List.length_drop, List.length_take]; rfl)) ?_; (with_reducible refine (rod_Reading.calls 400 _ _ [(⟨3, 30⟩ : S39), (⟨6, 60⟩ : S39), (⟨9, 90⟩ : S39)] 7 60 89 0 _ ?side1 ?side2 A3.out).mono ?_); (case side1 => repeat (first | exact (Kd.R_reads' HO176.out).2.2 | (with_reducible refine Kd.C_alloc ?_ _) | (with_reducible refine Kd.C_drewN ?_ _) | (with_reducible refine Kd.C_drew ?_))); (case side2 => exact (Kd.R_reads' HO176.out).2.1); rintro e w17 ⟨rfl, hb⟩; refine ⟨_, rfl, ?_⟩; have n0_ := Aside0.mk (Kd.R_below (by (with_reducible repeat (first | apply Kd.R_alloc | apply Kd.R_drewN | apply Kd.R_drew)); exact HO174.out) hb); have n1_ := Aside0.mk (Kd.R_below (by (with_reducible repeat (first | apply Kd.R_alloc | apply Kd.R_drewN | apply Kd.R_drew)); exact HO176.out) hb); have n2_ := Aside0.mk (below_step (by repeat (first | (with_reducible first | exact HB.out | apply below_alloc | apply pw_below_drewN | apply below_drew1) | exact HB.out)) hb); clear HO174; clear HO176; clear HB; have HO174 := n0_; have HO176 := n1_; have HB := n2_; clear n0_ n1_ n2_; (try clear hb); (try clear hb2); (try clear hk); (try clear hi)) | ((with_reducible refine gate_dst (N := 3) rfl ?_); (try (refine gate_guard (by rfl) ?_; dsimp only)); refine box_event ?hg (N := 3) ?hd (cs := #[.int .i64 0, .int .i64 0]) (t := 34) ?hr ?_; (case hd => rfl); (case hg => rfl); (case hr => first | (go_simp; done) | (go_simp; rfl)); intro gb177 hg w18 hbox hb; have n0_ := Aside0.mk (Kd.R_below (by (with_reducible repeat (first | apply Kd.R_alloc | apply Kd.R_drewN | apply Kd.R_drew)); exact HO174.out) hb); have n1_ := Aside0.mk (Kd.R_below (by (with_reducible repeat (first | apply Kd.R_alloc | apply Kd.R_drewN | apply Kd.R_drew)); exact HO176.out) hb); have n2_ := Aside0.mk (below_step (by repeat (first | (with_reducible first | exact HB.out | apply below_alloc | apply pw_below_drewN | apply below_drew1) | exact HB.out)) hb); have n3_ := Aside0.mk (hbox); have n4_ := Aside0.mk ((by rw [hg]; exact (below_size (by repeat (first | (with_reducible first | exact HB.out | apply below_alloc | apply pw_below_drewN | apply below_drew1) | exact HB.out))) : w.heap.size ≤ gb177)); have n5_ := Aside0.mk ((by rw [hg]; exact (below_size (by repeat (first | (with_reducible first | exact HB.out | apply below_alloc | apply pw_below_drewN | apply below_drew1) | exact HB.out))) : w.heap.size ≤ gb177)); clear HO174; clear HO176; clear HB; have HO174 := n0_; have HO176 := n1_; have HB := n2_; have BK177 := n3_; have GW177 := n4_; have GE177 := n5_; clear n0_ n1_ n2_ n3_ n4_ n5_; clear hb hbox hg; have hcz19_0 : w18.cell? ⟨gb177, 0, none⟩ = some (.int .i64 0) := (blk_cell BK177.out 0).trans rfl; have hcz19_1 : w18.cell? ⟨gb177, 1, none⟩ = some (.int .i64 0) := (blk_cell BK177.out 1).trans rfl; have hfz19_0 := blk_frozen BK177.out 0; have hfz19_1 := blk_frozen BK177.out 1) | ((with_reducible refine gate_callee (f := 16) rfl ?_); refine goesL_ (some 28) rfl rfl Tryd.func16 (by kernel_rfl) rfl #[.slice Ao16 [(⟨3, 30⟩ : S39), (⟨6, 60⟩ : S39), (⟨9, 90⟩ : S39)].length co16, .int .i64 2] rfl (by (try simp only [List.map_toArray, List.map_cons, List.map_nil]); first | done | rfl | (simp only [List.length_drop, List.length_take]; rfl)) ?_; (with_reducible refine (rod_Reading.calls 400 _ _ [(⟨3, 30⟩ : S39), (⟨6, 60⟩ : S39), (⟨9, 90⟩ : S39)] 2 0 29 0 _ ?side1 ?side2 A4.out).mono ?_); (case side1 => refine (Kd.R_reads' (e := 39) (base := w.heap.size) (ok := fun k_ => (True ∧ some k_ ≠ (.slice Ao14 [(⟨0, 0⟩ : S39), (⟨10, 100⟩ : S39), (⟨20, 100⟩ : S39)].length co14 : Value).ownBlock)) (n := [(⟨3, 30⟩ : S39), (⟨6, 60⟩ : S39), (⟨9, 90⟩ : S39)].length) (c := co16) ?_).2.2; exact (by (with_reducible repeat (first | apply Kd.R_alloc | apply Kd.R_drewN | apply Kd.R_drew)); exact (Kd.R_mono (Kd.R_far (p := ⟨gb177, 1, none⟩) (Kd.R_far (p := ⟨gb177, 0, none⟩) (Kd.R_types HO176.out BK177.out (by decide)) (fun _ hk => hk.2) (.int .i64 60)) (fun _ hk => hk.2) (.int .i64 89)) (fun _ h_ => h_.1)))); (case side2 => exact (Kd.R_reads' HO176.out).2.1); rintro e w20 ⟨rfl, hb⟩; refine ⟨_, rfl, ?_⟩; have n0_ := Aside0.mk (Kd.R_below (by (with_reducible repeat (first | apply Kd.R_alloc | apply Kd.R_drewN | apply Kd.R_drew)); exact (Kd.R_mono (Kd.R_far (p := ⟨gb177, 1, none⟩) (Kd.R_far (p := ⟨gb177, 0, none⟩) (Kd.R_types HO174.out BK177.out (by decide)) (fun _ hk => hk.2) (.int .i64 60)) (fun _ hk => hk.2) (.int .i64 89)) (fun _ h_ => h_.1))) hb); have n1_ := Aside0.mk (Kd.R_below (by (with_reducible repeat (first | apply Kd.R_alloc | apply Kd.R_drewN | apply Kd.R_drew)); exact (Kd.R_mono (Kd.R_far (p := ⟨gb177, 1, none⟩) (Kd.R_far (p := ⟨gb177, 0, none⟩) (Kd.R_types HO176.out BK177.out (by decide)) (fun _ hk => hk.2) (.int .i64 60)) (fun _ hk => hk.2) (.int .i64 89)) (fun _ h_ => h_.1))) hb); have n2_ := Aside0.mk (blk_below (g := gb177) (o := .cells #[.int .i64 60, .int .i64 89] 34 (0, 0)) (by (with_reducible repeat (first | refine blk_drewN ?_ _ | refine blk_drew ?_ | refine blk_alloc ?_ _)); refine blk_put (cs := #[.int .i64 60, .int .i64 0]) ?_ 1 _ rfl; (with_reducible repeat (first | refine blk_drewN ?_ _ | refine blk_drew ?_ | refine blk_alloc ?_ _)); refine blk_put (cs := #[.int .i64 0, .int .i64 0]) ?_ 0 _ rfl; (with_reducible repeat (first | refine blk_drewN ?_ _ | refine blk_drew ?_ | refine blk_alloc ?_ _)); exact BK177.out) hb); have n3_ := Aside0.mk (below_step (by repeat (first | (with_reducible first | exact HB.out | apply below_alloc | apply pw_below_drewN | apply below_drew1 | refine below_set ?_ GE177.out) | exact HB.out)) hb); clear HO174; clear HO176; clear BK177; clear HB; have HO174 := n0_; have HO176 := n1_; have BK177 := n2_; have HB := n3_; clear n0_ n1_ n2_ n3_; (try clear hb); (try clear hb2); (try clear hk); (try clear hi)) | ((with_reducible refine gate_dst (N := 5) rfl ?_); (try (refine gate_guard (by rfl) ?_; dsimp only)); refine box_event ?hg (N := 5) ?hd (cs := #[.int .i64 0, .int .i64 0]) (t := 34) ?hr ?_; (case hd => rfl); (case hg => rfl); (case hr => first | (go_simp; done) | (go_simp; rfl)); intro gb178 hg w21 hbox hb; have n0_ := Aside0.mk (Kd.R_below (by (with_reducible repeat (first | apply Kd.R_alloc | apply Kd.R_drewN | apply Kd.R_drew)); exact HO174.out) hb); have n1_ := Aside0.mk (Kd.R_below (by (with_reducible repeat (first | apply Kd.R_alloc | apply Kd.R_drewN | apply Kd.R_drew)); exact HO176.out) hb); have n2_ := Aside0.mk (blk_below (g := gb177) (o := .cells #[.int .i64 60, .int .i64 89] 34 (0, 0)) (by (with_reducible repeat (first | refine blk_drewN ?_ _ | refine blk_drew ?_ | refine blk_alloc ?_ _)); exact BK177.out) hb); have n3_ := Aside0.mk (below_step (by repeat (first | (with_reducible first | exact HB.out | apply below_alloc | apply pw_below_drewN | apply below_drew1 | refine below_set ?_ GE177.out) | exact HB.out)) hb); have n4_ := Aside0.mk (hbox); have n5_ := Aside0.mk ((by rw [hg]; exact (below_size (by repeat (first | (with_reducible first | exact HB.out | apply below_alloc | apply pw_below_drewN | apply below_drew1 | refine below_set ?_ GE177.out) | exact HB.out))) : w.heap.size ≤ gb178)); have n6_ := Aside0.mk ((by rw [hg]; exact (below_size (by repeat (first | (with_reducible first | exact HB.out | apply below_alloc | apply pw_below_drewN | apply below_drew1 | refine below_set ?_ GE177.out) | exact HB.out))) : w.heap.size ≤ gb178)); have n7_ := Aside0.mk ((by rw [hg]; exact Nat.ne_of_lt (blk_lt (g := gb177) (o := .cells #[.int .i64 60, .int .i64 89] 34 (0, 0)) (by (with_reducible repeat (first | refine blk_drewN ?_ _ | refine blk_drew ?_ | refine blk_alloc ?_ _)); exact BK177.out)) : gb177 ≠ gb178)); have n8_ := Aside0.mk ((by rw [hg]; exact Nat.ne_of_gt (blk_lt (g := gb177) (o := .cells #[.int .i64 60, .int .i64 89] 34 (0, 0)) (by (with_reducible repeat (first | refine blk_drewN ?_ _ | refine blk_drew ?_ | refine blk_alloc ?_ _)); exact BK177.out)) : gb178 ≠ gb177)); clear HO174; clear HO176; clear BK177; clear HB; have HO174 := n0_; have HO176 := n1_; have BK177 := n2_; have HB := n3_; have BK178 := n4_; have GW178 := n5_; have GE178 := n6_; have NB177_178 := n7_; have NB178_177 := n8_; clear n0_ n1_ n2_ n3_ n4_ n5_ n6_ n7_ n8_; clear hb hbox hg; have hnb22 := NB178_177.out; have hnc22 := NB177_178.out; have hcz23_0 : w21.cell? ⟨gb178, 0, none⟩ = some (.int .i64 0) := (blk_cell BK178.out 0).trans rfl; have hcz23_1 : w21.cell? ⟨gb178, 1, none⟩ = some (.int .i64 0) := (blk_cell BK178.out 1).trans rfl; have hfz23_0 := blk_frozen BK178.out 0; have hfz23_1 := blk_frozen BK178.out 1) | ((with_reducible refine gate_callee (f := 16) rfl ?_); refine goesL_ (some 33) rfl rfl Tryd.func16 (by kernel_rfl) rfl #[.slice Ao16 [(⟨3, 30⟩ : S39), (⟨6, 60⟩ : S39), (⟨9, 90⟩ : S39)].length co16, .int .i64 9] rfl (by (try simp only [List.map_toArray, List.map_cons, List.map_nil]); first | done | rfl | (simp only [List.length_drop, List.length_take]; rfl)) ?_; (with_reducible refine (rod_Reading.calls 400 _ _ [(⟨3, 30⟩ : S39), (⟨6, 60⟩ : S39), (⟨9, 90⟩ : S39)] 9 90 90 0 _ ?side1 ?side2 A5.out).mono ?_); (case side1 => refine (Kd.R_reads' (e := 39) (base := w.heap.size) (ok := fun k_ => (True ∧ some k_ ≠ (.slice Ao14 [(⟨0, 0⟩ : S39), (⟨10, 100⟩ : S39), (⟨20, 100⟩ : S39)].length co14 : Value).ownBlock)) (n := [(⟨3, 30⟩ : S39), (⟨6, 60⟩ : S39), (⟨9, 90⟩ : S39)].length) (c := co16) ?_).2.2; exact (by (with_reducible repeat (first | apply Kd.R_alloc | apply Kd.R_drewN | apply Kd.R_drew)); exact (Kd.R_mono (Kd.R_far (p := ⟨gb178, 1, none⟩) (Kd.R_far (p := ⟨gb178, 0, none⟩) (Kd.R_types HO176.out BK178.out (by decide)) (fun _ hk => hk.2) (.int .i64 0)) (fun _ hk => hk.2) (.int .i64 29)) (fun _ h_ => h_.1)))); (case side2 => exact (Kd.R_reads' HO176.out).2.1); rintro e w24 ⟨rfl, hb⟩; refine ⟨_, rfl, ?_⟩; have n0_ := Aside0.mk (Kd.R_below (by (with_reducible repeat (first | apply Kd.R_alloc | apply Kd.R_drewN | apply Kd.R_drew)); exact (Kd.R_mono (Kd.R_far (p := ⟨gb178, 1, none⟩) (Kd.R_far (p := ⟨gb178, 0, none⟩) (Kd.R_types HO174.out BK178.out (by decide)) (fun _ hk => hk.2) (.int .i64 0)) (fun _ hk => hk.2) (.int .i64 29)) (fun _ h_ => h_.1))) hb); have n1_ := Aside0.mk (Kd.R_below (by (with_reducible repeat (first | apply Kd.R_alloc | apply Kd.R_drewN | apply Kd.R_drew)); exact (Kd.R_mono (Kd.R_far (p := ⟨gb178, 1, none⟩) (Kd.R_far (p := ⟨gb178, 0, none⟩) (Kd.R_types HO176.out BK178.out (by decide)) (fun _ hk => hk.2) (.int .i64 0)) (fun _ hk => hk.2) (.int .i64 29)) (fun _ h_ => h_.1))) hb); have n2_ := Aside0.mk (blk_below (g := gb177) (o := .cells #[.int .i64 60, .int .i64 89] 34 (0, 0)) (by (with_reducible repeat (first | refine blk_drewN ?_ _ | refine blk_drew ?_ | refine blk_alloc ?_ _)); refine blk_far ?_ NB177_178.out _; (with_reducible repeat (first | refine blk_drewN ?_ _ | refine blk_drew ?_ | refine blk_alloc ?_ _)); refine blk_far ?_ NB177_178.out _; (with_reducible repeat (first | refine blk_drewN ?_ _ | refine blk_drew ?_ | refine blk_alloc ?_ _)); exact BK177.out) hb); have n3_ := Aside0.mk (blk_below (g := gb178) (o := .cells #[.int .i64 0, .int .i64 29] 34 (0, 0)) (by (with_reducible repeat (first | refine blk_drewN ?_ _ | refine blk_drew ?_ | refine blk_alloc ?_ _)); refine blk_put (cs := #[.int .i64 0, .int .i64 0]) ?_ 1 _ rfl; (with_reducible repeat (first | refine blk_drewN ?_ _ | refine blk_drew ?_ | refine blk_alloc ?_ _)); refine blk_put (cs := #[.int .i64 0, .int .i64 0]) ?_ 0 _ rfl; (with_reducible repeat (first | refine blk_drewN ?_ _ | refine blk_drew ?_ | refine blk_alloc ?_ _)); exact BK178.out) hb); have n4_ := Aside0.mk (below_step (by repeat (first | (with_reducible first | exact HB.out | apply below_alloc | apply pw_below_drewN | apply below_drew1 | refine below_set ?_ GE177.out | refine below_set ?_ GE178.out) | exact HB.out)) hb); clear HO174; clear HO176; clear BK177; clear BK178; clear HB; have HO174 := n0_; have HO176 := n1_; have BK177 := n2_; have BK178 := n3_; have HB := n4_; clear n0_ n1_ n2_ n3_ n4_; (try clear hb); (try clear hb2); (try clear hk); (try clear hi)) | ((with_reducible refine gate_dst (N := 7) rfl ?_); (try (refine gate_guard (by rfl) ?_; dsimp only)); refine box_event ?hg (N := 7) ?hd (cs := #[.int .i64 0, .int .i64 0]) (t := 34) ?hr ?_; (case hd => rfl); (case hg => rfl); (case hr => first | (go_simp; done) | (go_simp; rfl)); intro gb179 hg w25 hbox hb; have n0_ := Aside0.mk (Kd.R_below (by (with_reducible repeat (first | apply Kd.R_alloc | apply Kd.R_drewN | apply Kd.R_drew)); exact HO174.out) hb); have n1_ := Aside0.mk (Kd.R_below (by (with_reducible repeat (first | apply Kd.R_alloc | apply Kd.R_drewN | apply Kd.R_drew)); exact HO176.out) hb); have n2_ := Aside0.mk (blk_below (g := gb177) (o := .cells #[.int .i64 60, .int .i64 89] 34 (0, 0)) (by (with_reducible repeat (first | refine blk_drewN ?_ _ | refine blk_drew ?_ | refine blk_alloc ?_ _)); exact BK177.out) hb); have n3_ := Aside0.mk (blk_below (g := gb178) (o := .cells #[.int .i64 0, .int .i64 29] 34 (0, 0)) (by (with_reducible repeat (first | refine blk_drewN ?_ _ | refine blk_drew ?_ | refine blk_alloc ?_ _)); exact BK178.out) hb); have n4_ := Aside0.mk (below_step (by repeat (first | (with_reducible first | exact HB.out | apply below_alloc | apply pw_below_drewN | apply below_drew1 | refine below_set ?_ GE177.out | refine below_set ?_ GE178.out) | exact HB.out)) hb); have n5_ := Aside0.mk (hbox); have n6_ := Aside0.mk ((by rw [hg]; exact (below_size (by repeat (first | (with_reducible first | exact HB.out | apply below_alloc | apply pw_below_drewN | apply below_drew1 | refine below_set ?_ GE177.out | refine below_set ?_ GE178.out) | exact HB.out))) : w.heap.size ≤ gb179)); have n7_ := Aside0.mk ((by rw [hg]; exact (below_size (by repeat (first | (with_reducible first | exact HB.out | apply below_alloc | apply pw_below_drewN | apply below_drew1 | refine below_set ?_ GE177.out | refine below_set ?_ GE178.out) | exact HB.out))) : w.heap.size ≤ gb179)); have n8_ := Aside0.mk ((by rw [hg]; exact Nat.ne_of_lt (blk_lt (g := gb177) (o := .cells #[.int .i64 60, .int .i64 89] 34 (0, 0)) (by (with_reducible repeat (first | refine blk_drewN ?_ _ | refine blk_drew ?_ | refine blk_alloc ?_ _)); exact BK177.out)) : gb177 ≠ gb179)); have n9_ := Aside0.mk ((by rw [hg]; exact Nat.ne_of_gt (blk_lt (g := gb177) (o := .cells #[.int .i64 60, .int .i64 89] 34 (0, 0)) (by (with_reducible repeat (first | refine blk_drewN ?_ _ | refine blk_drew ?_ | refine blk_alloc ?_ _)); exact BK177.out)) : gb179 ≠ gb177)); have n10_ := Aside0.mk ((by rw [hg]; exact Nat.ne_of_lt (blk_lt (g := gb178) (o := .cells #[.int .i64 0, .int .i64 29] 34 (0, 0)) (by (with_reducible repeat (first | refine blk_drewN ?_ _ | refine blk_drew ?_ | refine blk_alloc ?_ _)); exact BK178.out)) : gb178 ≠ gb179)); have n11_ := Aside0.mk ((by rw [hg]; exact Nat.ne_of_gt (blk_lt (g := gb178) (o := .cells #[.int .i64 0, .int .i64 29] 34 (0, 0)) (by (with_reducible repeat (first | refine blk_drewN ?_ _ | refine blk_drew ?_ | refine blk_alloc ?_ _)); exact BK178.out)) : gb179 ≠ gb178)); clear HO174; clear HO176; clear BK177; clear BK178; clear HB; have HO174 := n0_; have HO176 := n1_; have BK177 := n2_; have BK178 := n3_; have HB := n4_; have BK179 := n5_; have GW179 := n6_; have GE179 := n7_; have NB177_179 := n8_; have NB179_177 := n9_; have NB178_179 := n10_; have NB179_178 := n11_; clear n0_ n1_ n2_ n3_ n4_ n5_ n6_ n7_ n8_ n9_ n10_ n11_; clear hb hbox hg; have hnb26 := NB179_177.out; have hnc26 := NB177_179.out; have hnb27 := NB179_178.out; have hnc27 := NB178_179.out; have hcz28_0 : w25.cell? ⟨gb179, 0, none⟩ = some (.int .i64 0) := (blk_cell BK179.out 0).trans rfl; have hcz28_1 : w25.cell? ⟨gb179, 1, none⟩ = some (.int .i64 0) := (blk_cell BK179.out 1).trans rfl; have hfz28_0 := blk_frozen BK179.out 0; have hfz28_1 := blk_frozen BK179.out 1) | ((with_reducible refine gate_callee (f := 30) rfl ?_); refine goesL_ (some 38) rfl rfl Tryd.func30 (by kernel_rfl) rfl #[] rfl (by (try simp only [List.map_toArray, List.map_cons, List.map_nil]); first | done | rfl | (simp only [List.length_drop, List.length_take]; rfl)) ?_; (with_reducible refine (spilelaw14_Steps.calls  [(⟨0, 0⟩ : S39), (⟨10, 100⟩ : S39), (⟨20, 100⟩ : S39)] 0 _ A6.out).mono ?_); rintro e w29 ⟨v180, rfl, ho0, hb⟩; refine ⟨_, rfl, ?_⟩; have n0_ := Aside0.mk (Kd.R_elder' (by (with_reducible repeat (first | apply Kd.R_alloc | apply Kd.R_drewN | apply Kd.R_drew)); exact (Kd.R_mono (Kd.R_far (p := ⟨gb179, 1, none⟩) (Kd.R_far (p := ⟨gb179, 0, none⟩) (Kd.R_types HO174.out BK179.out (by decide)) (fun _ hk => hk.2) (.int .i64 90)) (fun _ hk => hk.2) (.int .i64 90)) (fun _ h_ => h_.1))) (Kd.R_base ho0) hb); have n1_ := Aside0.mk (Kd.R_elder' (by (with_reducible repeat (first | apply Kd.R_alloc | apply Kd.R_drewN | apply Kd.R_drew)); exact (Kd.R_mono (Kd.R_far (p := ⟨gb179, 1, none⟩) (Kd.R_far (p := ⟨gb179, 0, none⟩) (Kd.R_types HO176.out BK179.out (by decide)) (fun _ hk => hk.2) (.int .i64 90)) (fun _ hk => hk.2) (.int .i64 90)) (fun _ h_ => h_.1))) (Kd.R_base ho0) hb); have n2_ := Aside0.mk (Kd.R_lower (Kd.R_new' (Kd.R_new' ho0 (Kd.R_lt (by (with_reducible repeat (first | apply Kd.R_alloc | apply Kd.R_drewN | apply Kd.R_drew)); exact (Kd.R_mono (Kd.R_far (p := ⟨gb179, 1, none⟩) (Kd.R_far (p := ⟨gb179, 0, none⟩) (Kd.R_types HO174.out BK179.out (by decide)) (fun _ hk => hk.2) (.int .i64 90)) (fun _ hk => hk.2) (.int .i64 90)) (fun _ h_ => h_.1))))) (Kd.R_lt (by (with_reducible repeat (first | apply Kd.R_alloc | apply Kd.R_drewN | apply Kd.R_drew)); exact (Kd.R_mono (Kd.R_far (p := ⟨gb179, 1, none⟩) (Kd.R_far (p := ⟨gb179, 0, none⟩) (Kd.R_types HO176.out BK179.out (by decide)) (fun _ hk => hk.2) (.int .i64 90)) (fun _ hk => hk.2) (.int .i64 90)) (fun _ h_ => h_.1))))) (below_size (by repeat (first | (with_reducible first | exact HB.out | apply below_alloc | apply pw_below_drewN | apply below_drew1 | refine below_set ?_ GE177.out | refine below_set ?_ GE178.out | refine below_set ?_ GE179.out) | exact HB.out)))); have n3_ := Aside0.mk (blk_below (g := gb177) (o := .cells #[.int .i64 60, .int .i64 89] 34 (0, 0)) (by (with_reducible repeat (first | refine blk_drewN ?_ _ | refine blk_drew ?_ | refine blk_alloc ?_ _)); refine blk_far ?_ NB177_179.out _; (with_reducible repeat (first | refine blk_drewN ?_ _ | refine blk_drew ?_ | refine blk_alloc ?_ _)); refine blk_far ?_ NB177_179.out _; (with_reducible repeat (first | refine blk_drewN ?_ _ | refine blk_drew ?_ | refine blk_alloc ?_ _)); exact BK177.out) hb); have n4_ := Aside0.mk (blk_below (g := gb178) (o := .cells #[.int .i64 0, .int .i64 29] 34 (0, 0)) (by (with_reducible repeat (first | refine blk_drewN ?_ _ | refine blk_drew ?_ | refine blk_alloc ?_ _)); refine blk_far ?_ NB178_179.out _; (with_reducible repeat (first | refine blk_drewN ?_ _ | refine blk_drew ?_ | refine blk_alloc ?_ _)); refine blk_far ?_ NB178_179.out _; (with_reducible repeat (first | refine blk_drewN ?_ _ | refine blk_drew ?_ | refine blk_alloc ?_ _)); exact BK178.out) hb); have n5_ := Aside0.mk (blk_below (g := gb179) (o := .cells #[.int .i64 90, .int .i64 90] 34 (0, 0)) (by (with_reducible repeat (first | refine blk_drewN ?_ _ | refine blk_drew ?_ | refine blk_alloc ?_ _)); refine blk_put (cs := #[.int .i64 90, .int .i64 0]) ?_ 1 _ rfl; (with_reducible repeat (first | refine blk_drewN ?_ _ | refine blk_drew ?_ | refine blk_alloc ?_ _)); refine blk_put (cs := #[.int .i64 0, .int .i64 0]) ?_ 0 _ rfl; (with_reducible repeat (first | refine blk_drewN ?_ _ | refine blk_drew ?_ | refine blk_alloc ?_ _)); exact BK179.out) hb); have n6_ := Aside0.mk (below_step (by repeat (first | (with_reducible first | exact HB.out | apply below_alloc | apply pw_below_drewN | apply below_drew1 | refine below_set ?_ GE177.out | refine below_set ?_ GE178.out | refine below_set ?_ GE179.out) | exact HB.out)) hb); clear HO174; clear HO176; clear BK177; clear BK178; clear BK179; clear HB; have HO174 := n0_; have HO176 := n1_; have HO181 := n2_; have BK177 := n3_; have BK178 := n4_; have BK179 := n5_; have HB := n6_; clear n0_ n1_ n2_ n3_ n4_ n5_ n6_; (try clear hb); (try clear hb2); (try clear hk); (try clear hi); (try clear ho0); obtain ⟨Ao30, co30, eo30⟩ := Kd.R_slice HO181.out; subst eo30) | ((with_reducible refine gate_callee (f := 19) rfl ?_); refine goesL_ (some 39) rfl rfl Tryd.func19 (by kernel_rfl) rfl #[.slice Ao16 [(⟨3, 30⟩ : S39), (⟨6, 60⟩ : S39), (⟨9, 90⟩ : S39)].length co16, .agg #[.slice Ao30 [(⟨0, 0⟩ : S39), (⟨10, 100⟩ : S39), (⟨20, 100⟩ : S39)].length co30, .int .i64 0], .int .i64 0] rfl (by (try simp only [List.map_toArray, List.map_cons, List.map_nil]); first | done | rfl | (simp only [List.length_drop, List.length_take]; rfl)) ?_; (with_reducible refine (rod_Compare.calls 400 _ _ [(⟨3, 30⟩ : S39), (⟨6, 60⟩ : S39), (⟨9, 90⟩ : S39)] _ _ [(⟨0, 0⟩ : S39), (⟨10, 100⟩ : S39), (⟨20, 100⟩ : S39)] 0 0 (-1) 0 _ ?side1 ?side2 ?side3 ?side4 A7.out).mono ?_); (case side1 => repeat (first | exact (Kd.R_reads' HO176.out).2.2 | (with_reducible refine Kd.C_alloc ?_ _) | (with_reducible refine Kd.C_drewN ?_ _) | (with_reducible refine Kd.C_drew ?_))); (case side2 => exact (Kd.R_reads' HO176.out).2.1); (case side3 => repeat (first | exact (Kd.R_reads' HO181.out).2.2 | (with_reducible refine Kd.C_alloc ?_ _) | (with_reducible refine Kd.C_drewN ?_ _) | (with_reducible refine Kd.C_drew ?_))); (case side4 => exact (Kd.R_reads' HO181.out).2.1); rintro e w31 ⟨rfl, hb⟩; refine ⟨_, rfl, ?_⟩; have n0_ := Aside0.mk (Kd.R_below (by (with_reducible repeat (first | apply Kd.R_alloc | apply Kd.R_drewN | apply Kd.R_drew)); exact HO174.out) hb); have n1_ := Aside0.mk (Kd.R_below (by (with_reducible repeat (first | apply Kd.R_alloc | apply Kd.R_drewN | apply Kd.R_drew)); exact HO176.out) hb); have n2_ := Aside0.mk (Kd.R_below (by (with_reducible repeat (first | apply Kd.R_alloc | apply Kd.R_drewN | apply Kd.R_drew)); exact HO181.out) hb); have n3_ := Aside0.mk (blk_below (g := gb177) (o := .cells #[.int .i64 60, .int .i64 89] 34 (0, 0)) (by (with_reducible repeat (first | refine blk_drewN ?_ _ | refine blk_drew ?_ | refine blk_alloc ?_ _)); exact BK177.out) hb); have n4_ := Aside0.mk (blk_below (g := gb178) (o := .cells #[.int .i64 0, .int .i64 29] 34 (0, 0)) (by (with_reducible repeat (first | refine blk_drewN ?_ _ | refine blk_drew ?_ | refine blk_alloc ?_ _)); exact BK178.out) hb); have n5_ := Aside0.mk (blk_below (g := gb179) (o := .cells #[.int .i64 90, .int .i64 90] 34 (0, 0)) (by (with_reducible repeat (first | refine blk_drewN ?_ _ | refine blk_drew ?_ | refine blk_alloc ?_ _)); exact BK179.out) hb); have n6_ := Aside0.mk (below_step (by repeat (first | (with_reducible first | exact HB.out | apply below_alloc | apply pw_below_drewN | apply below_drew1 | refine below_set ?_ GE177.out | refine below_set ?_ GE178.out | refine below_set ?_ GE179.out) | exact HB.out)) hb); clear HO174; clear HO176; clear HO181; clear BK177; clear BK178; clear BK179; clear HB; have HO174 := n0_; have HO176 := n1_; have HO181 := n2_; have BK177 := n3_; have BK178 := n4_; have BK179 := n5_; have HB := n6_; clear n0_ n1_ n2_ n3_ n4_ n5_ n6_; (try clear hb); (try clear hb2); (try clear hk); (try clear hi)) | ((with_reducible refine gate_callee (f := 23) rfl ?_); refine goesL_ (some 44) rfl rfl Tryd.func23 (by kernel_rfl) rfl #[.slice Ao16 [(⟨3, 30⟩ : S39), (⟨6, 60⟩ : S39), (⟨9, 90⟩ : S39)].length co16] rfl (by (try simp only [List.map_toArray, List.map_cons, List.map_nil]); first | done | rfl | (simp only [List.length_drop, List.length_take]; rfl)) ?_; (with_reducible refine (rod_Print.calls 400 _ _ [(⟨3, 30⟩ : S39), (⟨6, 60⟩ : S39), (⟨9, 90⟩ : S39)] (⟨#[51, 32, 51, 48, 10, 54, 32, 54, 48, 10, 57, 32, 57, 48, 10]⟩ : ByteArray) 0 _ ?side1 ?side2 ?side3 A8.out).mono ?_); (case side1 => repeat (first | exact (Kd.R_reads' HO176.out).2.2 | (with_reducible refine Kd.C_alloc ?_ _) | (with_reducible refine Kd.C_drewN ?_ _) | (with_reducible refine Kd.C_drew ?_))); (case side2 => exact (Kd.R_reads' HO176.out).2.1); (case side3 => exact GI.below HG.out (by repeat (first | (with_reducible first | exact HB.out | apply below_alloc | apply pw_below_drewN | apply below_drew1 | refine below_set ?_ GE177.out | refine below_set ?_ GE178.out | refine below_set ?_ GE179.out) | exact HB.out))); rintro e w32 ⟨rfl, hb⟩; refine ⟨_, rfl, ?_⟩; have n0_ := Aside0.mk (Kd.R_below (by (with_reducible repeat (first | apply Kd.R_alloc | apply Kd.R_drewN | apply Kd.R_drew)); exact HO174.out) hb); have n1_ := Aside0.mk (Kd.R_below (by (with_reducible repeat (first | apply Kd.R_alloc | apply Kd.R_drewN | apply Kd.R_drew)); exact HO176.out) hb); have n2_ := Aside0.mk (Kd.R_below (by (with_reducible repeat (first | apply Kd.R_alloc | apply Kd.R_drewN | apply Kd.R_drew)); exact HO181.out) hb); have n3_ := Aside0.mk (blk_below (g := gb177) (o := .cells #[.int .i64 60, .int .i64 89] 34 (0, 0)) (by (with_reducible repeat (first | refine blk_drewN ?_ _ | refine blk_drew ?_ | refine blk_alloc ?_ _)); exact BK177.out) hb); have n4_ := Aside0.mk (blk_below (g := gb178) (o := .cells #[.int .i64 0, .int .i64 29] 34 (0, 0)) (by (with_reducible repeat (first | refine blk_drewN ?_ _ | refine blk_drew ?_ | refine blk_alloc ?_ _)); exact BK178.out) hb); have n5_ := Aside0.mk (blk_below (g := gb179) (o := .cells #[.int .i64 90, .int .i64 90] 34 (0, 0)) (by (with_reducible repeat (first | refine blk_drewN ?_ _ | refine blk_drew ?_ | refine blk_alloc ?_ _)); exact BK179.out) hb); have n6_ := Aside0.mk (below_step (by repeat (first | (with_reducible first | exact HB.out | apply below_alloc | apply pw_below_drewN | apply below_drew1 | refine below_set ?_ GE177.out | refine below_set ?_ GE178.out | refine below_set ?_ GE179.out) | exact HB.out)) hb); clear HO174; clear HO176; clear HO181; clear BK177; clear BK178; clear BK179; clear HB; have HO174 := n0_; have HO176 := n1_; have HO181 := n2_; have BK177 := n3_; have BK178 := n4_; have BK179 := n5_; have HB := n6_; clear n0_ n1_ n2_ n3_ n4_ n5_ n6_; (try clear hb); (try clear hb2); (try clear hk); (try clear hi)) | ((with_reducible refine gate_callee (f := 25) rfl ?_); refine goesL_ (some 49) rfl rfl Tryd.func25 (by kernel_rfl) rfl #[.string (⟨#[51, 32, 51, 48, 10, 54, 32, 54, 48, 10, 57, 32, 57, 48, 10]⟩ : ByteArray)] rfl (by (try simp only [List.map_toArray, List.map_cons, List.map_nil]); first | done | rfl | (simp only [List.length_drop, List.length_take]; rfl)) ?_; (with_reducible refine (rod_Parse.calls 400 (⟨#[51, 32, 51, 48, 10, 54, 32, 54, 48, 10, 57, 32, 57, 48, 10]⟩ : ByteArray) [(⟨3, 30⟩ : S39), (⟨6, 60⟩ : S39), (⟨9, 90⟩ : S39)] 0 0 _ ?side1 A9.out).mono ?_); (case side1 => exact GI.below HG.out (by repeat (first | (with_reducible first | exact HB.out | apply below_alloc | apply pw_below_drewN | apply below_drew1 | refine below_set ?_ GE177.out | refine below_set ?_ GE178.out | refine below_set ?_ GE179.out) | exact HB.out))); rintro e w33 ⟨v182, rfl, ho0, hb⟩; refine ⟨_, rfl, ?_⟩; have n0_ := Aside0.mk (Kd.R_elder' (by (with_reducible repeat (first | apply Kd.R_alloc | apply Kd.R_drewN | apply Kd.R_drew)); exact HO174.out) (Kd.R_base ho0) hb); have n1_ := Aside0.mk (Kd.R_elder' (by (with_reducible repeat (first | apply Kd.R_alloc | apply Kd.R_drewN | apply Kd.R_drew)); exact HO176.out) (Kd.R_base ho0) hb); have n2_ := Aside0.mk (Kd.R_elder' (by (with_reducible repeat (first | apply Kd.R_alloc | apply Kd.R_drewN | apply Kd.R_drew)); exact HO181.out) (Kd.R_base ho0) hb); have n3_ := Aside0.mk (Kd.R_lower (Kd.R_new' (Kd.R_new' (Kd.R_new' ho0 (Kd.R_lt (by (with_reducible repeat (first | apply Kd.R_alloc | apply Kd.R_drewN | apply Kd.R_drew)); exact HO174.out))) (Kd.R_lt (by (with_reducible repeat (first | apply Kd.R_alloc | apply Kd.R_drewN | apply Kd.R_drew)); exact HO176.out))) (Kd.R_lt (by (with_reducible repeat (first | apply Kd.R_alloc | apply Kd.R_drewN | apply Kd.R_drew)); exact HO181.out))) (below_size (by repeat (first | (with_reducible first | exact HB.out | apply below_alloc | apply pw_below_drewN | apply below_drew1 | refine below_set ?_ GE177.out | refine below_set ?_ GE178.out | refine below_set ?_ GE179.out) | exact HB.out)))); have n4_ := Aside0.mk (blk_below (g := gb177) (o := .cells #[.int .i64 60, .int .i64 89] 34 (0, 0)) (by (with_reducible repeat (first | refine blk_drewN ?_ _ | refine blk_drew ?_ | refine blk_alloc ?_ _)); exact BK177.out) hb); have n5_ := Aside0.mk (blk_below (g := gb178) (o := .cells #[.int .i64 0, .int .i64 29] 34 (0, 0)) (by (with_reducible repeat (first | refine blk_drewN ?_ _ | refine blk_drew ?_ | refine blk_alloc ?_ _)); exact BK178.out) hb); have n6_ := Aside0.mk (blk_below (g := gb179) (o := .cells #[.int .i64 90, .int .i64 90] 34 (0, 0)) (by (with_reducible repeat (first | refine blk_drewN ?_ _ | refine blk_drew ?_ | refine blk_alloc ?_ _)); exact BK179.out) hb); have n7_ := Aside0.mk (below_step (by repeat (first | (with_reducible first | exact HB.out | apply below_alloc | apply pw_below_drewN | apply below_drew1 | refine below_set ?_ GE177.out | refine below_set ?_ GE178.out | refine below_set ?_ GE179.out) | exact HB.out)) hb); clear HO174; clear HO176; clear HO181; clear BK177; clear BK178; clear BK179; clear HB; have HO174 := n0_; have HO176 := n1_; have HO181 := n2_; have HO183 := n3_; have BK177 := n4_; have BK178 := n5_; have BK179 := n6_; have HB := n7_; clear n0_ n1_ n2_ n3_ n4_ n5_ n6_ n7_; (try clear hb); (try clear hb2); (try clear hk); (try clear hi); (try clear ho0)) | ((with_reducible refine gate_dst (N := 84) rfl ?_); (try (refine gate_guard (by rfl) ?_; dsimp only)); refine Kd.R_lit k39 _ 39 ?hg (N := 84) ?hd (xs := ([(⟨3, 30⟩ : S39), (⟨6, 60⟩ : S39), (⟨9, 90⟩ : S39)] : List (S39))) (inner := [.int .i64 3, .int .i64 30, .int .i64 6, .int .i64 60, .int .i64 9, .int .i64 90]) (ok := fun _ => True) (okp := fun _ => True) ?hr ?hp (fun _ hk => hk) trivial (Below.refl _ _) (Nat.le_refl _) (by simp) ?_; (case hd => rfl); (case hg => rfl); (case hr => first | (go_simp; done) | (go_simp; rfl)); (case hp => exact (Reps.c2 (show Kd.M k39 _ _ _ (⟨3, 30⟩ : S39) [.int .i64 3, .int .i64 30] from (k39_mkM _ _ _ (⟨3, 30⟩ : S39) )) (Reps.c2 (show Kd.M k39 _ _ _ (⟨6, 60⟩ : S39) [.int .i64 6, .int .i64 60] from (k39_mkM _ _ _ (⟨6, 60⟩ : S39) )) (Reps.c2 (show Kd.M k39 _ _ _ (⟨9, 90⟩ : S39) [.int .i64 9, .int .i64 90] from (k39_mkM _ _ _ (⟨9, 90⟩ : S39) )) (Reps.none _ _))))); intro v185 w34 ho35 hb hg_ hnew_; clear hg_ hnew_; (first | rw [← Ny184.out] at ho35 | (simp only [Int.reduceToNat] at ho35; rw [← Ny184.out] at ho35)); have n0_ := Aside0.mk (Kd.R_elder' (by (with_reducible repeat (first | apply Kd.R_alloc | apply Kd.R_drewN | apply Kd.R_drew)); exact HO174.out) (Kd.R_base ho35) hb); have n1_ := Aside0.mk (Kd.R_elder' (by (with_reducible repeat (first | apply Kd.R_alloc | apply Kd.R_drewN | apply Kd.R_drew)); exact HO176.out) (Kd.R_base ho35) hb); have n2_ := Aside0.mk (Kd.R_elder' (by (with_reducible repeat (first | apply Kd.R_alloc | apply Kd.R_drewN | apply Kd.R_drew)); exact HO181.out) (Kd.R_base ho35) hb); have n3_ := Aside0.mk (Kd.R_elder' (by (with_reducible repeat (first | apply Kd.R_alloc | apply Kd.R_drewN | apply Kd.R_drew)); exact HO183.out) (Kd.R_base ho35) hb); have n4_ := Aside0.mk (Kd.R_lower (Kd.R_new' (Kd.R_new' (Kd.R_new' (Kd.R_new' ho35 (Kd.R_lt (by (with_reducible repeat (first | apply Kd.R_alloc | apply Kd.R_drewN | apply Kd.R_drew)); exact HO174.out))) (Kd.R_lt (by (with_reducible repeat (first | apply Kd.R_alloc | apply Kd.R_drewN | apply Kd.R_drew)); exact HO176.out))) (Kd.R_lt (by (with_reducible repeat (first | apply Kd.R_alloc | apply Kd.R_drewN | apply Kd.R_drew)); exact HO181.out))) (Kd.R_lt (by (with_reducible repeat (first | apply Kd.R_alloc | apply Kd.R_drewN | apply Kd.R_drew)); exact HO183.out))) (below_size (by repeat (first | (with_reducible first | exact HB.out | apply below_alloc | apply pw_below_drewN | apply below_drew1 | refine below_set ?_ GE177.out | refine below_set ?_ GE178.out | refine below_set ?_ GE179.out) | exact HB.out)))); have n5_ := Aside0.mk (blk_below (g := gb177) (o := .cells #[.int .i64 60, .int .i64 89] 34 (0, 0)) (by (with_reducible repeat (first | refine blk_drewN ?_ _ | refine blk_drew ?_ | refine blk_alloc ?_ _)); exact BK177.out) hb); have n6_ := Aside0.mk (blk_below (g := gb178) (o := .cells #[.int .i64 0, .int .i64 29] 34 (0, 0)) (by (with_reducible repeat (first | refine blk_drewN ?_ _ | refine blk_drew ?_ | refine blk_alloc ?_ _)); exact BK178.out) hb); have n7_ := Aside0.mk (blk_below (g := gb179) (o := .cells #[.int .i64 90, .int .i64 90] 34 (0, 0)) (by (with_reducible repeat (first | refine blk_drewN ?_ _ | refine blk_drew ?_ | refine blk_alloc ?_ _)); exact BK179.out) hb); have n8_ := Aside0.mk (below_step (by repeat (first | (with_reducible first | exact HB.out | apply below_alloc | apply pw_below_drewN | apply below_drew1 | refine below_set ?_ GE177.out | refine below_set ?_ GE178.out | refine below_set ?_ GE179.out) | exact HB.out)) hb); clear HO174; clear HO176; clear HO181; clear HO183; clear BK177; clear BK178; clear BK179; clear HB; have HO174 := n0_; have HO176 := n1_; have HO181 := n2_; have HO183 := n3_; have HO186 := n4_; have BK177 := n5_; have BK178 := n6_; have BK179 := n7_; have HB := n8_; clear n0_ n1_ n2_ n3_ n4_ n5_ n6_ n7_ n8_; clear hb ho35; obtain ⟨Ao36, co36, eo36⟩ := Kd.R_slice HO186.out; subst eo36) | (go_at_call 15; refine calls_of_args (args' := #[.slice Ao16 [(⟨3, 30⟩ : S39), (⟨6, 60⟩ : S39), (⟨9, 90⟩ : S39)].length co16, .slice Ao36 y184.length co36]) (by first | rfl | done) ?_; (with_reducible refine (spileref14_Same.calls 400 _ _ [(⟨3, 30⟩ : S39), (⟨6, 60⟩ : S39), (⟨9, 90⟩ : S39)] _ _ y184 true _ ?side1 ?side2 ?side3 ?side4 A10.out).mono ?_); (case side1 => repeat (first | exact (Kd.R_reads' HO176.out).2.2 | (with_reducible refine Kd.C_alloc ?_ _) | (with_reducible refine Kd.C_drewN ?_ _) | (with_reducible refine Kd.C_drew ?_))); (case side2 => exact (Kd.R_reads' HO176.out).2.1); (case side3 => repeat (first | exact (Kd.R_reads' HO186.out).2.2 | (with_reducible refine Kd.C_alloc ?_ _) | (with_reducible refine Kd.C_drewN ?_ _) | (with_reducible refine Kd.C_drew ?_))); (case side4 => exact (Kd.R_reads' HO186.out).2.1); rintro e w37 ⟨rfl, hb⟩; have n0_ := Aside0.mk (Kd.R_below (by (with_reducible repeat (first | apply Kd.R_alloc | apply Kd.R_drewN | apply Kd.R_drew)); exact HO174.out) hb); have n1_ := Aside0.mk (Kd.R_below (by (with_reducible repeat (first | apply Kd.R_alloc | apply Kd.R_drewN | apply Kd.R_drew)); exact HO176.out) hb); have n2_ := Aside0.mk (Kd.R_below (by (with_reducible repeat (first | apply Kd.R_alloc | apply Kd.R_drewN | apply Kd.R_drew)); exact HO181.out) hb); have n3_ := Aside0.mk (Kd.R_below (by (with_reducible repeat (first | apply Kd.R_alloc | apply Kd.R_drewN | apply Kd.R_drew)); exact HO183.out) hb); have n4_ := Aside0.mk (Kd.R_below (by (with_reducible repeat (first | apply Kd.R_alloc | apply Kd.R_drewN | apply Kd.R_drew)); exact HO186.out) hb); have n5_ := Aside0.mk (blk_below (g := gb177) (o := .cells #[.int .i64 60, .int .i64 89] 34 (0, 0)) (by (with_reducible repeat (first | refine blk_drewN ?_ _ | refine blk_drew ?_ | refine blk_alloc ?_ _)); exact BK177.out) hb); have n6_ := Aside0.mk (blk_below (g := gb178) (o := .cells #[.int .i64 0, .int .i64 29] 34 (0, 0)) (by (with_reducible repeat (first | refine blk_drewN ?_ _ | refine blk_drew ?_ | refine blk_alloc ?_ _)); exact BK178.out) hb); have n7_ := Aside0.mk (blk_below (g := gb179) (o := .cells #[.int .i64 90, .int .i64 90] 34 (0, 0)) (by (with_reducible repeat (first | refine blk_drewN ?_ _ | refine blk_drew ?_ | refine blk_alloc ?_ _)); exact BK179.out) hb); have n8_ := Aside0.mk (below_step (by repeat (first | (with_reducible first | exact HB.out | apply below_alloc | apply pw_below_drewN | apply below_drew1 | refine below_set ?_ GE177.out | refine below_set ?_ GE178.out | refine below_set ?_ GE179.out) | exact HB.out)) hb); clear HO174; clear HO176; clear HO181; clear HO183; clear HO186; clear BK177; clear BK178; clear BK179; clear HB; have HO174 := n0_; have HO176 := n1_; have HO181 := n2_; have HO183 := n3_; have HO186 := n4_; have BK177 := n5_; have BK178 := n6_; have BK179 := n7_; have HB := n8_; clear n0_ n1_ n2_ n3_ n4_ n5_ n6_ n7_ n8_; (try clear hb); (try clear hb2); (try clear hk); (try clear hi); have hcz38_0 : w37.cell? ⟨gb177, 0, none⟩ = some (.int .i64 60) := (blk_cell BK177.out 0).trans rfl; have hcz38_1 : w37.cell? ⟨gb177, 1, none⟩ = some (.int .i64 89) := (blk_cell BK177.out 1).trans rfl; have hfz38_0 := blk_frozen BK177.out 0; have hfz38_1 := blk_frozen BK177.out 1; have hcz39_0 : w37.cell? ⟨gb178, 0, none⟩ = some (.int .i64 0) := (blk_cell BK178.out 0).trans rfl; have hcz39_1 : w37.cell? ⟨gb178, 1, none⟩ = some (.int .i64 29) := (blk_cell BK178.out 1).trans rfl; have hfz39_0 := blk_frozen BK178.out 0; have hfz39_1 := blk_frozen BK178.out 1; have hcz40_0 : w37.cell? ⟨gb179, 0, none⟩ = some (.int .i64 90) := (blk_cell BK179.out 0).trans rfl; have hcz40_1 : w37.cell? ⟨gb179, 1, none⟩ = some (.int .i64 90) := (blk_cell BK179.out 1).trans rfl; have hfz40_0 := blk_frozen BK179.out 0; have hfz40_1 := blk_frozen BK179.out 1; obtain ⟨Ao41, co41, eo41⟩ := Kd.R_slice HO183.out; subst eo41) | (go_at_call 15; refine calls_of_args (args' := #[.slice Ao41 [(⟨3, 30⟩ : S39), (⟨6, 60⟩ : S39), (⟨9, 90⟩ : S39)].length co41, .slice Ao16 [(⟨3, 30⟩ : S39), (⟨6, 60⟩ : S39), (⟨9, 90⟩ : S39)].length co16]) (by first | rfl | done) ?_; (with_reducible refine (spileref14_Same.calls 400 _ _ [(⟨3, 30⟩ : S39), (⟨6, 60⟩ : S39), (⟨9, 90⟩ : S39)] _ _ [(⟨3, 30⟩ : S39), (⟨6, 60⟩ : S39), (⟨9, 90⟩ : S39)] true _ ?side1 ?side2 ?side3 ?side4 A11.out).mono ?_); (case side1 => repeat (first | exact (Kd.R_reads' HO183.out).2.2 | (with_reducible refine Kd.C_alloc ?_ _) | (with_reducible refine Kd.C_drewN ?_ _) | (with_reducible refine Kd.C_drew ?_))); (case side2 => exact (Kd.R_reads' HO183.out).2.1); (case side3 => repeat (first | exact (Kd.R_reads' HO176.out).2.2 | (with_reducible refine Kd.C_alloc ?_ _) | (with_reducible refine Kd.C_drewN ?_ _) | (with_reducible refine Kd.C_drew ?_))); (case side4 => exact (Kd.R_reads' HO176.out).2.1); rintro e w42 ⟨rfl, hb⟩; have n0_ := Aside0.mk (Kd.R_below (by (with_reducible repeat (first | apply Kd.R_alloc | apply Kd.R_drewN | apply Kd.R_drew)); exact HO174.out) hb); have n1_ := Aside0.mk (Kd.R_below (by (with_reducible repeat (first | apply Kd.R_alloc | apply Kd.R_drewN | apply Kd.R_drew)); exact HO176.out) hb); have n2_ := Aside0.mk (Kd.R_below (by (with_reducible repeat (first | apply Kd.R_alloc | apply Kd.R_drewN | apply Kd.R_drew)); exact HO181.out) hb); have n3_ := Aside0.mk (Kd.R_below (by (with_reducible repeat (first | apply Kd.R_alloc | apply Kd.R_drewN | apply Kd.R_drew)); exact HO183.out) hb); have n4_ := Aside0.mk (Kd.R_below (by (with_reducible repeat (first | apply Kd.R_alloc | apply Kd.R_drewN | apply Kd.R_drew)); exact HO186.out) hb); have n5_ := Aside0.mk (blk_below (g := gb177) (o := .cells #[.int .i64 60, .int .i64 89] 34 (0, 0)) (by (with_reducible repeat (first | refine blk_drewN ?_ _ | refine blk_drew ?_ | refine blk_alloc ?_ _)); exact BK177.out) hb); have n6_ := Aside0.mk (blk_below (g := gb178) (o := .cells #[.int .i64 0, .int .i64 29] 34 (0, 0)) (by (with_reducible repeat (first | refine blk_drewN ?_ _ | refine blk_drew ?_ | refine blk_alloc ?_ _)); exact BK178.out) hb); have n7_ := Aside0.mk (blk_below (g := gb179) (o := .cells #[.int .i64 90, .int .i64 90] 34 (0, 0)) (by (with_reducible repeat (first | refine blk_drewN ?_ _ | refine blk_drew ?_ | refine blk_alloc ?_ _)); exact BK179.out) hb); have n8_ := Aside0.mk (below_step (by repeat (first | (with_reducible first | exact HB.out | apply below_alloc | apply pw_below_drewN | apply below_drew1 | refine below_set ?_ GE177.out | refine below_set ?_ GE178.out | refine below_set ?_ GE179.out) | exact HB.out)) hb); clear HO174; clear HO176; clear HO181; clear HO183; clear HO186; clear BK177; clear BK178; clear BK179; clear HB; have HO174 := n0_; have HO176 := n1_; have HO181 := n2_; have HO183 := n3_; have HO186 := n4_; have BK177 := n5_; have BK178 := n6_; have BK179 := n7_; have HB := n8_; clear n0_ n1_ n2_ n3_ n4_ n5_ n6_ n7_ n8_; (try clear hb); (try clear hb2); (try clear hk); (try clear hi)) | (go_at_call 21; refine calls_of_args (args' := #[.slice Ao16 [(⟨3, 30⟩ : S39), (⟨6, 60⟩ : S39), (⟨9, 90⟩ : S39)].length co16]) (by first | rfl | done) ?_; (with_reducible refine (rod_Check.calls 400 _ _ [(⟨3, 30⟩ : S39), (⟨6, 60⟩ : S39), (⟨9, 90⟩ : S39)] 0 _ ?side1 ?side2 A12.out).mono ?_); (case side1 => repeat (first | exact (Kd.R_reads' HO176.out).2.2 | (with_reducible refine Kd.C_alloc ?_ _) | (with_reducible refine Kd.C_drewN ?_ _) | (with_reducible refine Kd.C_drew ?_))); (case side2 => exact (Kd.R_reads' HO176.out).2.1); rintro e w43 ⟨rfl, hb⟩; have n0_ := Aside0.mk (Kd.R_below (by (with_reducible repeat (first | apply Kd.R_alloc | apply Kd.R_drewN | apply Kd.R_drew)); exact HO174.out) hb); have n1_ := Aside0.mk (Kd.R_below (by (with_reducible repeat (first | apply Kd.R_alloc | apply Kd.R_drewN | apply Kd.R_drew)); exact HO176.out) hb); have n2_ := Aside0.mk (Kd.R_below (by (with_reducible repeat (first | apply Kd.R_alloc | apply Kd.R_drewN | apply Kd.R_drew)); exact HO181.out) hb); have n3_ := Aside0.mk (Kd.R_below (by (with_reducible repeat (first | apply Kd.R_alloc | apply Kd.R_drewN | apply Kd.R_drew)); exact HO183.out) hb); have n4_ := Aside0.mk (Kd.R_below (by (with_reducible repeat (first | apply Kd.R_alloc | apply Kd.R_drewN | apply Kd.R_drew)); exact HO186.out) hb); have n5_ := Aside0.mk (blk_below (g := gb177) (o := .cells #[.int .i64 60, .int .i64 89] 34 (0, 0)) (by (with_reducible repeat (first | refine blk_drewN ?_ _ | refine blk_drew ?_ | refine blk_alloc ?_ _)); exact BK177.out) hb); have n6_ := Aside0.mk (blk_below (g := gb178) (o := .cells #[.int .i64 0, .int .i64 29] 34 (0, 0)) (by (with_reducible repeat (first | refine blk_drewN ?_ _ | refine blk_drew ?_ | refine blk_alloc ?_ _)); exact BK178.out) hb); have n7_ := Aside0.mk (blk_below (g := gb179) (o := .cells #[.int .i64 90, .int .i64 90] 34 (0, 0)) (by (with_reducible repeat (first | refine blk_drewN ?_ _ | refine blk_drew ?_ | refine blk_alloc ?_ _)); exact BK179.out) hb); have n8_ := Aside0.mk (below_step (by repeat (first | (with_reducible first | exact HB.out | apply below_alloc | apply pw_below_drewN | apply below_drew1 | refine below_set ?_ GE177.out | refine below_set ?_ GE178.out | refine below_set ?_ GE179.out) | exact HB.out)) hb); clear HO174; clear HO176; clear HO181; clear HO183; clear HO186; clear BK177; clear BK178; clear BK179; clear HB; have HO174 := n0_; have HO176 := n1_; have HO181 := n2_; have HO183 := n3_; have HO186 := n4_; have BK177 := n5_; have BK178 := n6_; have BK179 := n7_; have HB := n8_; clear n0_ n1_ n2_ n3_ n4_ n5_ n6_ n7_ n8_; (try clear hb); (try clear hb2); (try clear hk); (try clear hi)))
 go_ret
 exact ⟨by first | rfl | (simp [errW_none, errW_some] <;> rfl) | (simp [*, errW_none, errW_some] <;> rfl), by repeat (first | (with_reducible first | exact HB.out | apply below_alloc | apply pw_below_drewN | apply below_drew1 | refine below_set ?_ GE177.out | refine below_set ?_ GE178.out | refine below_set ?_ GE179.out) | exact HB.out)⟩
def spileref13_Few.f (l0_0 : List (S39)) (a0_1 : Int) : Option (Bool) := some (decide ((l0_0.length : Int) ≤ 129))
set_option maxHeartbeats 8000000 in
set_option maxRecDepth 100000 in
theorem spileref13_Few.calls (A0_0 : Option Addr) (c0_0 : Nat) (l0_0 : List (S39)) (a0_1 : Int) (r : Bool) (w : World) (hr0_0 : Kd.C k39 w A0_0 l0_0.length l0_0) (hc0_0 : l0_0.length ≤ c0_0) (h : spileref13_Few.f l0_0 a0_1 = some r) :
  Calls Tryd.prog 31 #[.agg #[.slice A0_0 l0_0.length c0_0, .int .i64 a0_1]] w fun e w' => e = .returned (.bool r) ∧ Below w.heap.size w w' := by
 have hu24 := Tryd.underlying24
 have HR0_0 := Aside0.mk hr0_0
 have HC0_0 := Aside0.mk hc0_0
 clear hr0_0 hc0_0
 have HB := Aside0.mk (Below.refl w.heap.size w)
 have H : (some (decide ((l0_0.length : Int) ≤ 129))) = some r := h
 clear h
 obtain rfl := Option.some.inj H
 go_enter Tryd.func31, Tryd.ntmps31
 go_wp2_with (first | ((with_reducible refine gate_dst (N := 1) rfl ?_); refine box_event ?hg (N := 1) ?hd (cs := #[.slice A0_0 l0_0.length c0_0, .int .i64 a0_1]) (t := 24) ?hr ?_; (case hd => rfl); (case hg => rfl); (case hr => first | (go_simp; done) | (go_simp; rfl)); intro gb187 hg w2 hbox hb; have n0_ := Aside0.mk (below_step (by repeat (first | (with_reducible first | exact HB.out | apply below_alloc | apply pw_below_drewN | apply below_drew1) | exact HB.out)) hb); have n1_ := Aside0.mk (hbox); have n2_ := Aside0.mk ((by rw [hg]; exact (below_size (by repeat (first | (with_reducible first | exact HB.out | apply below_alloc | apply pw_below_drewN | apply below_drew1) | exact HB.out))) : w.heap.size ≤ gb187)); have n3_ := Aside0.mk ((by rw [hg]; exact (below_size (by repeat (first | (with_reducible first | exact HB.out | apply below_alloc | apply pw_below_drewN | apply below_drew1) | exact HB.out))) : w.heap.size ≤ gb187)); clear HB; have HB := n0_; have BK187 := n1_; have GW187 := n2_; have GE187 := n3_; clear n0_ n1_ n2_ n3_; clear hb hbox hg; have hcz3_0 : w2.cell? ⟨gb187, 0, none⟩ = some (.slice A0_0 l0_0.length c0_0) := (blk_cell BK187.out 0).trans rfl; have hcz3_1 : w2.cell? ⟨gb187, 1, none⟩ = some (.int .i64 a0_1) := (blk_cell BK187.out 1).trans rfl; have hfz3_0 := blk_frozen BK187.out 0; have hfz3_1 := blk_frozen BK187.out 1))
 go_ret
 exact ⟨by first | rfl | (simp [errW_none, errW_some] <;> rfl) | (simp [*, errW_none, errW_some] <;> rfl), by repeat (first | (with_reducible first | exact HB.out | apply below_alloc | apply pw_below_drewN | apply below_drew1 | refine below_set ?_ GE187.out) | exact HB.out)⟩
def spilelaw14_few.f (l0 : List (S39)) (l1_0 : List (S39)) (a1_1 : Int) : Option (Bool) := if (l0.length : Int) ≤ 129 then ((spileref13_Few.f l1_0 a1_1).bind fun t189 => (some t189)) else (some false)
set_option maxHeartbeats 8000000 in
set_option maxRecDepth 100000 in
theorem spilelaw14_few.calls (A0 : Option Addr) (c0 : Nat) (l0 : List (S39)) (A1_0 : Option Addr) (c1_0 : Nat) (l1_0 : List (S39)) (a1_1 : Int) (r : Bool) (w : World) (hr0 : Kd.C k39 w A0 l0.length l0) (hc0 : l0.length ≤ c0) (hr1_0 : Kd.C k39 w A1_0 l1_0.length l1_0) (hc1_0 : l1_0.length ≤ c1_0) (h : spilelaw14_few.f l0 l1_0 a1_1 = some r) :
  Calls Tryd.prog 11 #[.slice A0 l0.length c0, .agg #[.slice A1_0 l1_0.length c1_0, .int .i64 a1_1]] w fun e w' => e = .returned (.bool r) ∧ Below w.heap.size w w' := by
 have hu24 := Tryd.underlying24
 have HR0 := Aside0.mk hr0
 have HC0 := Aside0.mk hc0
 clear hr0 hc0
 have HR1_0 := Aside0.mk hr1_0
 have HC1_0 := Aside0.mk hc1_0
 clear hr1_0 hc1_0
 have HB := Aside0.mk (Below.refl w.heap.size w)
 have H : (if (l0.length : Int) ≤ 129 then ((spileref13_Few.f l1_0 a1_1).bind fun t189 => (some t189)) else (some false)) = some r := h
 clear h
 by_cases c3 : (l0.length : Int) ≤ 129
 ·
  rw [if_pos c3] at H
  have c3b0 : decide ((l0.length : Int) ≤ 129) = true := decide_eq_true c3
  have c3b1 : decide (l0.length ≤ 129) = true := decide_eq_true (by omega)
  clear c3
  replace H := Option.bind_eq_some_iff.mp H
  obtain ⟨t189, A40, H⟩ := H
  replace H : (some t189) = some r := H
  have A4 := Aside0.mk A40
  clear A40
  obtain rfl := Option.some.inj H
  go_enter Tryd.func11, Tryd.ntmps11
  go_wp2_with (first | ((with_reducible refine gate_dst (N := 3) rfl ?_); refine box_event ?hg (N := 3) ?hd (cs := #[.slice A1_0 l1_0.length c1_0, .int .i64 a1_1]) (t := 24) ?hr ?_; (case hd => rfl); (case hg => rfl); (case hr => first | (go_simp; done) | (go_simp; rfl)); intro gb188 hg w5 hbox hb; have n0_ := Aside0.mk (below_step (by repeat (first | (with_reducible first | exact HB.out | apply below_alloc | apply pw_below_drewN | apply below_drew1) | exact HB.out)) hb); have n1_ := Aside0.mk (hbox); have n2_ := Aside0.mk ((by rw [hg]; exact (below_size (by repeat (first | (with_reducible first | exact HB.out | apply below_alloc | apply pw_below_drewN | apply below_drew1) | exact HB.out))) : w.heap.size ≤ gb188)); have n3_ := Aside0.mk ((by rw [hg]; exact (below_size (by repeat (first | (with_reducible first | exact HB.out | apply below_alloc | apply pw_below_drewN | apply below_drew1) | exact HB.out))) : w.heap.size ≤ gb188)); clear HB; have HB := n0_; have BK188 := n1_; have GW188 := n2_; have GE188 := n3_; clear n0_ n1_ n2_ n3_; clear hb hbox hg; have hcz6_0 : w5.cell? ⟨gb188, 0, none⟩ = some (.slice A1_0 l1_0.length c1_0) := (blk_cell BK188.out 0).trans rfl; have hcz6_1 : w5.cell? ⟨gb188, 1, none⟩ = some (.int .i64 a1_1) := (blk_cell BK188.out 1).trans rfl; have hfz6_0 := blk_frozen BK188.out 0; have hfz6_1 := blk_frozen BK188.out 1) | (go_at_call 31; (with_reducible refine (spileref13_Few.calls _ _ l1_0 a1_1 t189 _ ?side1 ?side2 A4.out).mono ?_); (case side1 => repeat (first | exact (Kd.C_below HR1_0.out HB.out) | (with_reducible refine Kd.C_alloc ?_ _) | (with_reducible refine Kd.C_drewN ?_ _) | (with_reducible refine Kd.C_drew ?_))); (case side2 => exact HC1_0.out); rintro e w7 ⟨rfl, hb⟩; have n0_ := Aside0.mk (blk_below (g := gb188) (o := .cells #[.slice A1_0 l1_0.length c1_0, .int .i64 a1_1] 24 (0, 0)) (by (with_reducible repeat (first | refine blk_drewN ?_ _ | refine blk_drew ?_ | refine blk_alloc ?_ _)); exact BK188.out) hb); have n1_ := Aside0.mk (below_step (by repeat (first | (with_reducible first | exact HB.out | apply below_alloc | apply pw_below_drewN | apply below_drew1 | refine below_set ?_ GE188.out) | exact HB.out)) hb); clear BK188; clear HB; have BK188 := n0_; have HB := n1_; clear n0_ n1_; (try clear hb); (try clear hb2); (try clear hk); (try clear hi)))
  go_ret
  exact ⟨by first | rfl | (simp [errW_none, errW_some] <;> rfl) | (simp [*, errW_none, errW_some] <;> rfl), by repeat (first | (with_reducible first | exact HB.out | apply below_alloc | apply pw_below_drewN | apply below_drew1 | refine below_set ?_ GE188.out) | exact HB.out)⟩
 ·
  rw [if_neg c3] at H
  have c3b0 : decide ((l0.length : Int) ≤ 129) = false := decide_eq_false c3
  have c3b1 : decide (l0.length ≤ 129) = false := decide_eq_false (by omega)
  clear c3
  obtain rfl := Option.some.inj H
  go_enter Tryd.func11, Tryd.ntmps11
  go_wp2_with (first | ((with_reducible refine gate_dst (N := 3) rfl ?_); refine box_event ?hg (N := 3) ?hd (cs := #[.slice A1_0 l1_0.length c1_0, .int .i64 a1_1]) (t := 24) ?hr ?_; (case hd => rfl); (case hg => rfl); (case hr => first | (go_simp; done) | (go_simp; rfl)); intro gb188 hg w8 hbox hb; have n0_ := Aside0.mk (below_step (by repeat (first | (with_reducible first | exact HB.out | apply below_alloc | apply pw_below_drewN | apply below_drew1) | exact HB.out)) hb); have n1_ := Aside0.mk (hbox); have n2_ := Aside0.mk ((by rw [hg]; exact (below_size (by repeat (first | (with_reducible first | exact HB.out | apply below_alloc | apply pw_below_drewN | apply below_drew1) | exact HB.out))) : w.heap.size ≤ gb188)); have n3_ := Aside0.mk ((by rw [hg]; exact (below_size (by repeat (first | (with_reducible first | exact HB.out | apply below_alloc | apply pw_below_drewN | apply below_drew1) | exact HB.out))) : w.heap.size ≤ gb188)); clear HB; have HB := n0_; have BK188 := n1_; have GW188 := n2_; have GE188 := n3_; clear n0_ n1_ n2_ n3_; clear hb hbox hg))
  go_ret
  exact ⟨by first | rfl | (simp [errW_none, errW_some] <;> rfl) | (simp [*, errW_none, errW_some] <;> rfl), by repeat (first | (with_reducible first | exact HB.out | apply below_alloc | apply pw_below_drewN | apply below_drew1 | refine below_set ?_ GE188.out) | exact HB.out)⟩
end Go.Proofs.YtkolhpacpbhceaaDoor.Pr
namespace Go.Proofs.YtkolhpacpbhceaaDoor.Pr
open Go.RowKit Go.Proofs.YtkolhpacpbhceaaDoorW.PrintWords Go.Proofs.YtkolhpacpbhceaaDoorW.PrintLast Go.Proofs.YtkolhpacpbhceaaDoorW.PrintMore Go.Proofs.YtkolhpacpbhceaaDoor.X
attribute [local go_sem] max2_int min2_int max_two min_two max_three min_three max_four min_four   -- for this text's walks alone
set_option linter.unusedVariables false
set_option linter.unusedSimpArgs false
def slices_Clone39.f (l0 : List (S39)) : Option (List (S39)) := if l0.length < 8796093022208 then some l0 else none
set_option maxHeartbeats 8000000 in
set_option maxRecDepth 100000 in
theorem slices_Clone39.calls (A0 : Option Addr) (c0 : Nat) (l0 : List (S39)) (r : List (S39)) (w : World) (hr0 : Kd.C k39 w A0 l0.length l0) (hc0 : l0.length ≤ c0) (h : slices_Clone39.f l0 = some r) :
  Calls Tryd.prog 17 #[.slice A0 l0.length c0] w fun e w' => ∃ v0_ : Value, e = .returned (v0_) ∧ Kd.R k39 39 w' w.heap.size (fun _ => True) v0_ r ∧ Below w.heap.size w w' := by
 unfold slices_Clone39.f at h
 by_cases c2 : l0.length < 8796093022208
 case neg => rw [if_neg c2] at h; cases h
 rw [if_pos c2] at h
 obtain rfl := Option.some.inj h
 have LM := Aside0.mk c2
 have HR0 := Aside0.mk hr0
 have HC0 := Aside0.mk hc0
 clear hr0 hc0 h c2
 have hq : ∀ w, (binOp .eql 22 (.slice A0 l0.length c0) (.slice none 0 0)).run Tryd.prog w = .ok (.bool A0.isNone) w := fun w => run_eql_slice_nil w 22 39 A0 _ _ Tryd.underlying22
 have HB := Aside0.mk (Below.refl w.heap.size w)
 cases A0 with
 | none =>
  have h0 : l0 = [] := by
   rcases Nat.eq_zero_or_pos l0.length with h0 | h0
   ·
    exact List.eq_nil_of_length_eq_zero h0
   ·
    obtain ⟨ad, e, _⟩ := HR0.out.2.2 h0
    cases e
  subst h0
  have hq0 : ∀ w, (binOp .eql 22 (.slice none 0 c0) (.slice none 0 0)).run Tryd.prog w = .ok (.bool true) w := fun w => run_eql_slice_nil w 22 39 none 0 c0 Tryd.underlying22
  go_enter Tryd.func17, Tryd.ntmps17
  go_wp2
  go_ret
  exact ⟨_, rfl, Kd.R_nil _ _ _ _ _, HB.out⟩
 | some ad =>
  obtain ⟨y1, hy1⟩ : ∃ y_ : List (S39), y_ = (([] : List (S39))) := ⟨_, rfl⟩
  have Ny1 := Aside0.mk hy1
  obtain ⟨y2, hy2⟩ : ∃ y_ : List (S39), y_ = (y1 ++ l0) := ⟨_, rfl⟩
  have Ny2 := Aside0.mk hy2
  clear hy1 hy2
  go_enter Tryd.func17, Tryd.ntmps17
  go_wp2_with (first
   | ((with_reducible refine gate_dst (N := 5) rfl ?_); refine Kd.R_lit k39 _ 39 ?hg (N := 5) ?hd (xs := ([] : List (S39))) (inner := []) (ok := fun _ => True) (okp := fun _ => True) ?hr ?hp (fun _ hk => hk) trivial (Below.refl _ _) (Nat.le_refl _) (by simp) ?_; (case hd => rfl); (case hg => rfl); (case hr => first | (go_simp; done) | (go_simp; rfl)); (case hp => exact (Reps.none _ _)); intro v192 w5 ho6 hb hg_ hnew_; clear hg_ hnew_; (first | rw [← Ny1.out] at ho6 | (simp only [Int.reduceToNat] at ho6; rw [← Ny1.out] at ho6)); have n0_ := Aside0.mk (Kd.R_lower ho6 (below_size HB.out)); have n3_ := Aside0.mk (below_step HB.out hb); clear HB; have HO193 := n0_; have HB := n3_; clear n0_ n3_; clear hb ho6)
   | ((with_reducible refine gate_builtin (b := .append) (xs := #[.tmp 5, .tmp 6]) rfl ?_); at_builtin; refine Kd.R_append_rows k39 (w0 := w) w.heap.size rfl (.tmp 5) (.tmp 6) 22 39 (.agg #[(.int .i64 0), (.int .i64 0)]) 16 rfl Tryd.underlying22 info39 rfl (by decide) (by omega) v192 y1 l0 _ _ _ (fun _ => True) (fun _ => False) rfl rfl ?aO ?aR (fun _ _ h => h) (fun _ h => h.elim) ?aF ?aB ?aS ?aL ?_; (case aR => repeat (first | exact (Kd.C_below HR0.out HB.out) | (with_reducible refine Kd.C_alloc ?_ _) | (with_reducible refine Kd.C_drewN ?_ _) | (with_reducible refine Kd.C_drew ?_))); (case aB => exact (by repeat (first | (with_reducible first | exact HB.out | apply below_alloc | apply pw_below_drewN | apply below_drew1) | exact HB.out))); (case aF => exact (fun _ _ => trivial)); (case aO => exact (by (with_reducible repeat (first | apply Kd.R_alloc | apply Kd.R_drewN | apply Kd.R_drew)); exact HO193.out)); (case aS => exact (below_size (by repeat (first | (with_reducible first | exact HB.out | apply below_alloc | apply pw_below_drewN | apply below_drew1) | exact HB.out)))); (case aL => have := LM.out; have := Ny1.out; subst this; simp; omega); intro v195 w9 ho hb hg hat; rw [← Ny2.out] at ho; have n2_ := Aside0.mk (hb); have n3_ := Aside0.mk (ho); clear HB; clear HO193; have HB := n2_; have HO196 := n3_; clear n2_ n3_; clear ho hb hg hat))
  go_ret
  have e2 : y2 = l0 := by rw [Ny2.out, Ny1.out]; rfl
  rw [e2] at HO196
  exact ⟨_, rfl, by (with_reducible repeat (first | apply Kd.R_alloc | apply Kd.R_drewN | apply Kd.R_drew)); exact HO196.out, by repeat (first | (with_reducible first | exact HB.out | apply below_alloc | apply pw_below_drewN | apply below_drew1) | exact HB.out)⟩
end Go.Proofs.YtkolhpacpbhceaaDoor.Pr
namespace Go.Proofs.YtkolhpacpbhceaaDoor.Pr
open Go.RowKit Go.Proofs.YtkolhpacpbhceaaDoorW.PrintWords Go.Proofs.YtkolhpacpbhceaaDoorW.PrintLast Go.Proofs.YtkolhpacpbhceaaDoorW.PrintMore Go.Proofs.YtkolhpacpbhceaaDoor.X
attribute [local go_sem] max2_int min2_int max_two min_two max_three min_three max_four min_four   -- for this text's walks alone
set_option linter.unusedVariables false
set_option linter.unusedSimpArgs false
attribute [local go_sem high] eqA34
mutual
def spilelaw14_RodBack.j0 : Nat → List (S39) → ByteArray → Bool → Option (Bool)
 | 0, _, _, _ => none
 | k + 1, x0, x1, x25 => if x25 = true then (some true) else ((rod_Parse.f k x1).bind fun bt395 => (if bt395.2.2 = 0 then ((rod_Print.f k bt395.1).bind fun bt400 => (if bt400.2 = 0 then (if bt400.1.toList = x1.toList then (spilelaw14_RodBack.j1 k x0) else (some false)) else (some false))) else (if (bt395.1.length : Int) = 0 then (spilelaw14_RodBack.j1 k x0) else (some false))))
def spilelaw14_RodBack.j1 : Nat → List (S39) → Option (Bool)
 | 0, _ => none
 | k + 1, x0 => (slices_Clone39.f x0).bind fun t402 => ((rod_Print.f k t402).bind fun bt405 => (if bt405.2 = 0 then ((rod_Parse.f k bt405.1).bind fun bt407 => (if bt407.2.2 = 0 then (if bt407.2.1 = 0 then ((spileref14_Same.f k bt407.1 x0).bind fun t412 => (some t412)) else (some false)) else (some false))) else (if bt405.1.toList = ([] : List UInt8) then ((slices_Clone39.f x0).bind fun t413 => ((rod_Check.f k t413).bind fun t416 => (some (t416 == bt405.2)))) else (some false))))
end
def spilelaw14_RodBack.f (k : Nat) (l0 : List (S39)) (a1 : ByteArray) : Option (Bool) := (spilelaw14_awake.f).bind fun t393 => (if t393 = true then ((spilelaw14_few.f l0 ([] : List (S39)) 0).bind fun t394 => (if t394 = true then (spilelaw14_RodBack.j0 k l0 a1 (decide ((a1.size : Int) > 1000))) else (spilelaw14_RodBack.j0 k l0 a1 true))) else (some false))
set_option maxHeartbeats 8000000 in
set_option maxRecDepth 100000 in
theorem spilelaw14_RodBack.calls (k : Nat) (A0 : Option Addr) (c0 : Nat) (l0 : List (S39)) (a1 : ByteArray) (r : Bool) (w : World) (hr0 : Kd.C k39 w A0 l0.length l0) (hc0 : l0.length ≤ c0) (hG : GI w) (hr_ : r = true) (h : spilelaw14_RodBack.f k l0 a1 = some r) :
  Calls Tryd.prog 8 #[.slice A0 l0.length c0, .string a1] w fun e w' => e = .returned (.bool r) ∧ Below w.heap.size w w' := by
 have hu24 := Tryd.underlying24
 have HR0 := Aside0.mk hr0
 have HC0 := Aside0.mk hc0
 clear hr0 hc0
 have HG := Aside0.mk hG
 clear hG
 have HB := Aside0.mk (Below.refl w.heap.size w)
 have H : ((spilelaw14_awake.f).bind fun t393 => (if t393 = true then ((spilelaw14_few.f l0 ([] : List (S39)) 0).bind fun t394 => (if t394 = true then (spilelaw14_RodBack.j0 k l0 a1 (decide ((a1.size : Int) > 1000))) else (spilelaw14_RodBack.j0 k l0 a1 true))) else (some false))) = some r := h
 clear h
 replace H := Option.bind_eq_some_iff.mp H
 obtain ⟨t393, A30, H⟩ := H
 replace H : (if t393 = true then ((spilelaw14_few.f l0 ([] : List (S39)) 0).bind fun t394 => (if t394 = true then (spilelaw14_RodBack.j0 k l0 a1 (decide ((a1.size : Int) > 1000))) else (spilelaw14_RodBack.j0 k l0 a1 true))) else (some false)) = some r := H
 have A3 := Aside0.mk A30
 clear A30
 by_cases c4 : t393 = true
 ·
  subst c4
  have H1 : ((spilelaw14_few.f l0 ([] : List (S39)) 0).bind fun t394 => (if t394 = true then (spilelaw14_RodBack.j0 k l0 a1 (decide ((a1.size : Int) > 1000))) else (spilelaw14_RodBack.j0 k l0 a1 true))) = some r := by rw [if_pos rfl] at H; exact H
  clear H
  have H := H1
  clear H1
  have HC5 := Aside0.mk H
  clear H
  go_enter Tryd.func8, Tryd.ntmps8
  go_upto_region 3 with (first | ((with_reducible refine gate_callee (f := 10) rfl ?_); refine goesL_ (some 15) rfl rfl Tryd.func10 (by kernel_rfl) rfl #[] rfl (by (try simp only [List.map_toArray, List.map_cons, List.map_nil]); first | done | rfl | (simp only [List.length_drop, List.length_take]; rfl)) ?_; (with_reducible refine (spilelaw14_awake.calls  true _ ?side1 A3.out).mono ?_); (case side1 => exact GI.below HG.out (by repeat (first | (with_reducible first | exact HB.out | apply below_alloc | apply pw_below_drewN | apply below_drew1) | exact HB.out))); rintro e w6 ⟨rfl, hb⟩; refine ⟨_, rfl, ?_⟩; have n0_ := Aside0.mk (below_step (by repeat (first | (with_reducible first | exact HB.out | apply below_alloc | apply pw_below_drewN | apply below_drew1) | exact HB.out)) hb); clear HB; have HB := n0_; clear n0_; (try clear hb); (try clear hb2); (try clear hk); (try clear hi)))
  (try simp only [Act.put, List.setIfInBounds_toArray, List.set_cons_zero, List.set_cons_succ])
  go_cut [25] (fun v25 wc => ∃ (kq : Nat) (x25_4 : Bool), v25 = .bool x25_4 ∧ Aside0 (spilelaw14_RodBack.j0 kq l0 a1 x25_4 = some r) ∧ Aside0 (kq ≤ k) ∧ Aside0 (Below w.heap.size w wc))
  case first =>
   have H := HC5.out
   clear HC5
   replace H := Option.bind_eq_some_iff.mp H
   obtain ⟨t394, A70, H⟩ := H
   replace H : (if t394 = true then (spilelaw14_RodBack.j0 k l0 a1 (decide ((a1.size : Int) > 1000))) else (spilelaw14_RodBack.j0 k l0 a1 true)) = some r := H
   have A7 := Aside0.mk A70
   clear A70
   by_cases c8 : t394 = true
   ·
    subst c8
    have H1 : (spilelaw14_RodBack.j0 k l0 a1 (decide ((a1.size : Int) > 1000))) = some r := by rw [if_pos rfl] at H; exact H
    clear H
    have H := H1
    clear H1
    have H' := Aside0.mk H
    clear H
    go_wp2_with (first | ((with_reducible refine gate_callee (f := 11) rfl ?_); refine goesL_ (some 19) rfl rfl Tryd.func11 (by kernel_rfl) rfl #[.slice A0 l0.length c0, .agg #[.slice none 0 0, .int .i64 0]] rfl (by (try simp only [List.map_toArray, List.map_cons, List.map_nil]); first | done | rfl | (simp only [List.length_drop, List.length_take]; rfl)) ?_; (refine (spilelaw14_few.calls _ _ l0 _ _ ([] : List (S39)) 0 true _ ?side1 ?side2 ?side3 ?side4 A7.out).mono ?_); (case side1 => repeat (first | exact (Kd.C_below HR0.out HB.out) | (with_reducible refine Kd.C_alloc ?_ _) | (with_reducible refine Kd.C_drewN ?_ _) | (with_reducible refine Kd.C_drew ?_))); (case side2 => exact HC0.out); (case side3 => exact Kd.C_nil _ _); (case side4 => exact Nat.le_refl _); rintro e w9 ⟨rfl, hb⟩; refine ⟨_, rfl, ?_⟩; have n0_ := Aside0.mk (below_step (by repeat (first | (with_reducible first | exact HB.out | apply below_alloc | apply pw_below_drewN | apply below_drew1) | exact HB.out)) hb); clear HB; have HB := n0_; clear n0_; (try clear hb); (try clear hb2); (try clear hk); (try clear hi)))
    go_meet
    case rel => exact ⟨_, (decide ((a1.size : Int) > 1000)), (by first | rfl | (simp; done) | (simp [*]; done)), H', ⟨by first | omega | exact Nat.le_refl _⟩, ⟨by repeat (first | (with_reducible first | exact HB.out | apply below_alloc | apply pw_below_drewN | apply below_drew1) | exact HB.out)⟩⟩
   ·
    replace c8 := Bool.eq_false_iff.mpr c8
    subst c8
    have H1 : (spilelaw14_RodBack.j0 k l0 a1 true) = some r := by rw [if_neg (show ¬ (false = true) by decide)] at H; exact H
    clear H
    have H := H1
    clear H1
    have H' := Aside0.mk H
    clear H
    go_wp2_with (first | ((with_reducible refine gate_callee (f := 11) rfl ?_); refine goesL_ (some 19) rfl rfl Tryd.func11 (by kernel_rfl) rfl #[.slice A0 l0.length c0, .agg #[.slice none 0 0, .int .i64 0]] rfl (by (try simp only [List.map_toArray, List.map_cons, List.map_nil]); first | done | rfl | (simp only [List.length_drop, List.length_take]; rfl)) ?_; (refine (spilelaw14_few.calls _ _ l0 _ _ ([] : List (S39)) 0 false _ ?side1 ?side2 ?side3 ?side4 A7.out).mono ?_); (case side1 => repeat (first | exact (Kd.C_below HR0.out HB.out) | (with_reducible refine Kd.C_alloc ?_ _) | (with_reducible refine Kd.C_drewN ?_ _) | (with_reducible refine Kd.C_drew ?_))); (case side2 => exact HC0.out); (case side3 => exact Kd.C_nil _ _); (case side4 => exact Nat.le_refl _); rintro e w10 ⟨rfl, hb⟩; refine ⟨_, rfl, ?_⟩; have n0_ := Aside0.mk (below_step (by repeat (first | (with_reducible first | exact HB.out | apply below_alloc | apply pw_below_drewN | apply below_drew1) | exact HB.out)) hb); clear HB; have HB := n0_; clear n0_; (try clear hb); (try clear hb2); (try clear hk); (try clear hi)))
    go_meet
    case rel => exact ⟨_, (true), (by first | rfl | (simp; done) | (simp [*]; done)), H', ⟨by first | omega | exact Nat.le_refl _⟩, ⟨by repeat (first | (with_reducible first | exact HB.out | apply below_alloc | apply pw_below_drewN | apply below_drew1) | exact HB.out)⟩⟩
  case rest =>
   clear HC5
   try clear c1
   try clear p2
   try clear c4
   try clear c8
   try clear c10
   obtain ⟨kq, x25_4, rfl, HA, HJ4, HB⟩ := hcut
   cases kq with
   | zero => exact absurd HA.out (by simp [spilelaw14_RodBack.j0])
   | succ kj4 =>
    have H := HA.out
    clear HA
    simp only [spilelaw14_RodBack.j0] at H
    by_cases c11 : x25_4 = true
    ·
     subst c11
     have H1 : (some true) = some r := by rw [if_pos rfl] at H; exact H
     clear H
     have H := H1
     clear H1
     obtain rfl := Option.some.inj H
     go_wp2
     go_ret
     exact ⟨by first | rfl | (simp [errW_none, errW_some] <;> rfl) | (simp [*, errW_none, errW_some] <;> rfl), by repeat (first | (with_reducible first | exact HB.out | apply below_alloc | apply pw_below_drewN | apply below_drew1) | exact HB.out)⟩
    ·
     replace c11 := Bool.eq_false_iff.mpr c11
     subst c11
     have H1 : ((rod_Parse.f kj4 a1).bind fun bt395 => (if bt395.2.2 = 0 then ((rod_Print.f kj4 bt395.1).bind fun bt400 => (if bt400.2 = 0 then (if bt400.1.toList = a1.toList then (spilelaw14_RodBack.j1 kj4 l0) else (some false)) else (some false))) else (if (bt395.1.length : Int) = 0 then (spilelaw14_RodBack.j1 kj4 l0) else (some false)))) = some r := by rw [if_neg (show ¬ (false = true) by decide)] at H; exact H
     clear H
     have H := H1
     clear H1
     replace H := Option.bind_eq_some_iff.mp H
     obtain ⟨⟨t395, t396, t397⟩, A120, H⟩ := H
     replace H : (if t397 = 0 then ((rod_Print.f kj4 t395).bind fun bt400 => (if bt400.2 = 0 then (if bt400.1.toList = a1.toList then (spilelaw14_RodBack.j1 kj4 l0) else (some false)) else (some false))) else (if (t395.length : Int) = 0 then (spilelaw14_RodBack.j1 kj4 l0) else (some false))) = some r := H
     have A12 := Aside0.mk A120
     clear A120
     have HC13 := Aside0.mk H
     clear H
     go_upto_if 33 with (first | ((with_reducible refine gate_callee (f := 25) rfl ?_); refine goesL_ (some 28) rfl rfl Tryd.func25 (by kernel_rfl) rfl #[.string a1] rfl (by (try simp only [List.map_toArray, List.map_cons, List.map_nil]); first | done | rfl | (simp only [List.length_drop, List.length_take]; rfl)) ?_; (with_reducible refine (rod_Parse.calls kj4 a1 t395 t396 t397 _ ?side1 A12.out).mono ?_); (case side1 => exact GI.below HG.out (by repeat (first | (with_reducible first | exact HB.out | apply below_alloc | apply pw_below_drewN | apply below_drew1) | exact HB.out))); rintro e w14 ⟨v398, rfl, ho0, hb⟩; refine ⟨_, rfl, ?_⟩; have n0_ := Aside0.mk (Kd.R_lower ho0 (below_size (by repeat (first | (with_reducible first | exact HB.out | apply below_alloc | apply pw_below_drewN | apply below_drew1) | exact HB.out)))); have n1_ := Aside0.mk (below_step (by repeat (first | (with_reducible first | exact HB.out | apply below_alloc | apply pw_below_drewN | apply below_drew1) | exact HB.out)) hb); clear HB; have HO399 := n0_; have HB := n1_; clear n0_ n1_; (try clear hb); (try clear hb2); (try clear hk); (try clear hi); (try clear ho0)))
     (try simp only [Act.put, List.setIfInBounds_toArray, List.set_cons_zero, List.set_cons_succ])
     go_cut [] (fun wc => ∃ (kq : Nat), Aside0 (spilelaw14_RodBack.j1 kq l0 = some r) ∧ Aside0 (kq ≤ kj4) ∧ Aside0 (Below w.heap.size w wc))
     case first =>
      have H := HC13.out
      clear HC13
      by_cases c15 : t397 = 0
      ·
       rw [if_pos c15] at H
       have c15b0 : (t397 == 0) = true := beq_iff_eq.mpr c15
       have c15b1 : (t397 != 0) = false := bne_eq_false_iff_eq.mpr c15
       clear c15
       (first | rw [c15b0] | (simp only [i64_w, i32_w]; rw [c15b0]) | skip)
       replace H := Option.bind_eq_some_iff.mp H
       obtain ⟨⟨t400, t401⟩, A160, H⟩ := H
       replace H : (if t401 = 0 then (if t400.toList = a1.toList then (spilelaw14_RodBack.j1 kj4 l0) else (some false)) else (some false)) = some r := H
       have A16 := Aside0.mk A160
       clear A160
       by_cases c17 : t401 = 0
       ·
        rw [if_pos c17] at H
        have c17b0 : (t401 == 0) = true := beq_iff_eq.mpr c17
        have c17b1 : (t401 != 0) = false := bne_eq_false_iff_eq.mpr c17
        clear c17
        by_cases c18 : t400.toList = a1.toList
        ·
         rw [if_pos c18] at H
         have c18b0 : (t400.toList == a1.toList) = true := beq_iff_eq.mpr c18
         have c18b1 : (t400.toList != a1.toList) = false := bne_eq_false_iff_eq.mpr c18
         clear c18
         have H' := Aside0.mk H
         clear H
         obtain ⟨Ao19, co19, eo19⟩ := Kd.R_slice HO399.out
         subst eo19
         go_wp2_with (first | ((with_reducible refine gate_callee (f := 23) rfl ?_); refine goesL_ (some 36) rfl rfl Tryd.func23 (by kernel_rfl) rfl #[.slice Ao19 t395.length co19] rfl (by (try simp only [List.map_toArray, List.map_cons, List.map_nil]); first | done | rfl | (simp only [List.length_drop, List.length_take]; rfl)) ?_; (with_reducible refine (rod_Print.calls kj4 _ _ t395 t400 t401 _ ?side1 ?side2 ?side3 A16.out).mono ?_); (case side1 => repeat (first | exact (Kd.R_reads' HO399.out).2.2 | (with_reducible refine Kd.C_alloc ?_ _) | (with_reducible refine Kd.C_drewN ?_ _) | (with_reducible refine Kd.C_drew ?_))); (case side2 => exact (Kd.R_reads' HO399.out).2.1); (case side3 => exact GI.below HG.out (by repeat (first | (with_reducible first | exact HB.out | apply below_alloc | apply pw_below_drewN | apply below_drew1) | exact HB.out))); rintro e w20 ⟨rfl, hb⟩; refine ⟨_, rfl, ?_⟩; have n0_ := Aside0.mk (Kd.R_below (by (with_reducible repeat (first | apply Kd.R_alloc | apply Kd.R_drewN | apply Kd.R_drew)); exact HO399.out) hb); have n1_ := Aside0.mk (below_step (by repeat (first | (with_reducible first | exact HB.out | apply below_alloc | apply pw_below_drewN | apply below_drew1) | exact HB.out)) hb); clear HO399; clear HB; have HO399 := n0_; have HB := n1_; clear n0_ n1_; (try clear hb); (try clear hb2); (try clear hk); (try clear hi)))
         go_meet
         case rel => exact ⟨_, H', ⟨by have := HJ4.out; first | omega | exact Nat.le_refl _⟩, ⟨by repeat (first | (with_reducible first | exact HB.out | apply below_alloc | apply pw_below_drewN | apply below_drew1) | exact HB.out)⟩⟩
        ·
         rw [if_neg c18] at H
         have c18b0 : (t400.toList == a1.toList) = false := beq_eq_false_iff_ne.mpr c18
         have c18b1 : (t400.toList != a1.toList) = true := bne_iff_ne.mpr c18
         subst hr_
         exact absurd H (by simp)
       ·
        rw [if_neg c17] at H
        have c17b0 : (t401 == 0) = false := beq_eq_false_iff_ne.mpr c17
        have c17b1 : (t401 != 0) = true := bne_iff_ne.mpr c17
        subst hr_
        exact absurd H (by simp)
      ·
       rw [if_neg c15] at H
       have c15b0 : (t397 == 0) = false := beq_eq_false_iff_ne.mpr c15
       have c15b1 : (t397 != 0) = true := bne_iff_ne.mpr c15
       (first | rw [c15b0] | (simp only [i64_w, i32_w]; rw [c15b0]) | skip)
       by_cases c21 : (t395.length : Int) = 0
       ·
        rw [if_pos c21] at H
        have c21b0 : ((t395.length : Int) == 0) = true := beq_iff_eq.mpr c21
        have c21b1 : ((t395.length : Int) != 0) = false := bne_eq_false_iff_eq.mpr c21
        clear c21
        have H' := Aside0.mk H
        clear H
        obtain ⟨Ao22, co22, eo22⟩ := Kd.R_slice HO399.out
        subst eo22
        go_wp2
        go_meet
        case rel => exact ⟨_, H', ⟨by have := HJ4.out; first | omega | exact Nat.le_refl _⟩, ⟨by repeat (first | (with_reducible first | exact HB.out | apply below_alloc | apply pw_below_drewN | apply below_drew1) | exact HB.out)⟩⟩
       ·
        rw [if_neg c21] at H
        have c21b0 : ((t395.length : Int) == 0) = false := beq_eq_false_iff_ne.mpr c21
        have c21b1 : ((t395.length : Int) != 0) = true := bne_iff_ne.mpr c21
        have c21b2 : ¬ (t395 = []) := fun h_ => c21 (by rw [h_]; rfl)
        subst hr_
        exact absurd H (by simp)
     case rest =>
      clear HC13
      try clear c1
      try clear c2
      try clear p2
      try clear c4
      try clear c8
      try clear c10
      try clear c11
      try clear c15
      try clear c15b0
      try clear c15b1
      try clear c17
      try clear c17b0
      try clear c17b1
      try clear c18
      try clear c18b0
      try clear c18b1
      try clear c21
      try clear c21b0
      try clear c21b1
      try clear c21b2
      try clear p2
      obtain ⟨kq, HA, HJ12, HB⟩ := hcut
      cases kq with
      | zero => exact absurd HA.out (by simp [spilelaw14_RodBack.j1])
      | succ kj12 =>
       have H := HA.out
       clear HA
       simp only [spilelaw14_RodBack.j1] at H
       replace H := Option.bind_eq_some_iff.mp H
       obtain ⟨t402, A230, H⟩ := H
       replace H : ((rod_Print.f kj12 t402).bind fun bt405 => (if bt405.2 = 0 then ((rod_Parse.f kj12 bt405.1).bind fun bt407 => (if bt407.2.2 = 0 then (if bt407.2.1 = 0 then ((spileref14_Same.f kj12 bt407.1 l0).bind fun t412 => (some t412)) else (some false)) else (some false))) else (if bt405.1.toList = ([] : List UInt8) then ((slices_Clone39.f l0).bind fun t413 => ((rod_Check.f kj12 t413).bind fun t416 => (some (t416 == bt405.2)))) else (some false)))) = some r := H
       have A23 := Aside0.mk A230
       clear A230
       replace H := Option.bind_eq_some_iff.mp H
       obtain ⟨⟨t405, t406⟩, A240, H⟩ := H
       replace H : (if t406 = 0 then ((rod_Parse.f kj12 t405).bind fun bt407 => (if bt407.2.2 = 0 then (if bt407.2.1 = 0 then ((spileref14_Same.f kj12 bt407.1 l0).bind fun t412 => (some t412)) else (some false)) else (some false))) else (if t405.toList = ([] : List UInt8) then ((slices_Clone39.f l0).bind fun t413 => ((rod_Check.f kj12 t413).bind fun t416 => (some (t416 == t406)))) else (some false))) = some r := H
       have A24 := Aside0.mk A240
       clear A240
       by_cases c25 : t406 = 0
       ·
        rw [if_pos c25] at H
        have c25b0 : (t406 == 0) = true := beq_iff_eq.mpr c25
        have c25b1 : (t406 != 0) = false := bne_eq_false_iff_eq.mpr c25
        clear c25
        replace H := Option.bind_eq_some_iff.mp H
        obtain ⟨⟨t407, t408, t409⟩, A260, H⟩ := H
        replace H : (if t409 = 0 then (if t408 = 0 then ((spileref14_Same.f kj12 t407 l0).bind fun t412 => (some t412)) else (some false)) else (some false)) = some r := H
        have A26 := Aside0.mk A260
        clear A260
        by_cases c27 : t409 = 0
        ·
         rw [if_pos c27] at H
         have c27b0 : (t409 == 0) = true := beq_iff_eq.mpr c27
         have c27b1 : (t409 != 0) = false := bne_eq_false_iff_eq.mpr c27
         clear c27
         by_cases c28 : t408 = 0
         ·
          rw [if_pos c28] at H
          have c28b0 : (t408 == 0) = true := beq_iff_eq.mpr c28
          have c28b1 : (t408 != 0) = false := bne_eq_false_iff_eq.mpr c28
          clear c28
          replace H := Option.bind_eq_some_iff.mp H
          obtain ⟨t412, A290, H⟩ := H
          replace H : (some t412) = some r := H
          have A29 := Aside0.mk A290
          clear A290
          obtain rfl := Option.some.inj H
          go_wp2_with (first | ((with_reducible refine gate_callee (f := 17) rfl ?_); refine goesL_ (some 51) rfl rfl Tryd.func17 (by kernel_rfl) rfl #[.slice A0 l0.length c0] rfl (by (try simp only [List.map_toArray, List.map_cons, List.map_nil]); first | done | rfl | (simp only [List.length_drop, List.length_take]; rfl)) ?_; (with_reducible refine (slices_Clone39.calls _ _ l0 t402 _ ?side1 ?side2 A23.out).mono ?_); (case side1 => repeat (first | exact (Kd.C_below HR0.out HB.out) | (with_reducible refine Kd.C_alloc ?_ _) | (with_reducible refine Kd.C_drewN ?_ _) | (with_reducible refine Kd.C_drew ?_))); (case side2 => exact HC0.out); rintro e w30 ⟨v403, rfl, ho0, hb⟩; refine ⟨_, rfl, ?_⟩; have n0_ := Aside0.mk (Kd.R_lower ho0 (below_size (by repeat (first | (with_reducible first | exact HB.out | apply below_alloc | apply pw_below_drewN | apply below_drew1) | exact HB.out)))); have n1_ := Aside0.mk (below_step (by repeat (first | (with_reducible first | exact HB.out | apply below_alloc | apply pw_below_drewN | apply below_drew1) | exact HB.out)) hb); clear HB; have HO404 := n0_; have HB := n1_; clear n0_ n1_; (try clear hb); (try clear hb2); (try clear hk); (try clear hi); (try clear ho0); obtain ⟨Ao31, co31, eo31⟩ := Kd.R_slice HO404.out; subst eo31) | ((with_reducible refine gate_callee (f := 23) rfl ?_); refine goesL_ (some 52) rfl rfl Tryd.func23 (by kernel_rfl) rfl #[.slice Ao31 t402.length co31] rfl (by (try simp only [List.map_toArray, List.map_cons, List.map_nil]); first | done | rfl | (simp only [List.length_drop, List.length_take]; rfl)) ?_; (with_reducible refine (rod_Print.calls kj12 _ _ t402 t405 t406 _ ?side1 ?side2 ?side3 A24.out).mono ?_); (case side1 => repeat (first | exact (Kd.R_reads' HO404.out).2.2 | (with_reducible refine Kd.C_alloc ?_ _) | (with_reducible refine Kd.C_drewN ?_ _) | (with_reducible refine Kd.C_drew ?_))); (case side2 => exact (Kd.R_reads' HO404.out).2.1); (case side3 => exact GI.below HG.out (by repeat (first | (with_reducible first | exact HB.out | apply below_alloc | apply pw_below_drewN | apply below_drew1) | exact HB.out))); rintro e w32 ⟨rfl, hb⟩; refine ⟨_, rfl, ?_⟩; have n0_ := Aside0.mk (Kd.R_below (by (with_reducible repeat (first | apply Kd.R_alloc | apply Kd.R_drewN | apply Kd.R_drew)); exact HO404.out) hb); have n1_ := Aside0.mk (below_step (by repeat (first | (with_reducible first | exact HB.out | apply below_alloc | apply pw_below_drewN | apply below_drew1) | exact HB.out)) hb); clear HO404; clear HB; have HO404 := n0_; have HB := n1_; clear n0_ n1_; (try clear hb); (try clear hb2); (try clear hk); (try clear hi)) | ((with_reducible refine gate_callee (f := 25) rfl ?_); refine goesL_ (some 68) rfl rfl Tryd.func25 (by kernel_rfl) rfl #[.string t405] rfl (by (try simp only [List.map_toArray, List.map_cons, List.map_nil]); first | done | rfl | (simp only [List.length_drop, List.length_take]; rfl)) ?_; (with_reducible refine (rod_Parse.calls kj12 t405 t407 t408 t409 _ ?side1 A26.out).mono ?_); (case side1 => exact GI.below HG.out (by repeat (first | (with_reducible first | exact HB.out | apply below_alloc | apply pw_below_drewN | apply below_drew1) | exact HB.out))); rintro e w33 ⟨v410, rfl, ho0, hb⟩; refine ⟨_, rfl, ?_⟩; have n0_ := Aside0.mk (Kd.R_elder' (by (with_reducible repeat (first | apply Kd.R_alloc | apply Kd.R_drewN | apply Kd.R_drew)); exact HO404.out) (Kd.R_base ho0) hb); have n1_ := Aside0.mk (Kd.R_lower (Kd.R_new' ho0 (Kd.R_lt (by (with_reducible repeat (first | apply Kd.R_alloc | apply Kd.R_drewN | apply Kd.R_drew)); exact HO404.out))) (below_size (by repeat (first | (with_reducible first | exact HB.out | apply below_alloc | apply pw_below_drewN | apply below_drew1) | exact HB.out)))); have n2_ := Aside0.mk (below_step (by repeat (first | (with_reducible first | exact HB.out | apply below_alloc | apply pw_below_drewN | apply below_drew1) | exact HB.out)) hb); clear HO404; clear HB; have HO404 := n0_; have HO411 := n1_; have HB := n2_; clear n0_ n1_ n2_; (try clear hb); (try clear hb2); (try clear hk); (try clear hi); (try clear ho0); obtain ⟨Ao34, co34, eo34⟩ := Kd.R_slice HO411.out; subst eo34) | (go_at_call 15; (with_reducible refine (spileref14_Same.calls kj12 _ _ t407 _ _ l0 t412 _ ?side1 ?side2 ?side3 ?side4 A29.out).mono ?_); (case side1 => repeat (first | exact (Kd.R_reads' HO411.out).2.2 | (with_reducible refine Kd.C_alloc ?_ _) | (with_reducible refine Kd.C_drewN ?_ _) | (with_reducible refine Kd.C_drew ?_))); (case side2 => exact (Kd.R_reads' HO411.out).2.1); (case side3 => repeat (first | exact (Kd.C_below HR0.out HB.out) | (with_reducible refine Kd.C_alloc ?_ _) | (with_reducible refine Kd.C_drewN ?_ _) | (with_reducible refine Kd.C_drew ?_))); (case side4 => exact HC0.out); rintro e w35 ⟨rfl, hb⟩; have n0_ := Aside0.mk (Kd.R_below (by (with_reducible repeat (first | apply Kd.R_alloc | apply Kd.R_drewN | apply Kd.R_drew)); exact HO404.out) hb); have n1_ := Aside0.mk (Kd.R_below (by (with_reducible repeat (first | apply Kd.R_alloc | apply Kd.R_drewN | apply Kd.R_drew)); exact HO411.out) hb); have n2_ := Aside0.mk (below_step (by repeat (first | (with_reducible first | exact HB.out | apply below_alloc | apply pw_below_drewN | apply below_drew1) | exact HB.out)) hb); clear HO404; clear HO411; clear HB; have HO404 := n0_; have HO411 := n1_; have HB := n2_; clear n0_ n1_ n2_; (try clear hb); (try clear hb2); (try clear hk); (try clear hi)))
          go_ret
          exact ⟨by first | rfl | (simp [errW_none, errW_some] <;> rfl) | (simp [*, errW_none, errW_some] <;> rfl), by repeat (first | (with_reducible first | exact HB.out | apply below_alloc | apply pw_below_drewN | apply below_drew1) | exact HB.out)⟩
         ·
          rw [if_neg c28] at H
          have c28b0 : (t408 == 0) = false := beq_eq_false_iff_ne.mpr c28
          have c28b1 : (t408 != 0) = true := bne_iff_ne.mpr c28
          subst hr_
          exact absurd H (by simp)
        ·
         rw [if_neg c27] at H
         have c27b0 : (t409 == 0) = false := beq_eq_false_iff_ne.mpr c27
         have c27b1 : (t409 != 0) = true := bne_iff_ne.mpr c27
         subst hr_
         exact absurd H (by simp)
       ·
        rw [if_neg c25] at H
        have c25b0 : (t406 == 0) = false := beq_eq_false_iff_ne.mpr c25
        have c25b1 : (t406 != 0) = true := bne_iff_ne.mpr c25
        by_cases c36 : t405.toList = ([] : List UInt8)
        ·
         rw [if_pos c36] at H
         have c36b0 : (t405.toList == ([] : List UInt8)) = true := beq_iff_eq.mpr c36
         have c36b1 : (t405.toList != ([] : List UInt8)) = false := bne_eq_false_iff_eq.mpr c36
         clear c36
         replace H := Option.bind_eq_some_iff.mp H
         obtain ⟨t413, A370, H⟩ := H
         replace H : ((rod_Check.f kj12 t413).bind fun t416 => (some (t416 == t406))) = some r := H
         have A37 := Aside0.mk A370
         clear A370
         replace H := Option.bind_eq_some_iff.mp H
         obtain ⟨t416, A380, H⟩ := H
         replace H : (some (t416 == t406)) = some r := H
         have A38 := Aside0.mk A380
         clear A380
         obtain rfl := Option.some.inj H
         go_wp2_with (first | ((with_reducible refine gate_callee (f := 17) rfl ?_); refine goesL_ (some 51) rfl rfl Tryd.func17 (by kernel_rfl) rfl #[.slice A0 l0.length c0] rfl (by (try simp only [List.map_toArray, List.map_cons, List.map_nil]); first | done | rfl | (simp only [List.length_drop, List.length_take]; rfl)) ?_; (with_reducible refine (slices_Clone39.calls _ _ l0 t402 _ ?side1 ?side2 A23.out).mono ?_); (case side1 => repeat (first | exact (Kd.C_below HR0.out HB.out) | (with_reducible refine Kd.C_alloc ?_ _) | (with_reducible refine Kd.C_drewN ?_ _) | (with_reducible refine Kd.C_drew ?_))); (case side2 => exact HC0.out); rintro e w39 ⟨v403, rfl, ho0, hb⟩; refine ⟨_, rfl, ?_⟩; have n0_ := Aside0.mk (Kd.R_lower ho0 (below_size (by repeat (first | (with_reducible first | exact HB.out | apply below_alloc | apply pw_below_drewN | apply below_drew1) | exact HB.out)))); have n1_ := Aside0.mk (below_step (by repeat (first | (with_reducible first | exact HB.out | apply below_alloc | apply pw_below_drewN | apply below_drew1) | exact HB.out)) hb); clear HB; have HO404 := n0_; have HB := n1_; clear n0_ n1_; (try clear hb); (try clear hb2); (try clear hk); (try clear hi); (try clear ho0); obtain ⟨Ao40, co40, eo40⟩ := Kd.R_slice HO404.out; subst eo40) | ((with_reducible refine gate_callee (f := 23) rfl ?_); refine goesL_ (some 52) rfl rfl Tryd.func23 (by kernel_rfl) rfl #[.slice Ao40 t402.length co40] rfl (by (try simp only [List.map_toArray, List.map_cons, List.map_nil]); first | done | rfl | (simp only [List.length_drop, List.length_take]; rfl)) ?_; (with_reducible refine (rod_Print.calls kj12 _ _ t402 t405 t406 _ ?side1 ?side2 ?side3 A24.out).mono ?_); (case side1 => repeat (first | exact (Kd.R_reads' HO404.out).2.2 | (with_reducible refine Kd.C_alloc ?_ _) | (with_reducible refine Kd.C_drewN ?_ _) | (with_reducible refine Kd.C_drew ?_))); (case side2 => exact (Kd.R_reads' HO404.out).2.1); (case side3 => exact GI.below HG.out (by repeat (first | (with_reducible first | exact HB.out | apply below_alloc | apply pw_below_drewN | apply below_drew1) | exact HB.out))); rintro e w41 ⟨rfl, hb⟩; refine ⟨_, rfl, ?_⟩; have n0_ := Aside0.mk (Kd.R_below (by (with_reducible repeat (first | apply Kd.R_alloc | apply Kd.R_drewN | apply Kd.R_drew)); exact HO404.out) hb); have n1_ := Aside0.mk (below_step (by repeat (first | (with_reducible first | exact HB.out | apply below_alloc | apply pw_below_drewN | apply below_drew1) | exact HB.out)) hb); clear HO404; clear HB; have HO404 := n0_; have HB := n1_; clear n0_ n1_; (try clear hb); (try clear hb2); (try clear hk); (try clear hi)) | (go_at_call 17; (with_reducible refine (slices_Clone39.calls _ _ l0 t413 _ ?side1 ?side2 A37.out).mono ?_); (case side1 => repeat (first | exact (Kd.C_below HR0.out HB.out) | (with_reducible refine Kd.C_alloc ?_ _) | (with_reducible refine Kd.C_drewN ?_ _) | (with_reducible refine Kd.C_drew ?_))); (case side2 => exact HC0.out); rintro e w42 ⟨v414, rfl, ho0, hb⟩; have n0_ := Aside0.mk (Kd.R_elder' (by (with_reducible repeat (first | apply Kd.R_alloc | apply Kd.R_drewN | apply Kd.R_drew)); exact HO404.out) (Kd.R_base ho0) hb); have n1_ := Aside0.mk (Kd.R_lower (Kd.R_new' ho0 (Kd.R_lt (by (with_reducible repeat (first | apply Kd.R_alloc | apply Kd.R_drewN | apply Kd.R_drew)); exact HO404.out))) (below_size (by repeat (first | (with_reducible first | exact HB.out | apply below_alloc | apply pw_below_drewN | apply below_drew1) | exact HB.out)))); have n2_ := Aside0.mk (below_step (by repeat (first | (with_reducible first | exact HB.out | apply below_alloc | apply pw_below_drewN | apply below_drew1) | exact HB.out)) hb); clear HO404; clear HB; have HO404 := n0_; have HO415 := n1_; have HB := n2_; clear n0_ n1_ n2_; (try clear hb); (try clear hb2); (try clear hk); (try clear hi); (try clear ho0); obtain ⟨Ao43, co43, eo43⟩ := Kd.R_slice HO415.out; subst eo43) | (go_at_call 21; (with_reducible refine (rod_Check.calls kj12 _ _ t413 t416 _ ?side1 ?side2 A38.out).mono ?_); (case side1 => repeat (first | exact (Kd.R_reads' HO415.out).2.2 | (with_reducible refine Kd.C_alloc ?_ _) | (with_reducible refine Kd.C_drewN ?_ _) | (with_reducible refine Kd.C_drew ?_))); (case side2 => exact (Kd.R_reads' HO415.out).2.1); rintro e w44 ⟨rfl, hb⟩; have n0_ := Aside0.mk (Kd.R_below (by (with_reducible repeat (first | apply Kd.R_alloc | apply Kd.R_drewN | apply Kd.R_drew)); exact HO404.out) hb); have n1_ := Aside0.mk (Kd.R_below (by (with_reducible repeat (first | apply Kd.R_alloc | apply Kd.R_drewN | apply Kd.R_drew)); exact HO415.out) hb); have n2_ := Aside0.mk (below_step (by repeat (first | (with_reducible first | exact HB.out | apply below_alloc | apply pw_below_drewN | apply below_drew1) | exact HB.out)) hb); clear HO404; clear HO415; clear HB; have HO404 := n0_; have HO415 := n1_; have HB := n2_; clear n0_ n1_ n2_; (try clear hb); (try clear hb2); (try clear hk); (try clear hi)))
         go_ret
         exact ⟨by first | rfl | (simp [errW_none, errW_some] <;> rfl) | (simp [*, errW_none, errW_some] <;> rfl), by repeat (first | (with_reducible first | exact HB.out | apply below_alloc | apply pw_below_drewN | apply below_drew1) | exact HB.out)⟩
        ·
         rw [if_neg c36] at H
         have c36b0 : (t405.toList == ([] : List UInt8)) = false := beq_eq_false_iff_ne.mpr c36
         have c36b1 : (t405.toList != ([] : List UInt8)) = true := bne_iff_ne.mpr c36
         subst hr_
         exact absurd H (by simp)
 ·
  replace c4 := Bool.eq_false_iff.mpr c4
  subst c4
  have H1 : (some false) = some r := by rw [if_neg (show ¬ (false = true) by decide)] at H; exact H
  clear H
  have H := H1
  clear H1
  subst hr_
  exact absurd H (by simp)
end Go.Proofs.YtkolhpacpbhceaaDoor.Pr
namespace Go.Proofs.YtkolhpacpbhceaaDoor.Pr
open Go.RowKit Go.Proofs.YtkolhpacpbhceaaDoorW.PrintWords Go.Proofs.YtkolhpacpbhceaaDoorW.PrintLast Go.Proofs.YtkolhpacpbhceaaDoorW.PrintMore Go.Proofs.YtkolhpacpbhceaaDoor.X
attribute [local go_sem] max2_int min2_int max_two min_two max_three min_three max_four min_four   -- for this text's walks alone
set_option linter.unusedVariables false
set_option linter.unusedSimpArgs false
mutual
def spileref14_Check.l0 : Nat → List (S39) → Int → Option (Int)
 | 0, _, _ => none
 | k + 1, x0, x3 => if x3 < (x0.length : Int) then (if 0 ≤ x3 then (if ((rd_T39 x0 x3).f0) < 0 then (some 2) else (if ((rd_T39 x0 x3).f0) > 200000 then (some 2) else (if ((rd_T39 x0 x3).f1) < 1 then (some 2) else (if ((rd_T39 x0 x3).f1) > 4294967296 then (some 2) else (spileref14_Check.l0 k x0 (wrap64 (x3 + 1))))))) else (none)) else (spileref14_Check.l1 k x0 1)
def spileref14_Check.l1 : Nat → List (S39) → Int → Option (Int)
 | 0, _, _ => none
 | k + 1, x0, x4 => if x4 < (x0.length : Int) then (if 0 ≤ (wrap64 (x4 - 1)) then (if (wrap64 (x4 - 1)) < (x0.length : Int) then (if 0 ≤ x4 then (if ((rd_T39 x0 (wrap64 (x4 - 1))).f0) ≥ ((rd_T39 x0 x4).f0) then (some 5) else (if ((rd_T39 x0 (wrap64 (x4 - 1))).f1) ≥ ((rd_T39 x0 x4).f1) then (some 5) else (spileref14_Check.l1 k x0 (wrap64 (x4 + 1))))) else (none)) else (none)) else (none)) else (some 0)
end
def spileref14_Check.f (k : Nat) (l0 : List (S39)) : Option (Int) := if (l0.length : Int) = 0 then (some 9) else (if (l0.length : Int) > 128 then (some 8) else (spileref14_Check.l0 k l0 0))
end Go.Proofs.YtkolhpacpbhceaaDoor.Pr
namespace Go.Proofs.YtkolhpacpbhceaaDoor.Pr
open Go.RowKit Go.Proofs.YtkolhpacpbhceaaDoorW.PrintWords Go.Proofs.YtkolhpacpbhceaaDoorW.PrintLast Go.Proofs.YtkolhpacpbhceaaDoorW.PrintMore Go.Proofs.YtkolhpacpbhceaaDoor.X
attribute [local go_sem] max2_int min2_int max_two min_two max_three min_three max_four min_four   -- for this text's walks alone
set_option linter.unusedVariables false
set_option linter.unusedSimpArgs false
attribute [local go_sem high] eqA34
def spileref14_Print.l0 : Nat → List (S39) → ByteArray → Int → Option (ByteArray × Int)
 | 0, _, _, _ => none
 | k + 1, x0, x5, x6 => if x6 < (x0.length : Int) then (if 0 ≤ x6 then ((strconv_Itoa.f ((rd_T39 x0 x6).f0)).bind fun t300 => (if t300.size + 1 ≤ 9223372036854775807 then ((strconv_Itoa.f ((rd_T39 x0 x6).f1)).bind fun t302 => (if (t300 ++ (⟨#[32]⟩ : ByteArray)).size + t302.size ≤ 9223372036854775807 then (if ((t300 ++ (⟨#[32]⟩ : ByteArray)) ++ t302).size + 1 ≤ 9223372036854775807 then (if x5.size + (((t300 ++ (⟨#[32]⟩ : ByteArray)) ++ t302) ++ (⟨#[10]⟩ : ByteArray)).size ≤ 9223372036854775807 then (spileref14_Print.l0 k x0 (x5 ++ (((t300 ++ (⟨#[32]⟩ : ByteArray)) ++ t302) ++ (⟨#[10]⟩ : ByteArray))) (wrap64 (x6 + 1))) else (none)) else (none)) else (none))) else (none))) else (none)) else (some (x5, 0))
def spileref14_Print.f (k : Nat) (l0 : List (S39)) : Option (ByteArray × Int) := (spileref14_Check.f k l0).bind fun t298 => (if t298 = 0 then (spileref14_Print.l0 k l0 (⟨#[]⟩ : ByteArray) 0) else (some ((⟨#[]⟩ : ByteArray), t298)))
end Go.Proofs.YtkolhpacpbhceaaDoor.Pr
namespace Go.Proofs.YtkolhpacpbhceaaDoor.Pr
open Go.RowKit Go.Proofs.YtkolhpacpbhceaaDoorW.PrintWords Go.Proofs.YtkolhpacpbhceaaDoorW.PrintLast Go.Proofs.YtkolhpacpbhceaaDoorW.PrintMore Go.Proofs.YtkolhpacpbhceaaDoor.X
attribute [local go_sem] max2_int min2_int max_two min_two max_three min_three max_four min_four   -- for this text's walks alone
set_option linter.unusedVariables false
set_option linter.unusedSimpArgs false
def spileref14_number.l0 : Nat → ByteArray → Int → Int → Option (Int × Bool)
 | 0, _, _, _ => none
 | k + 1, x0, x4, x5 => if x5 < (x0.size : Int) then (if 0 ≤ x5 then (if (bt x0 x5) < 48 then (some (0, false)) else (if (bt x0 x5) > 57 then (some (0, false)) else (if x5 ≥ 10 then (some (0, false)) else (spileref14_number.l0 k x0 (wrap64 ((wrap64 (10 * x4)) + (((bt x0 x5) - 48) % 256))) (wrap64 (x5 + 1)))))) else (none)) else (if x0.toList = ([] : List UInt8) then (some (x4, false)) else (if (x0.size : Int) = 1 then (some (x4, true)) else (if 0 < (x0.size : Int) then (some (x4, ((bt x0 0) != 48))) else (none))))
def spileref14_number.f (k : Nat) (a0 : ByteArray) : Option (Int × Bool) := spileref14_number.l0 k a0 0 0
def spileref14_mark.l0 : Nat → ByteArray → Int → Option (Int × Int × Bool)
 | 0, _, _ => none
 | k + 1, x0, x4 => if x4 < (x0.size : Int) then (if 0 ≤ x4 then (if (bt x0 x4) = 32 then (if x4 ≤ (x0.size : Int) then ((spileref14_number.f k (x0.extract 0 (x4 : Int).toNat)).bind fun bt304 => (if 0 ≤ (wrap64 (x4 + 1)) then (if (wrap64 (x4 + 1)) ≤ (x0.size : Int) then ((spileref14_number.f k (x0.extract ((wrap64 (x4 + 1)) : Int).toNat x0.size)).bind fun bt306 => (if bt304.2 = true then (some (bt304.1, bt306.1, bt306.2)) else (some (bt304.1, bt306.1, false)))) else (none)) else (none))) else (none)) else (spileref14_mark.l0 k x0 (wrap64 (x4 + 1)))) else (none)) else (some (0, 0, false))
def spileref14_mark.f (k : Nat) (a0 : ByteArray) : Option (Int × Int × Bool) := spileref14_mark.l0 k a0 0
def spileref14_Parse.l0 : Nat → ByteArray → List (S39) → Int → Int → Option ((List (S39)) × Int × Int)
 | 0, _, _, _, _ => none
 | k + 1, x0, x5, x6, x7 => if x7 < (x0.size : Int) then (if 0 ≤ x7 then (if (bt x0 x7) = 10 then (if 0 ≤ x6 then (if x6 ≤ x7 then (if x7 ≤ (x0.size : Int) then ((spileref14_mark.f k (x0.extract (x6 : Int).toNat (x7 : Int).toNat)).bind fun bt308 => (if bt308.2.2 = true then (if x5.length < 8796093022208 then (spileref14_Parse.l0 k x0 (x5 ++ [(⟨bt308.1, bt308.2.1⟩ : S39)]) (wrap64 (x7 + 1)) (wrap64 (x7 + 1))) else (none)) else (some (([] : List (S39)), wrap64 ((x5.length : Int) + 1), 3)))) else (none)) else (none)) else (none)) else (spileref14_Parse.l0 k x0 x5 x6 (wrap64 (x7 + 1)))) else (none)) else (if x6 < (x0.size : Int) then (some (([] : List (S39)), wrap64 ((x5.length : Int) + 1), 3)) else ((spileref14_Check.f k x5).bind fun t315 => (if t315 = 0 then (some (x5, 0, 0)) else (some (([] : List (S39)), 0, t315)))))
def spileref14_Parse.f (k : Nat) (a0 : ByteArray) : Option ((List (S39)) × Int × Int) := if (a0.size : Int) > 4096 then (some (([] : List (S39)), 0, 8)) else (spileref14_Parse.l0 k a0 ([] : List (S39)) 0 0)
end Go.Proofs.YtkolhpacpbhceaaDoor.Pr
namespace Go.Proofs.YtkolhpacpbhceaaDoor.Opn
open Go Go.RowKit Go.Proofs.YtkolhpacpbhceaaDoorW.PrintWords Go.Proofs.YtkolhpacpbhceaaDoor.O Go.Proofs.YtkolhpacpbhceaaDoor.Pr
theorem opens3 : Opens Tryd.prog 3 (Kd.int .i64) (fun x => (Lit.int .i64 x).wf = true) := opens_int Tryd.underlying3 (by kernel_rfl)
def ok39 (x : S39) : Prop := (Lit.int .i64 x.f0).wf = true ∧ (Lit.int .i64 x.f1).wf = true
theorem opens39 : Opens Tryd.prog 39 k39 ok39 :=
  ⟨by kernel_rfl, fun H enc w base sp held fuel cs x h => by
    obtain ⟨xs, n, _, _, hl, hx, hf⟩ := DataW.trod_struct Tryd.underlying39 h
    have hc_ : Tryd.prog.cellsOf 39 = 2 := by kernel_rfl
    rw [hc_] at hl
    obtain ⟨c0, c1, rfl⟩ : ∃ c0 c1, cs = [c0, c1] := by
      clear h hf hx
      rcases cs with _ | ⟨c0, _ | ⟨c1, _ | ⟨_, _⟩⟩⟩
      all_goals first | exact ⟨_, _, rfl⟩ | (simp at hl)
    obtain ⟨y0, hy0⟩ : ∃ y, xs[0]? = some y := ⟨xs[0]'(by rw [hx]; decide), List.getElem?_eq_getElem _⟩
    have e0 : DataW.trod enc Tryd.prog w base sp held n 3 ((List.drop 0 [c0, c1]).take (Tryd.prog.cellsOf 3)) = xs[0]? := hf 0 _ rfl
    rw [hy0, show Tryd.prog.cellsOf 3 = 1 from by kernel_rfl] at e0
    obtain ⟨v0, K0, o0⟩ := opens3.2 H enc w base sp held n _ _ e0
    replace K0 : (Kd.int .i64).K w v0 [c0] := K0
    obtain ⟨y1, hy1⟩ : ∃ y, xs[1]? = some y := ⟨xs[1]'(by rw [hx]; decide), List.getElem?_eq_getElem _⟩
    have e1 : DataW.trod enc Tryd.prog w base sp held n 3 ((List.drop 1 [c0, c1]).take (Tryd.prog.cellsOf 3)) = xs[1]? := hf 1 _ rfl
    rw [hy1, show Tryd.prog.cellsOf 3 = 1 from by kernel_rfl] at e1
    obtain ⟨v1, K1, o1⟩ := opens3.2 H enc w base sp held n _ _ e1
    replace K1 : (Kd.int .i64).K w v1 [c1] := K1
    obtain rfl : c0 = _ := List.singleton_inj.1 K0
    obtain rfl : c1 = _ := List.singleton_inj.1 K1
    refine ⟨⟨v0, v1⟩, ?_, o0, o1⟩
    exact k39_mk w ⟨v0, v1⟩ ⟩
theorem opens22 : Opens Tryd.prog 22 (Kd.slice 39 k39) (fun x => (x.length ≤ maxLen ∧ ∀ x0_, x0_ ∈ x → ok39 x0_)) := opens_slice (P := Tryd.prog) (t := 22) (e := 39) Tryd.underlying22 (by kernel_rfl) opens39
end Go.Proofs.YtkolhpacpbhceaaDoor.Opn
namespace Go.Proofs.YtkolhpacpbhceaaDoor.Pure
open Go Go.RowKit Go.Proofs.YtkolhpacpbhceaaDoor.Pr Go.Proofs.YtkolhpacpbhceaaDoor.Opn
def rodBackPure : Prop := ∀ (l0 : (List S39)) (a1 : ByteArray), (l0.length ≤ maxLen ∧ ∀ x0_, x0_ ∈ l0 → ok39 x0_) → a1.size ≤ maxLen → ∃ k, spilelaw14_RodBack.f k l0 a1 = some true
end Go.Proofs.YtkolhpacpbhceaaDoor.Pure
namespace Go.Proofs.YtkolhpacpbhceaaDoor.PL
open Go Go.RowKit Go.Proofs.YtkolhpacpbhceaaDoorW.PrintWords Go.Proofs.YtkolhpacpbhceaaDoorW.PrintLast Go.Proofs.YtkolhpacpbhceaaDoorW.PrintMore
theorem evp {α : Type} {c : Prop} [Decidable c] {g h : Nat → Option α} {r : α} (hc : c) (k : Ev g r) : Ev (fun n => if c then g n else h n) r :=
  Ev.congr (fun n => if_pos hc) k
theorem evn {α : Type} {c : Prop} [Decidable c] {g h : Nat → Option α} {r : α} (hc : ¬ c) (k : Ev h r) : Ev (fun n => if c then g n else h n) r :=
  Ev.congr (fun n => if_neg hc) k
theorem evb {α β : Type} {g : Nat → Option α} {f : Nat → α → Option β} {a : α} {r : β} (h : Ev g a) (k : Ev (fun n => f n a) r) : Ev (fun n => (g n).bind (f n)) r := Ev.bind h k
theorem evr {α : Type} {a r : α} (h : a = r) : Ev (fun _ => some a) r := by subst h; exact Ev.now _
theorem evc {α : Type} {g : Nat → Option α} {r : α} {o : Option α} (hg : ∀ n, g n = o) (h : o = some r) : Ev g r := by
  subst h
  exact Ev.congr hg (Ev.now _)
theorem ev_unique {α : Type} {g : Nat → Option α} {a b : α} (h : Ev g a) (h2 : Ev g b) : a = b := by
  obtain ⟨K, h⟩ := h
  obtain ⟨K2, h2⟩ := h2
  have e1 := h (K + K2) (by omega)
  have e2 := h2 (K + K2) (by omega)
  rw [e1] at e2
  exact Option.some.inj e2
/-- A loop that counts upwards to n. -/
theorem count_up (a n : Int) (P : Int → Prop) (hend : P n) (hround : ∀ i, a ≤ i → i < n → P (i + 1) → P i) : ∀ i, a ≤ i → i ≤ n → P i := by
  intro i h0 h1
  obtain ⟨d, hd⟩ : ∃ d : Nat, n - i = d := ⟨(n - i).toNat, by omega⟩
  induction d generalizing i with
  | zero =>
    obtain rfl : i = n := by omega
    exact hend
  | succ d ih => exact hround i h0 (by omega) (ih (i + 1) (by omega) (by omega) (by omega))
theorem w64 {x : Int} (h0 : -9223372036854775808 ≤ x) (h1 : x ≤ 9223372036854775807) : wrap64 x = x := by
  unfold wrap64
  omega
theorem w64_succ {i n : Int} (h0 : 0 ≤ i) (h : i < n) (hn : n ≤ 9223372036854775807) : wrap64 (i + 1) = i + 1 := w64 (by omega) (by omega)
theorem w64_pred {i n : Int} (h0 : 0 ≤ i) (h : i ≤ n) (hn : n ≤ 9223372036854775807) : wrap64 (i - 1) = i - 1 := w64 (by omega) (by omega)
/-- A test that comes to true where P holds, and else to false. -/
def EvB (g : Nat → Option Bool) (P : Prop) : Prop := (P → Ev g true) ∧ (¬ P → Ev g false)
theorem EvB.map {g : Nat → Option Bool} {f : Nat → Bool → Option Bool} {P Q : Prop} (h : EvB g P) (ht : P → EvB (fun n => f n true) Q) (hf : ¬ P → EvB (fun n => f n false) Q) : EvB (fun n => (g n).bind (f n)) Q := by
  by_cases hp : P
  · exact ⟨fun q => Ev.bind (h.1 hp) ((ht hp).1 q), fun q => Ev.bind (h.1 hp) ((ht hp).2 q)⟩
  · exact ⟨fun q => Ev.bind (h.2 hp) ((hf hp).1 q), fun q => Ev.bind (h.2 hp) ((hf hp).2 q)⟩
end Go.Proofs.YtkolhpacpbhceaaDoor.PL
namespace Go.Proofs.YtkolhpacpbhceaaDoor.PL
open Go Go.RowKit Go.Proofs.YtkolhpacpbhceaaDoorW.PrintWords Go.Proofs.YtkolhpacpbhceaaDoorW.PrintLast Go.Proofs.YtkolhpacpbhceaaDoorW.PrintMore Go.Proofs.YtkolhpacpbhceaaDoor.Pr Go.Proofs.YtkolhpacpbhceaaDoor.TX Go.Proofs.YtkolhpacpbhceaaDoor.X
def ba (l : List UInt8) : ByteArray := ⟨l.toArray⟩
theorem ba_data (s : ByteArray) : ba s.data.toList = s := by obtain ⟨⟨l⟩⟩ := s; rfl
theorem ba_list (l : List UInt8) : (ba l).data.toList = l := rfl
theorem ba_toList (l : List UInt8) : (ba l).toList = l := by rw [Lib.toList_data]; rfl
theorem ba_size (l : List UInt8) : (ba l).size = l.length := rfl
theorem size_data (s : ByteArray) : s.data.toList.length = s.size := Array.length_toList
theorem ba_ex (s : ByteArray) (a b : Nat) : s.extract a b = ba ((s.data.toList.take b).drop a) := by
  rw [← ba_data (s.extract a b), Lib.extract_data, List.drop_take]
theorem ba_app (a b : List UInt8) : ba a ++ ba b = ba (a ++ b) := by
  rw [← ba_data (ba a ++ ba b)]
  congr 1
theorem byte_at (s : ByteArray) {i : Int} (h0 : 0 ≤ i) (h1 : i < (s.size : Int)) : ∃ b : UInt8, s.data.toList.drop i.toNat = b :: s.data.toList.drop (i + 1).toNat ∧
    s.data.toList.take (i + 1).toNat = s.data.toList.take i.toNat ++ [b] ∧ bt s i = (b.toNat : Int) := by
  have hl : i.toNat < s.data.toList.length := by rw [size_data]; omega
  refine ⟨s.data.toList[i.toNat], ?_, ?_, ?_⟩
  · rw [show (i + 1).toNat = i.toNat + 1 from by omega, ← List.drop_eq_getElem_cons hl]
  · rw [show (i + 1).toNat = i.toNat + 1 from by omega, List.take_add_one, List.getElem?_eq_getElem hl]; rfl
  · rw [← bt_at s i (by omega)]
    obtain ⟨⟨l⟩⟩ := s
    rfl
theorem drop_end (s : ByteArray) : s.data.toList.drop ((s.size : Int)).toNat = [] := by
  rw [show ((s.size : Int)).toNat = s.size from by omega, ← size_data, List.drop_length]
theorem toNat_eq (b : UInt8) (n : Nat) (hn : n < 256) : ((b.toNat : Int) = (n : Int)) ↔ b = UInt8.ofNat n := by
  constructor
  · intro h
    refine UInt8.toNat_inj.1 ?_
    rw [UInt8.toNat_ofNat']; omega
  · rintro rfl
    rw [UInt8.toNat_ofNat']; omega
def lin : List UInt8 → List UInt8 → List (List UInt8) × Bool
  | p, [] => if p = [] then ([], true) else ([p], false)
  | p, b :: r => if b = 10 then (p :: (lin [] r).1, (lin [] r).2) else lin (p ++ [b]) r
theorem lin_cons (p : List UInt8) (b : UInt8) (r : List UInt8) : lin p (b :: r) = if b = 10 then (p :: (lin [] r).1, (lin [] r).2) else lin (p ++ [b]) r := rfl
theorem lin_cut : ∀ (s p : List UInt8), lin p s = if (cut1 10 s).2.2 = true then ((p ++ (cut1 10 s).1) :: (lin [] (cut1 10 s).2.1).1, (lin [] (cut1 10 s).2.1).2) else if p ++ s = [] then ([], true) else ([p ++ s], false)
  | [], p => by simp [lin, cut1]
  | b :: r, p => by
    rw [lin_cons, cut1_cons]
    by_cases h : b = 10
    · rw [if_pos h, if_pos h]; simp
    · rw [if_neg h, if_neg h, lin_cut r (p ++ [b])]
      simp
def numR (most : Nat) (l : List UInt8) : Int × Bool := match numP most l with
  | some v => ((v : Int), true)
  | none => (0, false)
theorem itoa_f {n : Int} (h0 : -9223372036854775808 ≤ n) (h1 : n ≤ 9223372036854775807) : strconv_Itoa.f n = some (ba (Lib.itoa n)) := by
  unfold strconv_Itoa.f
  rw [if_pos h0, if_pos h1]
  rfl
end Go.Proofs.YtkolhpacpbhceaaDoor.PL
namespace Go.Proofs.YtkolhpacpbhceaaDoor.PL
open Go Go.RowKit Go.Proofs.YtkolhpacpbhceaaDoorW.PrintWords Go.Proofs.YtkolhpacpbhceaaDoorW.PrintLast Go.Proofs.YtkolhpacpbhceaaDoorW.PrintMore Go.Proofs.YtkolhpacpbhceaaDoor.Pr Go.Proofs.YtkolhpacpbhceaaDoor.TX Go.Proofs.YtkolhpacpbhceaaDoor.X
theorem lin_len : ∀ (t p : List UInt8), (lin p t).1.length ≤ t.length + 1
  | [], p => by unfold lin; split <;> simp
  | b :: r, p => by
    rw [lin_cons]
    by_cases c : b = 10
    · rw [if_pos c]; have := lin_len r []; simp; omega
    · rw [if_neg c]; have := lin_len r (p ++ [b]); simp; omega
theorem lin_nil {s : List UInt8} {e : Bool} (h : lin [] s = ([], e)) : s = [] ∧ e = true := by
  rw [lin_cut] at h
  by_cases c : (cut1 10 s).2.2 = true
  · rw [if_pos c] at h; simp at h
  · rw [if_neg c] at h
    by_cases c2 : ([] : List UInt8) ++ s = []
    · rw [if_pos c2] at h
      exact ⟨by simpa using c2, (congrArg Prod.snd h).symm⟩
    · rw [if_neg c2] at h; simp at h
theorem lin_next {s l : List UInt8} {r : List (List UInt8)} {e : Bool} (h : lin [] s = (l :: r, e)) :
    (cut1 10 s).1 = l ∧ (((cut1 10 s).2.2 = true ∧ lin [] (cut1 10 s).2.1 = (r, e)) ∨ ((cut1 10 s).2.2 = false ∧ (cut1 10 s).2.1 = [] ∧ r = [] ∧ e = false)) ∧ s ≠ [] ∧ l.length ≤ s.length := by
  have hne : s ≠ [] := fun e2 => by rw [e2] at h; simp [lin] at h
  rw [lin_cut] at h
  by_cases c : (cut1 10 s).2.2 = true
  · rw [if_pos c] at h
    simp only [List.nil_append, Prod.mk.injEq, List.cons.injEq] at h
    refine ⟨h.1.1, .inl ⟨c, Prod.ext h.1.2 h.2⟩, hne, ?_⟩
    have := congrArg List.length (cut1_sum 10 s c)
    rw [List.length_append, h.1.1] at this
    omega
  · rw [if_neg c, if_neg (by simpa using hne)] at h
    simp only [List.nil_append, Prod.mk.injEq, List.cons.injEq] at h
    have := cut1_no 10 s (Bool.eq_false_iff.2 c)
    exact ⟨by rw [this.1]; exact h.1.1, .inr ⟨Bool.eq_false_iff.2 c, this.2, h.1.2.symm, h.2.symm⟩, hne, by rw [h.1.1]; exact Nat.le_refl _⟩
section
variable {α : Type}
/-- Line by line: the first line that has no such thing, or no line feed, stops it. -/
def run (lineL : List UInt8 → Option α) (e : Bool) : List (List UInt8) → List α → List α × Option Nat
  | [], out => (out, none)
  | l :: r, out => match lineL l with
    | none => ([], some out.length)
    | some x => if r = [] ∧ e = false then ([], some out.length) else run lineL e r (out ++ [x])
theorem run_cons (lineL : List UInt8 → Option α) (e : Bool) (l : List UInt8) (r : List (List UInt8)) (out : List α) : run lineL e (l :: r) out = match lineL l with
    | none => ([], some out.length)
    | some x => if r = [] ∧ e = false then ([], some out.length) else run lineL e r (out ++ [x]) := rfl
def printL (lineT : α → List UInt8) : List α → List UInt8
  | [] => []
  | x :: r => lineT x ++ 10 :: printL lineT r
theorem lin_print {lineT : α → List UInt8} : ∀ l : List α, (∀ x, x ∈ l → (10 : UInt8) ∉ lineT x) → lin [] (printL lineT l) = (l.map lineT, true)
  | [], _ => rfl
  | x :: r, h => by
    have hx := h x (by simp)
    rw [lin_cut]
    rw [show printL lineT (x :: r) = lineT x ++ 10 :: printL lineT r from rfl, cut1_first 10 _ _ hx]
    simp only [if_true, List.nil_append]
    rw [lin_print r (fun z hz => h z (by simp [hz]))]
    rfl
theorem run_print {lineL : List UInt8 → Option α} {lineT : α → List UInt8} : ∀ (l out : List α), (∀ x, x ∈ l → lineL (lineT x) = some x) → run lineL true (l.map lineT) out = (out ++ l, none)
  | [], out, _ => by simp [run]
  | x :: r, out, h => by
    rw [List.map_cons, run_cons, h x (by simp)]
    simp only []
    rw [if_neg (by simp), run_print r (out ++ [x]) (fun z hz => h z (by simp [hz]))]
    simp
theorem run_again {lineL : List UInt8 → Option α} {lineT : α → List UInt8} (hb : ∀ l x, lineL l = some x → lineT x = l) (e : Bool) : ∀ (ls : List (List UInt8)) (s : List UInt8) (out o : List α), lin [] s = (ls, e) → run lineL e ls out = (o, none) → ∃ xs, o = out ++ xs ∧ printL lineT xs = s
  | [], s, out, o, h, hr => by
    obtain ⟨rfl, _⟩ := lin_nil h
    have := congrArg Prod.fst hr
    exact ⟨[], by simp [run] at this ⊢; exact this.symm, rfl⟩
  | l :: r, s, out, o, h, hr => by
    obtain ⟨e1, e2, _⟩ := lin_next h
    rw [run_cons] at hr
    cases hx : lineL l with
    | none => rw [hx] at hr; simp at hr
    | some x =>
      rw [hx] at hr
      simp only [] at hr
      by_cases c : r = [] ∧ e = false
      · rw [if_pos c] at hr; simp at hr
      · rw [if_neg c] at hr
        rcases e2 with ⟨cf, hrest⟩ | ⟨_, _, h1, h2⟩
        · obtain ⟨xs, g1, g2⟩ := run_again hb e r _ (out ++ [x]) o hrest hr
          refine ⟨x :: xs, by rw [g1]; simp, ?_⟩
          show lineT x ++ 10 :: printL lineT xs = s
          rw [g2, hb l x hx, ← e1]
          exact (cut1_sum 10 s cf).symm
        · exact absurd ⟨h1, h2⟩ c
theorem printL_len {lineT : α → List UInt8} {m : Nat} : ∀ l : List α, (∀ x, x ∈ l → (lineT x).length ≤ m) → (printL lineT l).length ≤ (m + 1) * l.length
  | [], _ => by simp [printL]
  | x :: r, h => by
    have a := h x (by simp)
    have b := printL_len r (fun z hz => h z (by simp [hz]))
    simp only [printL, List.length_append, List.length_cons]
    rw [Nat.mul_add, Nat.mul_one]; omega
end
theorem itoa_dig {n : Int} (h0 : 0 ≤ n) : Lib.itoa n = Lib.decDigits n.toNat := by unfold Lib.itoa; rw [if_neg (by omega)]
theorem itoa_le {n : Int} {m : Nat} (h0 : 0 ≤ n) (h1 : n < 10 ^ m) (hm : 1 ≤ m) : (Lib.itoa n).length ≤ m := by
  rw [itoa_dig h0]
  refine digits_length_le ?_ hm
  have : ((n.toNat : Nat) : Int) < ((10 ^ m : Nat) : Int) := by rw [Int.natCast_pow]; show ((n.toNat : Nat) : Int) < 10 ^ m; omega
  exact Int.ofNat_lt.1 this
theorem itoa_numP {n : Int} {m : Nat} (h0 : 0 ≤ n) (h1 : n < 10 ^ m) (hm : 1 ≤ m) : numP m (Lib.itoa n) = some n.toNat := by
  have := itoa_le h0 h1 hm
  rw [itoa_dig h0] at this ⊢
  exact numP_digits this
theorem itoa_no {n : Int} (h0 : 0 ≤ n) {c : UInt8} (hc : isDig c = false) : c ∉ Lib.itoa n := by
  rw [itoa_dig h0]
  exact digit_not (digits_all _) hc
theorem numP_itoa {m v : Nat} {s : List UInt8} (h : numP m s = some v) : Lib.itoa (v : Int) = s := by
  rw [itoa_dig (by omega), Int.toNat_natCast]; exact (numP_text h).1
end Go.Proofs.YtkolhpacpbhceaaDoor.PL
namespace Go.Proofs.YtkolhpacpbhceaaDoor.PL
open Go Go.RowKit Go.Proofs.YtkolhpacpbhceaaDoorW.PrintWords Go.Proofs.YtkolhpacpbhceaaDoorW.PrintLast Go.Proofs.YtkolhpacpbhceaaDoorW.PrintMore Go.Proofs.YtkolhpacpbhceaaDoor.Pr Go.Proofs.YtkolhpacpbhceaaDoor.Opn Go.Proofs.YtkolhpacpbhceaaDoor.X
theorem rd39_get {l : List S39} {i : Int} (h0 : 0 ≤ i) (h : i < (l.length : Int)) : l[i.toNat]? = some (rd_T39 l i) := by
  have hl : i.toNat < l.length := by omega
  unfold rd_T39
  rw [List.getD_eq_getElem?_getD, List.getElem?_eq_getElem hl]
  rfl
theorem rd39_mem {l : List S39} {i : Int} (h0 : 0 ≤ i) (h : i < (l.length : Int)) : rd_T39 l i ∈ l := List.mem_of_getElem? (rd39_get h0 h)
theorem rd39_of_mem {l : List S39} {x : S39} (h : x ∈ l) : ∃ i : Int, 0 ≤ i ∧ i < (l.length : Int) ∧ rd_T39 l i = x := by
  obtain ⟨i, hi⟩ := List.mem_iff_getElem?.1 h
  have hl := (List.getElem?_eq_some_iff.1 hi).1
  refine ⟨(i : Int), by omega, by omega, ?_⟩
  unfold rd_T39
  rw [List.getD_eq_getElem?_getD, Int.toNat_natCast, hi]
  rfl
theorem drop39 {l : List S39} {i : Int} (h0 : 0 ≤ i) (h1 : i < (l.length : Int)) : l.drop i.toNat = rd_T39 l i :: l.drop (i + 1).toNat := by
  have hl : i.toNat < l.length := by omega
  have g := rd39_get h0 h1
  rw [List.getElem?_eq_getElem hl] at g
  rw [← Option.some.inj g, show (i + 1).toNat = i.toNat + 1 from by omega, ← List.drop_eq_getElem_cons hl]
/-- The first and the last height, the last volume. -/
def h0 (l : List S39) : Int := (rd_T39 l 0).f0
def hN (l : List S39) : Int := (rd_T39 l ((l.length : Int) - 1)).f0
theorem two_of {l : List S39} (h : 2 ≤ (l.length : Int)) : ∃ a b r, l = a :: b :: r := by
  cases l with
  | nil => exact absurd h (by simp)
  | cons a l =>
    cases l with
    | nil => exact absurd h (by simp)
    | cons b r => exact ⟨a, b, r, rfl⟩
end Go.Proofs.YtkolhpacpbhceaaDoor.PL
namespace Go.Proofs.YtkolhpacpbhceaaDoor.PL
open Go Go.RowKit Go.Proofs.YtkolhpacpbhceaaDoorW.PrintWords Go.Proofs.YtkolhpacpbhceaaDoorW.PrintLast Go.Proofs.YtkolhpacpbhceaaDoorW.PrintMore Go.Proofs.YtkolhpacpbhceaaDoor.Pr Go.Proofs.YtkolhpacpbhceaaDoor.Opn Go.Proofs.YtkolhpacpbhceaaDoor.X
def RngR (x : S39) : Prop := 0 ≤ x.f0 ∧ x.f0 ≤ 200000 ∧ 1 ≤ x.f1 ∧ x.f1 ≤ 4294967296
def StpR (x y : S39) : Prop := x.f0 < y.f0 ∧ x.f1 < y.f1
def OKR (l : List S39) : Prop := 1 ≤ (l.length : Int) ∧ (l.length : Int) ≤ 128 ∧ (∀ j, 0 ≤ j → j < (l.length : Int) → RngR (rd_T39 l j)) ∧ (∀ j, 1 ≤ j → j < (l.length : Int) → StpR (rd_T39 l (j - 1)) (rd_T39 l j))
theorem badR_eq (x : S39) : ∃ b, rod_Check_1.f x.f0 x.f1 = some b ∧ (b = true ↔ ¬ RngR x) := by
  unfold rod_Check_1.f RngR
  by_cases h1 : x.f0 < 0
  · exact ⟨true, by rw [if_pos h1], by simp; omega⟩
  by_cases h2 : x.f0 > 200000
  · exact ⟨true, by rw [if_neg h1, if_pos h2], by simp; omega⟩
  by_cases h3 : x.f1 < 1
  · exact ⟨true, by rw [if_neg h1, if_neg h2, if_pos h3], by simp; omega⟩
  refine ⟨decide (x.f1 > 4294967296), by rw [if_neg h1, if_neg h2, if_neg h3], ?_⟩
  rw [decide_eq_true_iff]
  omega
theorem range_rod (l : List S39) (hl : (l.length : Int) ≤ 9223372036854775807) : ∀ i, 0 ≤ i → i ≤ (l.length : Int) →
    ∃ r, Ev (fun k => api_Mark_38_at_41.l0 k l (l.length : Int) i) r ∧ (r ≥ 0 ↔ ¬ ∀ j, i ≤ j → j < (l.length : Int) → RngR (rd_T39 l j)) := by
  refine count_up 0 (l.length : Int) _ ?_ ?_
  · exact ⟨-1, Ev.step (fun k => api_Mark_38_at_41.l0.eq_2 ..) (evn (by omega) (Ev.now _)), by constructor; omega; exact fun h => absurd (fun j h1 h2 => by omega) h⟩
  · intro i h0 h1 ih
    obtain ⟨b, hb, hb2⟩ := badR_eq (rd_T39 l i)
    have hs := w64_succ h0 h1 hl
    by_cases c : RngR (rd_T39 l i)
    · obtain ⟨r, r1, r2⟩ := ih
      have hbf : ¬ b = true := fun h => hb2.1 h c
      refine ⟨r, Ev.step (fun k => api_Mark_38_at_41.l0.eq_2 ..) (evp h1 (evp h0 (evp h1 (evb (evc (fun _ => rfl) hb) (evn hbf (by rw [hs]; exact r1)))))), r2.trans (not_congr ⟨fun h j a q => ?_, fun h j a q => h j (by omega) q⟩)⟩
      by_cases e : j = i
      · rw [e]; exact c
      · exact h j (by omega) q
    · exact ⟨i, Ev.step (fun k => api_Mark_38_at_41.l0.eq_2 ..) (evp h1 (evp h0 (evp h1 (evb (evc (fun _ => rfl) hb) (evp (hb2.2 c) (Ev.now _)))))), ⟨fun _ h => c (h i (Int.le_refl _) h1), fun _ => h0⟩⟩
theorem orderR_both (l : List S39) (hn : (l.length : Int) ≤ 128) : ∀ i, 1 ≤ i → i ≤ (l.length : Int) →
    ∃ e, Ev (fun k => rod_Check.l0 k l i) e ∧ Ev (fun k => spileref14_Check.l1 k l i) e ∧ (e = 0 ↔ ∀ j, i ≤ j → j < (l.length : Int) → StpR (rd_T39 l (j - 1)) (rd_T39 l j)) := by
  refine count_up 1 (l.length : Int) _ ?_ ?_
  · exact ⟨0, Ev.step (fun k => rod_Check.l0.eq_2 ..) (evn (by omega) (Ev.now _)), Ev.step (fun k => spileref14_Check.l1.eq_2 ..) (evn (by omega) (Ev.now _)), ⟨fun _ j a b => by omega, fun _ => rfl⟩⟩
  · intro i h0 h1 ih
    have hs := w64_succ (i := i) (by omega) h1 (by omega)
    have hp := w64_pred (i := i) (by omega) (Int.le_of_lt h1) (by omega)
    have q0 : 0 ≤ wrap64 (i - 1) := by rw [hp]; omega
    have q1 : wrap64 (i - 1) < (l.length : Int) := by rw [hp]; omega
    by_cases c1 : (rd_T39 l (wrap64 (i - 1))).f0 ≥ (rd_T39 l i).f0
    · refine ⟨5, Ev.step (fun k => rod_Check.l0.eq_2 ..) (evp h1 (evp q0 (evp q1 (evp (by omega) (evp c1 (Ev.now _)))))), Ev.step (fun k => spileref14_Check.l1.eq_2 ..) (evp h1 (evp q0 (evp q1 (evp (by omega) (evp c1 (Ev.now _)))))), ⟨fun h => by omega, fun h => ?_⟩⟩
      rw [hp] at c1
      have := (h i (by omega) h1).1
      omega
    by_cases c2 : (rd_T39 l (wrap64 (i - 1))).f1 ≥ (rd_T39 l i).f1
    · refine ⟨5, Ev.step (fun k => rod_Check.l0.eq_2 ..) (evp h1 (evp q0 (evp q1 (evp (by omega) (evn c1 (evp c2 (Ev.now _))))))), Ev.step (fun k => spileref14_Check.l1.eq_2 ..) (evp h1 (evp q0 (evp q1 (evp (by omega) (evn c1 (evp c2 (Ev.now _))))))), ⟨fun h => by omega, fun h => ?_⟩⟩
      rw [hp] at c2
      have := (h i (by omega) h1).2
      omega
    · obtain ⟨e, e1, e2, e3⟩ := ih
      refine ⟨e, Ev.step (fun k => rod_Check.l0.eq_2 ..) (evp h1 (evp q0 (evp q1 (evp (by omega) (evn c1 (evn c2 (by rw [hs]; exact e1))))))), Ev.step (fun k => spileref14_Check.l1.eq_2 ..) (evp h1 (evp q0 (evp q1 (evp (by omega) (evn c1 (evn c2 (by rw [hs]; exact e2))))))), e3.trans ⟨fun h j a b => ?_, fun h j a b => h j (by omega) b⟩⟩
      by_cases z : j = i
      · rw [hp] at c1 c2; rw [z]; exact ⟨by omega, by omega⟩
      · exact h j (by omega) b
theorem rangeR_ref (l : List S39) (e : Int) (hl : (l.length : Int) ≤ 9223372036854775807) (he : Ev (fun k => spileref14_Check.l1 k l 1) e) : ∀ i, 0 ≤ i → i ≤ (l.length : Int) →
    ((∀ j, i ≤ j → j < (l.length : Int) → RngR (rd_T39 l j)) → Ev (fun k => spileref14_Check.l0 k l i) e) ∧ ((¬ ∀ j, i ≤ j → j < (l.length : Int) → RngR (rd_T39 l j)) → Ev (fun k => spileref14_Check.l0 k l i) 2) := by
  refine count_up 0 (l.length : Int) _ ?_ ?_
  · exact ⟨fun _ => Ev.step (fun k => spileref14_Check.l0.eq_2 ..) (evn (by omega) he), fun h => absurd (fun j a b => by omega) h⟩
  · intro i h0 h1 ih
    have hs := w64_succ h0 h1 hl
    by_cases c : RngR (rd_T39 l i)
    · have up : ∀ r, Ev (fun k => spileref14_Check.l0 k l (i + 1)) r → Ev (fun k => spileref14_Check.l0 k l i) r := fun r h => by
        have c' := c
        unfold RngR at c'
        exact Ev.step (fun k => spileref14_Check.l0.eq_2 ..) (evp h1 (evp h0 (evn (by omega) (evn (by omega) (evn (by omega) (evn (by omega) (by rw [hs]; exact h)))))))
      refine ⟨fun h => up _ (ih.1 fun j a b => h j (by omega) b), fun h => up _ (ih.2 fun h2 => h fun j a b => ?_)⟩
      by_cases z : j = i
      · rw [z]; exact c
      · exact h2 j (by omega) b
    · refine ⟨fun h => absurd (h i (Int.le_refl _) h1) c, fun _ => ?_⟩
      unfold RngR at c
      by_cases d1 : (rd_T39 l i).f0 < 0
      · exact Ev.step (fun k => spileref14_Check.l0.eq_2 ..) (evp h1 (evp h0 (evp d1 (Ev.now _))))
      by_cases d2 : (rd_T39 l i).f0 > 200000
      · exact Ev.step (fun k => spileref14_Check.l0.eq_2 ..) (evp h1 (evp h0 (evn d1 (evp d2 (Ev.now _)))))
      by_cases d3 : (rd_T39 l i).f1 < 1
      · exact Ev.step (fun k => spileref14_Check.l0.eq_2 ..) (evp h1 (evp h0 (evn d1 (evn d2 (evp d3 (Ev.now _))))))
      · exact Ev.step (fun k => spileref14_Check.l0.eq_2 ..) (evp h1 (evp h0 (evn d1 (evn d2 (evn d3 (evp (by omega) (Ev.now _)))))))
theorem rod_both (l : List S39) (hl : (l.length : Int) ≤ 9223372036854775807) : ∃ e, Ev (fun k => rod_Check.f k l) e ∧ Ev (fun k => spileref14_Check.f k l) e ∧ (e = 0 ↔ OKR l) := by
  by_cases a1 : (l.length : Int) = 0
  · exact ⟨9, evp a1 (Ev.now _), evp a1 (Ev.now _), ⟨fun h => by omega, fun h => by have := h.1; omega⟩⟩
  by_cases a2 : (l.length : Int) > 128
  · exact ⟨8, evn a1 (evp a2 (Ev.now _)), evn a1 (evp a2 (Ev.now _)), ⟨fun h => by omega, fun h => by have := h.2.1; omega⟩⟩
  obtain ⟨e, e1, e2, e3⟩ := orderR_both l (by omega) 1 (Int.le_refl _) (by omega)
  obtain ⟨r, r1, r2⟩ := range_rod l hl 0 (Int.le_refl _) (by omega)
  have ref := rangeR_ref l e hl e2 0 (Int.le_refl _) (by omega)
  by_cases hr : ∀ j, 0 ≤ j → j < (l.length : Int) → RngR (rd_T39 l j)
  · refine ⟨e, evn a1 (evn a2 (evb (evb r1 (Ev.now _)) (evn ?_ e1))), evn a1 (evn a2 (ref.1 hr)), e3.trans ⟨fun h => ⟨by omega, by omega, hr, h⟩, fun h => h.2.2.2⟩⟩
    rw [decide_eq_false (fun h => r2.1 h hr)]; simp
  · exact ⟨2, evn a1 (evn a2 (evb (evb r1 (Ev.now _)) (evp (decide_eq_true (r2.2 hr)) (Ev.now _)))), evn a1 (evn a2 (ref.2 hr)), ⟨fun h => by omega, fun h => absurd h.2.2.1 hr⟩⟩
end Go.Proofs.YtkolhpacpbhceaaDoor.PL
namespace Go.Proofs.YtkolhpacpbhceaaDoor.PL
open Go Go.RowKit Go.Proofs.YtkolhpacpbhceaaDoorW.PrintWords Go.Proofs.YtkolhpacpbhceaaDoorW.PrintLast Go.Proofs.YtkolhpacpbhceaaDoorW.PrintMore Go.Proofs.YtkolhpacpbhceaaDoor.Pr Go.Proofs.YtkolhpacpbhceaaDoor.Opn Go.Proofs.YtkolhpacpbhceaaDoor.X
theorem same_self (l : List S39) (hl : (l.length : Int) ≤ 9223372036854775807) : Ev (fun k => spileref14_Same.f k l l) true := by
  refine evb (evp rfl (Ev.step (fun k => spileref13_Same.j0.eq_2 ..) (evn (by simp) ?_))) (Ev.now _)
  refine count_up 0 (l.length : Int) (fun i => Ev (fun k => spileref13_Same.l0 k i l 0 l 0) true) ?_ ?_ 0 (Int.le_refl _) (by omega)
  · exact Ev.step (fun k => spileref13_Same.l0.eq_2 ..) (evn (by omega) (Ev.now _))
  · intro i h0 h1 ih
    have hs := w64_succ h0 h1 hl
    refine Ev.step (fun k => spileref13_Same.l0.eq_2 ..) ?_
    rw [hs]
    exact evp h1 (evp h0 (evp h1 (evn (by simp) ih)))
theorem clone_eq {l : List S39} (h : (l.length : Int) ≤ 129) : slices_Clone39.f l = some l := by
  unfold slices_Clone39.f
  rw [if_pos (by omega)]
theorem few_cases (r l : List S39) (t : Int) : ∃ b, spilelaw14_few.f r l t = some b ∧ (b = true → (r.length : Int) ≤ 129 ∧ (l.length : Int) ≤ 129) := by
  unfold spilelaw14_few.f spileref13_Few.f
  by_cases c : (r.length : Int) ≤ 129
  · exact ⟨decide ((l.length : Int) ≤ 129), by rw [if_pos c]; rfl, fun q => ⟨c, of_decide_eq_true q⟩⟩
  · exact ⟨false, by rw [if_neg c], fun q => by cases q⟩
end Go.Proofs.YtkolhpacpbhceaaDoor.PL
namespace Go.Proofs.YtkolhpacpbhceaaDoor.PL
open Go Go.RowKit Go.Proofs.YtkolhpacpbhceaaDoorW.PrintWords Go.Proofs.YtkolhpacpbhceaaDoorW.PrintLast Go.Proofs.YtkolhpacpbhceaaDoorW.PrintMore Go.Proofs.YtkolhpacpbhceaaDoor.Pr Go.Proofs.YtkolhpacpbhceaaDoor.Opn Go.Proofs.YtkolhpacpbhceaaDoor.TX Go.Proofs.YtkolhpacpbhceaaDoor.X
theorem numR_bad {b : List UInt8} (h : ¬ (Canon b ∧ b.length ≤ 10)) : numR 10 b = (0, false) := by unfold numR numP; rw [if_neg h]
theorem numR_ok {b : List UInt8} (h : Canon b ∧ b.length ≤ 10) : numR 10 b = (((valFrom 0 b : Nat) : Int), true) := by unfold numR numP; rw [if_pos h]
theorem digit_eq (b : UInt8) : rod_number_1.f (b.toNat : Int) = some (isDig b) := by
  unfold rod_number_1.f
  by_cases h : (b.toNat : Int) ≥ 48
  · rw [if_pos h]
    refine congrArg some ?_
    by_cases h2 : (b.toNat : Int) ≤ 57
    · rw [decide_eq_true h2, (isDig_iff b).2 (by omega)]
    · rw [decide_eq_false h2]
      cases e : isDig b with
      | false => rfl
      | true => exact absurd ((isDig_iff b).1 e) (by omega)
  · rw [if_neg h]
    cases e : isDig b with
    | false => rfl
    | true => exact absurd ((isDig_iff b).1 e) (by omega)
theorem step_val (n : Nat) (b : UInt8) (hd : isDig b = true) (hn : n ≤ 10000000000) : wrap64 ((wrap64 (10 * (n : Int))) + (((b.toNat : Int) - 48) % 256)) = ((10 * n + (b.toNat - 48) : Nat) : Int) := by
  have h := (isDig_iff b).1 hd
  rw [w64 (x := 10 * (n : Int)) (by omega) (by omega), w64 (by omega) (by omega)]
  omega
theorem rod_num_loop (s : ByteArray) (hs : (s.size : Int) ≤ 10) : ∀ i, 0 ≤ i → i ≤ (s.size : Int) → ∀ n : Nat, n + 1 ≤ 10 ^ i.toNat →
    Ev (fun k => rod_number.l0 k s (n : Int) (s.size : Int) i) (if (s.data.toList.drop i.toNat).all isDig = true then (((valFrom n (s.data.toList.drop i.toNat) : Nat) : Int), true) else (0, false)) := by
  refine count_up 0 (s.size : Int) _ ?_ ?_
  · intro n hn
    rw [drop_end]
    exact Ev.step (fun k => rod_number.l0.eq_2 ..) (evn (by omega) (evr (by rw [if_pos (show ([] : List UInt8).all isDig = true from rfl)]; rfl)))
  · intro i h0 h1 ih n hn
    obtain ⟨b, e1, _, e3⟩ := byte_at s h0 h1
    have hw : wrap64 (i + 1) = i + 1 := w64 (by omega) (by omega)
    have hp : 10 ^ i.toNat ≤ 10 ^ 10 := Nat.pow_le_pow_right (by decide) (by omega)
    refine Ev.step (fun k => rod_number.l0.eq_2 ..) (evp h1 (evp h0 (evp h1 ?_)))
    rw [e3, e1, hw, digit_eq]
    cases hd : isDig b with
    | false =>
      rw [if_neg (by simp [hd])]
      exact evb (Ev.now _) (evn (by simp) (Ev.now _))
    | true =>
      rw [step_val n b hd (by omega)]
      have q := ih (10 * n + (b.toNat - 48)) (by
        have := (isDig_iff b).1 hd
        rw [show (i + 1).toNat = i.toNat + 1 from by omega, Nat.pow_succ]; omega)
      have ea : ((b :: s.data.toList.drop (i + 1).toNat).all isDig = true) = ((s.data.toList.drop (i + 1).toNat).all isDig = true) := by
        rw [List.all_cons, hd, Bool.true_and]
      simp only [ea]
      exact evb (Ev.now _) (evp rfl q)
theorem rod_num_ev (b : List UInt8) : Ev (fun k => rod_number.f k (ba b)) (numR 10 b) := by
  have hsz : (ba b).size = b.length := rfl
  by_cases c1 : ((ba b).size : Int) < 1
  · rw [numR_bad (fun h => by have := h.1.1; omega)]
    exact evp c1 (Ev.step (fun k => rod_number.j0.eq_2 ..) (evp rfl (Ev.now _)))
  by_cases c2 : ((ba b).size : Int) > 10
  · rw [numR_bad (fun h => by have := h.2; omega)]
    exact evn c1 (evp c2 (Ev.step (fun k => rod_number.j0.eq_2 ..) (evp rfl (Ev.now _))))
  have go : ¬ (1 < b.length ∧ b.head? = some 48) → Ev (fun k => rod_number.j0 k (ba b) false) (numR 10 b) := by
    intro hh
    have q := rod_num_loop (ba b) (by omega) 0 (by omega) (by omega) 0 (by decide)
    rw [show (0 : Int).toNat = 0 from rfl, List.drop_zero, ba_list] at q
    refine Ev.step (fun k => rod_number.j0.eq_2 ..) (evn (by simp) ?_)
    by_cases hd : b.all isDig = true
    · rw [if_pos hd] at q
      rw [numR_ok ⟨⟨by omega, hh, hd⟩, by omega⟩]
      exact q
    · rw [if_neg hd] at q
      rw [numR_bad (fun h => hd h.1.2.2)]
      exact q
  by_cases c3 : ((ba b).size : Int) > 1
  · obtain ⟨c, e1, _, e3⟩ := byte_at (ba b) (i := 0) (by omega) (by omega)
    rw [show (0 : Int).toNat = 0 from rfl, List.drop_zero, ba_list] at e1
    refine evn c1 (evn c2 (evp c3 (evp (by omega) ?_)))
    rw [e3]
    by_cases c4 : c = 48
    · have e4 : ((c.toNat : Int) == 48) = true := by rw [beq_iff_eq]; exact (toNat_eq c 48 (by decide)).2 c4
      rw [e4, numR_bad (fun h => h.1.2.1 ⟨by omega, by rw [e1]; simp [c4]⟩)]
      exact Ev.step (fun k => rod_number.j0.eq_2 ..) (evp rfl (Ev.now _))
    · have e4 : ((c.toNat : Int) == 48) = false := by rw [beq_eq_false_iff_ne]; exact fun h => c4 ((toNat_eq c 48 (by decide)).1 h)
      rw [e4]
      exact go (fun h => c4 (by have := h.2; rw [e1] at this; simpa using this))
  · exact evn c1 (evn c2 (evn c3 (go (fun h => by omega))))
/-- What the specification says of a number: its value, and whether it has the form. -/
def flagR (b : List UInt8) : Bool := match b with
  | [] => false
  | [_] => true
  | c :: _ => decide (c ≠ 48)
theorem ref_num_loop (b : List UInt8) (hb : b.length ≤ 100000) : ∀ i, 0 ≤ i → i ≤ (b.length : Int) → i ≤ 10 → ∀ n : Nat, n + 1 ≤ 10 ^ i.toNat →
    Ev (fun k => spileref14_number.l0 k (ba b) (n : Int) i) (if (b.drop i.toNat).all isDig = true ∧ b.length ≤ 10 then (((valFrom n (b.drop i.toNat) : Nat) : Int), flagR b) else (0, false)) := by
  have hsz : (ba b).size = b.length := rfl
  refine count_up 0 (b.length : Int) _ ?_ ?_
  · intro h10 n hn
    rw [show ((b.length : Int)).toNat = b.length from by omega, List.drop_length, if_pos ⟨rfl, by omega⟩]
    refine Ev.step (fun k => spileref14_number.l0.eq_2 ..) (evn (by omega) ?_)
    rw [ba_toList]
    match b with
    | [] => exact evp rfl (evr rfl)
    | [c] => exact evn (by simp) (evp (by rw [ba_size]; rfl) (evr rfl))
    | c :: d :: r =>
      obtain ⟨z, e1, _, e3⟩ := byte_at (ba (c :: d :: r)) (i := 0) (by omega) (by rw [ba_size]; simp; omega)
      rw [show (0 : Int).toNat = 0 from rfl, List.drop_zero, ba_list] at e1
      have hz : c = z := (List.cons.inj e1).1
      refine evn (by simp) (evn (by rw [ba_size]; simp; omega) (evp (by rw [ba_size]; simp; omega) ?_))
      rw [e3, ← hz]
      refine evr (Prod.ext rfl ?_)
      show ((c.toNat : Int) != 48) = decide (c ≠ 48)
      by_cases q : c = 48
      · rw [q]; rfl
      · rw [decide_eq_true q, bne_iff_ne]
        exact fun h => q ((toNat_eq c 48 (by decide)).1 h)
  · intro i h0 h1 ih h10 n hn
    obtain ⟨c, e1, _, e3⟩ := byte_at (ba b) h0 (by rw [ba_size]; exact h1)
    rw [ba_list] at e1
    have hw : wrap64 (i + 1) = i + 1 := w64 (by omega) (by omega)
    have hp : 10 ^ i.toNat ≤ 10 ^ 10 := Nat.pow_le_pow_right (by decide) (by omega)
    refine Ev.step (fun k => spileref14_number.l0.eq_2 ..) (evp (by rw [ba_size]; exact h1) (evp h0 ?_))
    rw [e3, e1, hw]
    by_cases d1 : (c.toNat : Int) < 48
    · have hd : ¬ isDig c = true := fun h => by have := (isDig_iff c).1 h; omega
      rw [if_neg (fun h => hd (by have := h.1; rw [List.all_cons, Bool.and_eq_true] at this; exact this.1))]
      exact evp d1 (Ev.now _)
    by_cases d2 : (c.toNat : Int) > 57
    · have hd : ¬ isDig c = true := fun h => by have := (isDig_iff c).1 h; omega
      rw [if_neg (fun h => hd (by have := h.1; rw [List.all_cons, Bool.and_eq_true] at this; exact this.1))]
      exact evn d1 (evp d2 (Ev.now _))
    have hd : isDig c = true := (isDig_iff c).2 (by omega)
    by_cases d3 : i ≥ 10
    · rw [if_neg (fun h => by omega)]
      exact evn d1 (evn d2 (evp d3 (Ev.now _)))
    · rw [step_val n c hd (by omega)]
      have q := ih (by omega) (10 * n + (c.toNat - 48)) (by
        have := (isDig_iff c).1 hd
        rw [show (i + 1).toNat = i.toNat + 1 from by omega, Nat.pow_succ]; omega)
      have ea : ((c :: b.drop (i + 1).toNat).all isDig = true) = ((b.drop (i + 1).toNat).all isDig = true) := by
        rw [List.all_cons, hd, Bool.true_and]
      simp only [ea]
      exact evn d1 (evn d2 (evn d3 q))
theorem ref_num_ev (b : List UInt8) (hb : b.length ≤ 100000) : ∃ p : Int × Bool, Ev (fun k => spileref14_number.f k (ba b)) p ∧ (∀ v, numP 10 b = some v → p = ((v : Int), true)) ∧ (numP 10 b = none → p.2 = false) := by
  have q := ref_num_loop b hb 0 (by omega) (by omega) (by omega) 0 (by decide)
  rw [show (0 : Int).toNat = 0 from rfl, List.drop_zero] at q
  refine ⟨_, q, fun v h => ?_, fun h => ?_⟩
  · unfold numP at h
    by_cases c : Canon b ∧ b.length ≤ 10
    · rw [if_pos c] at h
      rw [if_pos ⟨c.1.2.2, c.2⟩, ← Option.some.inj h]
      refine Prod.ext rfl ?_
      obtain ⟨⟨h1, h2, h3⟩, _⟩ := c
      match b, h1, h2 with
      | [_], _, _ => rfl
      | x :: y :: r, _, h2 =>
        show decide (x ≠ 48) = true
        rw [decide_eq_true_iff]
        exact fun e => h2 ⟨by simp, by simp [e]⟩
    · rw [if_neg c] at h; cases h
  · unfold numP at h
    by_cases c : Canon b ∧ b.length ≤ 10
    · rw [if_pos c] at h; cases h
    · by_cases c2 : b.all isDig = true ∧ b.length ≤ 10
      · rw [if_pos c2]
        show flagR b = false
        match b, c, c2 with
        | [], _, _ => rfl
        | [z], c, c2 => exact absurd ⟨⟨by simp, by simp, c2.1⟩, c2.2⟩ c
        | x :: y :: r, c, c2 =>
          show decide (x ≠ 48) = false
          rw [decide_eq_false_iff_not, Decidable.not_not]
          by_cases e : x = 48
          · exact e
          · exact absurd ⟨⟨by simp, fun h => e (by simpa using h.2), c2.1⟩, c2.2⟩ c
      · rw [if_neg c2]
def markW (a b : List UInt8) : Option S39 := match numP 10 a with
  | none => none
  | some x => match numP 10 b with
    | none => none
    | some y => some ⟨(x : Int), (y : Int)⟩
def lineL (l : List UInt8) : Option S39 := if (cut1 32 l).2.2 = true then markW (cut1 32 l).1 (cut1 32 l).2.1 else none
def lineT (x : S39) : List UInt8 := Lib.itoa x.f0 ++ 32 :: Lib.itoa x.f1
theorem cut32_ev (s : ByteArray) (hs : s.size < 4294967281) : strings_Cut.f s ⟨#[32]⟩ = some (ba (cut1 32 s.data.toList).1, ba (cut1 32 s.data.toList).2.1, (cut1 32 s.data.toList).2.2) := by
  unfold strings_Cut.f
  rw [if_pos hs]
  have e : Lib.cut s.data.toList (⟨#[32]⟩ : ByteArray).data.toList = cut1 32 s.data.toList := cut_eq 32 s.data.toList
  rw [e]
  rfl
theorem numR_none {b : List UInt8} (h : numP 10 b = none) : numR 10 b = (0, false) := by unfold numR; rw [h]
theorem numR_some {b : List UInt8} {v : Nat} (h : numP 10 b = some v) : numR 10 b = ((v : Int), true) := by unfold numR; rw [h]
theorem rod_line (l : List UInt8) (f : Bool) (hl : l.length ≤ 100000) : Ev (fun k => rod_Parse.line k (ba l, f)) (if f = true then lineL l else none) := by
  have hc := cut32_ev (ba l) (by rw [ba_size]; omega)
  rw [ba_list] at hc
  have na := rod_num_ev (cut1 32 l).1
  have nb := rod_num_ev (cut1 32 l).2.1
  refine evb (evc (fun _ => rfl) hc) (evb na (evb nb ?_))
  cases f with
  | false => exact evn (by simp) (evr rfl)
  | true =>
    rw [if_pos rfl]
    unfold lineL
    by_cases c : (cut1 32 l).2.2 = true
    · rw [if_pos c]
      unfold markW
      cases ha : numP 10 (cut1 32 l).1 with
      | none => rw [numR_none ha]; exact evn (by simp) (Ev.now _)
      | some x =>
        cases hb : numP 10 (cut1 32 l).2.1 with
        | none => rw [numR_none hb]; exact evn (by simp) (Ev.now _)
        | some y => rw [numR_some ha, numR_some hb]; exact evp (by simp) (evr rfl)
    · rw [if_neg c]
      have e := (cut1_no 32 l (Bool.eq_false_iff.2 c)).2
      rw [e, show numR 10 [] = (0, false) from numR_bad (fun h => by have := h.1.1; simp at this)]
      exact evn (by simp) (Ev.now _)
theorem cut1_split (c : UInt8) : ∀ (p s : List UInt8), c ∉ p → cut1 c (p ++ s) = (p ++ (cut1 c s).1, (cut1 c s).2.1, (cut1 c s).2.2)
  | [], s, _ => rfl
  | b :: p, s, h => by
    have h1 : ¬ b = c := fun e => h (by simp [e])
    have ih := cut1_split c p s (fun e => h (by simp [e]))
    show cut1 c (b :: (p ++ s)) = _
    rw [cut1_cons, if_neg h1, ih]
    rfl
def markR (m : Int × Int × Bool) : Option S39 → Prop
  | some x => m = (x.f0, x.f1, true)
  | none => m.2.2 = false
theorem mark_loop (l : List UInt8) (hl : l.length ≤ 100000) : ∀ i, 0 ≤ i → i ≤ (l.length : Int) → (32 : UInt8) ∉ l.take i.toNat → ∃ m, Ev (fun k => spileref14_mark.l0 k (ba l) i) m ∧ markR m (lineL l) := by
  have hsz : (ba l).size = l.length := rfl
  refine count_up 0 (l.length : Int) (fun i => (32 : UInt8) ∉ l.take i.toNat → ∃ m, Ev (fun k => spileref14_mark.l0 k (ba l) i) m ∧ markR m (lineL l)) ?_ ?_
  · intro hno
    rw [show ((l.length : Int)).toNat = l.length from by omega, List.take_length] at hno
    refine ⟨(0, 0, false), Ev.step (fun k => spileref14_mark.l0.eq_2 ..) (evn (by omega) (Ev.now _)), ?_⟩
    have e := cut1_split 32 l [] hno
    rw [List.append_nil] at e
    unfold lineL
    rw [e, if_neg (by simp [cut1])]
    rfl
  · intro i h0 h1 ih hno
    obtain ⟨c, e1, e2, e3⟩ := byte_at (ba l) h0 (by rw [ba_size]; exact h1)
    rw [ba_list] at e1 e2
    have hw : wrap64 (i + 1) = i + 1 := w64 (by omega) (by omega)
    by_cases d : c = 32
    · subst d
      have es : l = l.take i.toNat ++ 32 :: l.drop (i + 1).toNat := by rw [← e1, List.take_append_drop]
      have ec : cut1 32 l = (l.take i.toNat, l.drop (i + 1).toNat, true) := by
        have := cut1_first 32 (l.take i.toNat) (l.drop (i + 1).toNat) hno
        rwa [← es] at this
      obtain ⟨p, p1, p2, p3⟩ := ref_num_ev (l.take i.toNat) (by rw [List.length_take]; omega)
      obtain ⟨q, q1, q2, q3⟩ := ref_num_ev (l.drop (i + 1).toNat) (by rw [List.length_drop]; omega)
      have x1 : (ba l).extract 0 i.toNat = ba (l.take i.toNat) := by rw [ba_ex, ba_list, List.drop_zero]
      have x2 : (ba l).extract (i + 1).toNat (ba l).size = ba (l.drop (i + 1).toNat) := by rw [ba_ex, ba_list, hsz, List.take_length]
      have pre : ∀ m, Ev (fun k => if p.2 = true then (some (p.1, q.1, q.2)) else (some (p.1, q.1, false))) m → Ev (fun k => spileref14_mark.l0 k (ba l) i) m := fun m hm => by
        refine Ev.step (fun k => spileref14_mark.l0.eq_2 ..) (evp (by omega) (evp h0 ?_))
        rw [e3, hw, x1, x2]
        exact evp rfl (evp (by omega) (evb p1 (evp (by omega) (evp (by omega) (evb q1 hm)))))
      unfold lineL
      rw [ec, if_pos rfl]
      unfold markW
      cases ha : numP 10 (l.take i.toNat) with
      | none =>
        have := p3 ha
        exact ⟨_, pre _ (evn (by rw [this]; simp) (Ev.now _)), rfl⟩
      | some x =>
        rw [p2 x ha] at pre
        cases hb : numP 10 (l.drop (i + 1).toNat) with
        | none => exact ⟨_, pre _ (evp rfl (Ev.now _)), q3 hb⟩
        | some y =>
          rw [q2 y hb] at pre
          exact ⟨_, pre _ (evp rfl (Ev.now _)), rfl⟩
    · obtain ⟨m, m1, m2⟩ := ih (by
        rw [e2, List.mem_append, not_or]
        exact ⟨hno, by simp; exact fun e => d e.symm⟩)
      refine ⟨m, Ev.step (fun k => spileref14_mark.l0.eq_2 ..) (evp (by omega) (evp h0 ?_)), m2⟩
      rw [e3, hw]
      exact evn (fun h => d ((toNat_eq c 32 (by decide)).1 h)) m1
theorem mark_ev (l : List UInt8) (hl : l.length ≤ 100000) : ∃ m, Ev (fun k => spileref14_mark.f k (ba l)) m ∧ markR m (lineL l) := mark_loop l hl 0 (by omega) (by omega) (by simp)
def Fin (r : List S39 × Int × Int) (o : List S39) : Prop := ∃ e, Ev (fun k => rod_Check.f k o) e ∧ (e = 0 ↔ OKR o) ∧ r = if e = 0 then (o, 0, 0) else ([], 0, e)
def runR (r : List S39 × Int × Int) : List S39 × Option Nat → Prop
  | (o, none) => Fin r o
  | (_, some i) => r = ([], (i : Int) + 1, 3)
theorem runR_unique {a b : List S39 × Int × Int} {x : List S39 × Option Nat} (h : runR a x) (g : runR b x) : a = b := by
  obtain ⟨o, st⟩ := x
  cases st with
  | none =>
    obtain ⟨e, e1, _, rfl⟩ := h
    obtain ⟨f, f1, _, rfl⟩ := g
    rw [ev_unique e1 f1]
  | some i => exact (show a = _ from h).trans (show b = _ from g).symm
theorem lns_next {s : List UInt8} (h : s ≠ []) : lns (ba s) = (ba (cut1 10 s).1, (cut1 10 s).2.2) :: lns (ba (cut1 10 s).2.1) := by
  have hs : ¬ (ba s).size = 0 := fun e => h (List.eq_nil_of_length_eq_zero e)
  rw [lns_cons hs]; rfl
theorem rod_rows (e : Bool) : ∀ (ls : List (List UInt8)) (s : List UInt8) (out : List S39), lin [] s = (ls, e) → s.length ≤ 5000 → out.length + ls.length ≤ 100000 →
    ∃ r, Ev (fun k => rod_Parse.rows k (lns (ba s)) out) r ∧ runR r (run lineL e ls out) := by
  intro ls
  induction ls with
  | nil =>
    intro s out h1 h2 h3
    obtain ⟨rfl, rfl⟩ := lin_nil h1
    obtain ⟨c, c1, _, c3⟩ := rod_both out (by omega)
    have e0 : lns (ba ([] : List UInt8)) = [] := lns_nil rfl
    rw [e0]
    refine ⟨if c = 0 then (out, 0, 0) else ([], 0, c), ?_, c, c1, c3, rfl⟩
    show Ev (fun k => (rod_Check.f k out).bind fun c => if c = 0 then some (out, 0, 0) else some ([], 0, c)) _
    refine evb c1 ?_
    by_cases q : c = 0
    · exact evp q (evr (by rw [if_pos q]))
    · exact evn q (evr (by rw [if_neg q]))
  | cons l r ih =>
    intro s out h1 h2 h3
    obtain ⟨e1, e2, hne, hll⟩ := lin_next h1
    have hd := rod_line (cut1 10 s).1 (cut1 10 s).2.2 (by rw [e1]; omega)
    rw [e1] at hd
    rw [lns_next hne, e1]
    have step : ∀ y, Ev (fun k => match (if (cut1 10 s).2.2 = true then lineL l else none) with
        | none => some (([] : List S39), (out.length : Int) + 1, (3 : Int))
        | some g => rod_Parse.rows k (lns (ba (cut1 10 s).2.1)) (out ++ [g])) y → Ev (fun k => rod_Parse.rows k ((ba l, (cut1 10 s).2.2) :: lns (ba (cut1 10 s).2.1)) out) y := by
      intro y hy
      show Ev (fun k => if out.length < 4294967296 then (rod_Parse.line k (ba l, (cut1 10 s).2.2)).bind fun y => match y with
        | none => some ([], (out.length : Int) + 1, 3)
        | some g => rod_Parse.rows k (lns (ba (cut1 10 s).2.1)) (out ++ [g]) else none) y
      exact evp (by simp at h3; omega) (evb hd hy)
    rw [run_cons]
    cases hx : lineL l with
    | none =>
      refine ⟨([], (out.length : Int) + 1, 3), step _ ?_, rfl⟩
      rw [hx, ite_self]
      exact Ev.now _
    | some x =>
      rw [hx] at step
      simp only []
      rcases e2 with ⟨c, hrest⟩ | ⟨c, _, rfl, rfl⟩
      · have hno : ¬ (r = [] ∧ e = false) := fun h => by
          have := (lin_nil (s := (cut1 10 s).2.1) (e := e) (by rw [hrest, h.1])).2
          rw [h.2] at this; cases this
        rw [if_neg hno]
        have hl2 := cut1_len 10 s c
        obtain ⟨y, y1, y3⟩ := ih (cut1 10 s).2.1 (out ++ [x]) hrest (by omega) (by rw [List.length_append]; simp at h3 ⊢; omega)
        rw [if_pos c] at step
        exact ⟨y, step y y1, y3⟩
      · rw [if_pos ⟨rfl, rfl⟩]
        rw [if_neg (by rw [c]; simp)] at step
        exact ⟨_, step _ (Ev.now _), rfl⟩
theorem ref_rows (s : List UInt8) (hs : s.length ≤ 5000) : ∀ i, 0 ≤ i → i ≤ (s.length : Int) → ∀ (out : List S39) (fr : Int), 0 ≤ fr → fr ≤ i → (out.length : Int) ≤ i →
    ∃ r, Ev (fun k => spileref14_Parse.l0 k (ba s) out fr i) r ∧ runR r (run lineL (lin ((s.take i.toNat).drop fr.toNat) (s.drop i.toNat)).2 (lin ((s.take i.toNat).drop fr.toNat) (s.drop i.toNat)).1 out) := by
  have hsz : (ba s).size = s.length := rfl
  refine count_up 0 (s.length : Int) _ ?_ ?_
  · intro out fr h0 h1 h2
    rw [show ((s.length : Int)).toNat = s.length from by omega, List.drop_length, List.take_length]
    have hw : wrap64 ((out.length : Int) + 1) = (out.length : Int) + 1 := w64 (by omega) (by omega)
    unfold lin
    by_cases c : fr < (s.length : Int)
    · have hne : ¬ s.drop fr.toNat = [] := fun e => by
        have := congrArg List.length e
        rw [List.length_drop] at this
        simp at this; omega
      rw [if_neg hne]
      refine ⟨([], (out.length : Int) + 1, 3), Ev.step (fun k => spileref14_Parse.l0.eq_2 ..) (evn (by omega) (evp (by omega) ?_)), ?_⟩
      · rw [hw]; exact Ev.now _
      · show runR _ (run lineL false [s.drop fr.toNat] out)
        rw [run_cons]
        cases lineL (s.drop fr.toNat) with
        | none => rfl
        | some x => simp only []; rw [if_pos ⟨trivial, trivial⟩]; rfl
    · have he : s.drop fr.toNat = [] := List.drop_eq_nil_of_le (by omega)
      rw [if_pos he]
      obtain ⟨e, e1, e2, e3⟩ := rod_both out (by omega)
      refine ⟨if e = 0 then (out, 0, 0) else ([], 0, e), Ev.step (fun k => spileref14_Parse.l0.eq_2 ..) (evn (by omega) (evn (by omega) (evb e2 ?_))), e, e1, e3, rfl⟩
      by_cases q : e = 0
      · exact evp q (evr (by rw [if_pos q]))
      · exact evn q (evr (by rw [if_neg q]))
  · intro i h0 h1 ih out fr g0 g1 g2
    obtain ⟨b, e1, e2, e3⟩ := byte_at (ba s) h0 (by rw [ba_size]; exact h1)
    rw [ba_list] at e1 e2
    have hw : wrap64 (i + 1) = i + 1 := w64 (by omega) (by omega)
    have hw2 : wrap64 ((out.length : Int) + 1) = (out.length : Int) + 1 := w64 (by omega) (by omega)
    have hlen : fr.toNat ≤ (s.take i.toNat).length := by rw [List.length_take]; omega
    rw [e1, lin_cons]
    by_cases c : b = 10
    · rw [if_pos c]
      obtain ⟨m, m1, m2⟩ := mark_ev ((s.take i.toNat).drop fr.toNat) (by rw [List.length_drop, List.length_take]; omega)
      have ex : (ba s).extract fr.toNat i.toNat = ba ((s.take i.toNat).drop fr.toNat) := by rw [ba_ex, ba_list]
      have pre : ∀ r, Ev (fun k => if m.2.2 = true then (if out.length < 8796093022208 then (spileref14_Parse.l0 k (ba s) (out ++ [(⟨m.1, m.2.1⟩ : S39)]) (i + 1) (i + 1)) else none) else (some (([] : List S39), (out.length : Int) + 1, 3))) r → Ev (fun k => spileref14_Parse.l0 k (ba s) out fr i) r := fun r hr => by
        refine Ev.step (fun k => spileref14_Parse.l0.eq_2 ..) (evp (by omega) (evp h0 (evp (by rw [e3]; exact (toNat_eq b 10 (by decide)).2 c) (evp g0 (evp g1 (evp (by omega) ?_))))))
        rw [ex, hw, hw2]
        exact evb m1 hr
      show ∃ r, Ev (fun k => spileref14_Parse.l0 k (ba s) out fr i) r ∧ runR r (run lineL (lin [] (s.drop (i + 1).toNat)).2 (((s.take i.toNat).drop fr.toNat) :: (lin [] (s.drop (i + 1).toNat)).1) out)
      rw [run_cons]
      cases hx : lineL ((s.take i.toNat).drop fr.toNat) with
      | none =>
        rw [hx] at m2
        exact ⟨_, pre _ (evn (by rw [show m.2.2 = false from m2]; simp) (Ev.now _)), rfl⟩
      | some x =>
        rw [hx] at m2
        obtain rfl : m = (x.f0, x.f1, true) := m2
        simp only []
        have hno : ¬ ((lin [] (s.drop (i + 1).toNat)).1 = [] ∧ (lin [] (s.drop (i + 1).toNat)).2 = false) := fun h => by
          have := (lin_nil (s := s.drop (i + 1).toNat) (e := false) (Prod.ext h.1 h.2)).2
          cases this
        rw [if_neg hno]
        obtain ⟨r, r1, r2⟩ := ih (out ++ [x]) (i + 1) (by omega) (Int.le_refl _) (by rw [List.length_append]; simp; omega)
        have z : (s.take (i + 1).toNat).drop (i + 1).toNat = [] := List.drop_eq_nil_of_le (by rw [List.length_take]; omega)
        rw [z] at r2
        exact ⟨r, pre _ (evp rfl (evp (by omega) r1)), r2⟩
    · rw [if_neg c]
      obtain ⟨r, r1, r2⟩ := ih out fr g0 (by omega) (by omega)
      rw [e2, List.drop_append_of_le_length hlen] at r2
      refine ⟨r, Ev.step (fun k => spileref14_Parse.l0.eq_2 ..) (evp (by omega) (evp h0 (evn (by rw [e3]; exact fun h => c ((toNat_eq b 10 (by decide)).1 h)) (by rw [hw]; exact r1)))), r2⟩
theorem parse_both (s : ByteArray) (hs : s.size ≤ 4096) : ∃ r, Ev (fun k => rod_Parse.f k s) r ∧ Ev (fun k => spileref14_Parse.f k s) r ∧ runR r (run lineL (lin [] s.data.toList).2 (lin [] s.data.toList).1 []) := by
  have hlen := lin_len s.data.toList []
  have hz := size_data s
  obtain ⟨r, r1, r2⟩ := rod_rows (lin [] s.data.toList).2 (lin [] s.data.toList).1 s.data.toList [] rfl (by omega) (by simp; omega)
  obtain ⟨q, q1, q2⟩ := ref_rows s.data.toList (by omega) 0 (by omega) (by omega) [] 0 (by omega) (by omega) (by simp)
  rw [show (0 : Int).toNat = 0 from rfl, List.take_zero, List.drop_zero, List.drop_zero] at q2
  rw [ba_data] at r1 q1
  rw [runR_unique q2 r2] at q1
  exact ⟨r, evn (by omega) r1, evn (by omega) q1, r2⟩
theorem okr_marks {l : List S39} (h : OKR l) : ∀ x, x ∈ l → RngR x := fun x hx => by
  obtain ⟨i, h0, h1, rfl⟩ := rd39_of_mem hx
  exact h.2.2.1 i h0 h1
theorem lineT_len {x : S39} (h : RngR x) : (lineT x).length ≤ 30 := by
  obtain ⟨a, b, c, d⟩ := h
  have y0 := itoa_le (n := x.f0) (m := 10) (by omega) (by omega) (by omega)
  have y1 := itoa_le (n := x.f1) (m := 10) (by omega) (by omega) (by omega)
  simp only [lineT, List.length_append, List.length_cons]
  omega
theorem line_back {x : S39} (h : RngR x) : lineL (lineT x) = some x := by
  obtain ⟨a, b, c, d⟩ := h
  have i0 := itoa_no (n := x.f0) (by omega) (c := 32) rfl
  unfold lineL lineT
  rw [cut1_first 32 _ _ i0, if_pos rfl]
  unfold markW
  rw [itoa_numP (by omega) (by omega) (by omega), itoa_numP (by omega) (by omega) (by omega)]
  show some (⟨((x.f0.toNat : Nat) : Int), ((x.f1.toNat : Nat) : Int)⟩ : S39) = some x
  rw [show ((x.f0.toNat : Nat) : Int) = x.f0 from by omega, show ((x.f1.toNat : Nat) : Int) = x.f1 from by omega]
theorem lineT_no {x : S39} (h : RngR x) : (10 : UInt8) ∉ lineT x := by
  obtain ⟨a, b, c, d⟩ := h
  have i0 := itoa_no (n := x.f0) (by omega) (c := 10) rfl
  have i1 := itoa_no (n := x.f1) (by omega) (c := 10) rfl
  simp only [lineT, List.mem_append, List.mem_cons, not_or]
  exact ⟨i0, by decide, i1⟩
theorem line_again : ∀ (l : List UInt8) (x : S39), lineL l = some x → lineT x = l := by
  intro l x h
  unfold lineL at h
  by_cases c : (cut1 32 l).2.2 = true
  case neg => rw [if_neg c] at h; cases h
  rw [if_pos c] at h
  unfold markW at h
  cases ha : numP 10 (cut1 32 l).1 with
  | none => rw [ha] at h; cases h
  | some y =>
    cases hb : numP 10 (cut1 32 l).2.1 with
    | none => rw [ha, hb] at h; cases h
    | some z =>
      rw [ha, hb] at h
      obtain rfl := Option.some.inj h
      unfold lineT
      show Lib.itoa (y : Int) ++ 32 :: Lib.itoa (z : Int) = l
      rw [numP_itoa ha, numP_itoa hb]
      exact (cut1_sum 32 l c).symm
theorem part_eq {x : S39} (h : RngR x) : rod_Print.part x = some (ba (lineT x ++ [10])) := by
  obtain ⟨a, b, c, d⟩ := h
  have y0 := itoa_le (n := x.f0) (m := 10) (by omega) (by omega) (by omega)
  have y1 := itoa_le (n := x.f1) (m := 10) (by omega) (by omega) (by omega)
  unfold rod_Print.part
  rw [itoa_f (by omega) (by omega), itoa_f (by omega) (by omega)]
  show (if (ba (Lib.itoa x.f0)).size ≤ 100 ∧ (ba (Lib.itoa x.f1)).size ≤ 100 then some (((ba (Lib.itoa x.f0) ++ ba [32]) ++ ba (Lib.itoa x.f1)) ++ ba [10]) else none) = _
  rw [if_pos (by rw [ba_size, ba_size]; omega), ba_app, ba_app, ba_app]
  simp [lineT]
theorem app_eq (acc s : List UInt8) (h : acc.length + s.length ≤ 140737488355328) : rod_Print.app acc (ba s) = some (acc ++ s) := by
  unfold rod_Print.app
  rw [ba_size, if_pos h]
  rfl
theorem print_loop (l : List S39) (hn : (l.length : Int) ≤ 128) (h : ∀ x, x ∈ l → RngR x) : ∀ i, 0 ≤ i → i ≤ (l.length : Int) → ∀ acc : List UInt8, (acc.length : Int) ≤ 31 * i →
    Ev (fun k => rod_Print.l0 k l acc i) (ba (acc ++ printL lineT (l.drop i.toNat)), 0) := by
  refine count_up 0 (l.length : Int) _ ?_ ?_
  · intro acc ha
    rw [List.drop_eq_nil_of_le (by omega)]
    exact Ev.step (fun k => rod_Print.l0.eq_2 ..) (evn (by omega) (evr (by simp [printL, ba])))
  · intro i h0 h1 ih acc ha
    have hx := h _ (rd39_mem h0 h1)
    have hl := lineT_len hx
    have q := ih (acc ++ (lineT (rd_T39 l i) ++ [10])) (by simp only [List.length_append, List.length_cons, List.length_nil]; omega)
    rw [drop39 h0 h1]
    refine Ev.step (fun k => rod_Print.l0.eq_2 ..) (evp h1 (evp h0 ?_))
    rw [part_eq hx, w64_succ h0 h1 (by omega)]
    simp only [Option.bind_some]
    rw [app_eq _ _ (by simp only [List.length_append, List.length_cons, List.length_nil]; omega)]
    simp only [Option.bind_some]
    simp only [printL, List.append_assoc, List.cons_append, List.nil_append] at q ⊢
    exact q
theorem ref_print_loop (l : List S39) (hn : (l.length : Int) ≤ 128) (h : ∀ x, x ∈ l → RngR x) : ∀ i, 0 ≤ i → i ≤ (l.length : Int) → ∀ acc : List UInt8, (acc.length : Int) ≤ 31 * i →
    Ev (fun k => spileref14_Print.l0 k l (ba acc) i) (ba (acc ++ printL lineT (l.drop i.toNat)), 0) := by
  refine count_up 0 (l.length : Int) _ ?_ ?_
  · intro acc ha
    rw [List.drop_eq_nil_of_le (by omega)]
    exact Ev.step (fun k => spileref14_Print.l0.eq_2 ..) (evn (by omega) (evr (by simp [printL])))
  · intro i h0 h1 ih acc ha
    have hx := h _ (rd39_mem h0 h1)
    have hl := lineT_len hx
    obtain ⟨a, b, c, d⟩ := hx
    have y0 := itoa_le (n := (rd_T39 l i).f0) (m := 10) (by omega) (by omega) (by omega)
    have y1 := itoa_le (n := (rd_T39 l i).f1) (m := 10) (by omega) (by omega) (by omega)
    have q := ih (acc ++ (lineT (rd_T39 l i) ++ [10])) (by simp only [List.length_append, List.length_cons, List.length_nil]; omega)
    rw [drop39 h0 h1]
    have e1 : ba (Lib.itoa (rd_T39 l i).f0) ++ (⟨#[32]⟩ : ByteArray) = ba (Lib.itoa (rd_T39 l i).f0 ++ [32]) := ba_app _ _
    have e2 : ba (Lib.itoa (rd_T39 l i).f0 ++ [32] ++ Lib.itoa (rd_T39 l i).f1) ++ (⟨#[10]⟩ : ByteArray) = ba (Lib.itoa (rd_T39 l i).f0 ++ [32] ++ Lib.itoa (rd_T39 l i).f1 ++ [10]) := ba_app _ _
    refine Ev.step (fun k => spileref14_Print.l0.eq_2 ..) (evp h1 (evp h0 (evb (evc (fun _ => rfl) (itoa_f (by omega) (by omega))) (evp (by rw [ba_size]; omega) (evb (evc (fun _ => rfl) (itoa_f (by omega) (by omega))) ?_)))))
    rw [e1, ba_app, e2, ba_app, w64_succ h0 h1 (by omega)]
    refine evp (by rw [ba_size, ba_size]; simp only [List.length_append, List.length_cons, List.length_nil]; omega) (evp (by rw [ba_size]; simp only [List.length_append, List.length_cons, List.length_nil]; omega) (evp (by rw [ba_size, ba_size]; simp only [List.length_append, List.length_cons, List.length_nil]; omega) ?_))
    simp only [printL, lineT, List.append_assoc, List.cons_append, List.nil_append] at q ⊢
    exact q
theorem print_both (l : List S39) (hl : (l.length : Int) ≤ 9223372036854775807) : ∃ r, Ev (fun k => rod_Print.f k l) r ∧ Ev (fun k => spileref14_Print.f k l) r ∧ (OKR l → r = (ba (printL lineT l), 0)) ∧ (¬ OKR l → r.2 ≠ 0 ∧ r.1 = ba [] ∧ Ev (fun k => rod_Check.f k l) r.2) := by
  obtain ⟨e, e1, e2, e3⟩ := rod_both l hl
  by_cases hg : OKR l
  · obtain rfl := e3.2 hg
    have hf := okr_marks hg
    have p1 := print_loop l hg.2.1 hf 0 (by omega) (by omega) [] (by simp)
    have p2 := ref_print_loop l hg.2.1 hf 0 (by omega) (by omega) [] (by simp)
    rw [show (0 : Int).toNat = 0 from rfl, List.drop_zero, List.nil_append] at p1 p2
    exact ⟨_, evb e1 (evp rfl p1), evb e2 (evp rfl p2), fun _ => rfl, fun h => absurd hg h⟩
  · have he : ¬ e = 0 := fun q => hg (e3.1 q)
    exact ⟨(ba [], e), evb e1 (evn he (Ev.now _)), evb e2 (evn he (Ev.now _)), fun h => absurd h hg, fun _ => ⟨he, rfl, e1⟩⟩
end Go.Proofs.YtkolhpacpbhceaaDoor.PL
namespace Go.Proofs.YtkolhpacpbhceaaDoor.Pure
open Go Go.RowKit Go.Proofs.YtkolhpacpbhceaaDoorW.PrintWords Go.Proofs.YtkolhpacpbhceaaDoorW.PrintLast Go.Proofs.YtkolhpacpbhceaaDoorW.PrintMore Go.Proofs.YtkolhpacpbhceaaDoor.Pr Go.Proofs.YtkolhpacpbhceaaDoor.Opn Go.Proofs.YtkolhpacpbhceaaDoor.X Go.Proofs.YtkolhpacpbhceaaDoor.PL Go.Proofs.YtkolhpacpbhceaaDoor.TX
theorem back_ev (l : List S39) (hn : (l.length : Int) ≤ 129) : Ev (fun k => spilelaw14_RodBack.j1 k l) true := by
  obtain ⟨p, p1, _, p3, p4⟩ := print_both l (by omega)
  have hc : Ev (fun _ : Nat => slices_Clone39.f l) l := evc (fun _ => rfl) (clone_eq hn)
  refine Ev.step (fun k => spilelaw14_RodBack.j1.eq_2 ..) (evb hc (evb p1 ?_))
  by_cases hg : OKR l
  · rw [p3 hg]
    have hf := okr_marks hg
    have hlen := printL_len (lineT := lineT) (m := 30) l (fun x hx => lineT_len (hf x hx))
    have h2 := hg.2.1
    obtain ⟨r, r1, _, r3⟩ := parse_both (ba (printL lineT l)) (by rw [ba_size]; omega)
    rw [ba_list, lin_print l (fun x hx => lineT_no (hf x hx)), run_print l [] (fun x hx => line_back (hf x hx)), List.nil_append] at r3
    obtain ⟨e, _, e2, e3⟩ := r3
    rw [if_pos (e2.2 hg)] at e3
    rw [e3] at r1
    exact evp rfl (evb r1 (evp rfl (evp rfl (evb (same_self l (by omega)) (Ev.now _)))))
  · obtain ⟨a, b, c⟩ := p4 hg
    exact evn a (evp (by rw [b, ba_toList]) (evb hc (evb c (evr (by simp)))))
theorem RodBack : rodBackPure := by
  intro l s hl hs
  refine Ev.rounds ?_
  obtain ⟨b, hb, hb2⟩ := few_cases l [] 0
  have haw : Ev (fun _ : Nat => spilelaw14_awake.f) true := Ev.now _
  refine evb haw (evp rfl (evb (evc (fun _ => rfl) hb) ?_))
  have yes : Ev (fun k => spilelaw14_RodBack.j0 k l s true) true := Ev.step (fun k => spilelaw14_RodBack.j0.eq_2 ..) (evp rfl (Ev.now _))
  cases b with
  | false => exact evn (by simp) yes
  | true =>
    have hn := (hb2 rfl).1
    refine evp rfl ?_
    by_cases c : (s.size : Int) > 1000
    · rw [decide_eq_true c]; exact yes
    rw [decide_eq_false c]
    have back := back_ev l hn
    obtain ⟨r, r1, _, r3⟩ := parse_both s (by omega)
    refine Ev.step (fun k => spilelaw14_RodBack.j0.eq_2 ..) (evn (by simp) (evb r1 ?_))
    cases hrun : run lineL (lin [] s.data.toList).2 (lin [] s.data.toList).1 [] with
    | mk o st =>
      rw [hrun] at r3
      cases st with
      | some i => rw [show r = _ from r3]; exact evn (by simp) (evp (by simp) back)
      | none =>
        obtain ⟨e, _, e2, e3⟩ := r3
        by_cases q : e = 0
        · rw [if_pos q] at e3
          have g := e2.1 q
          rw [e3]
          obtain ⟨p, p1, _, p3, _⟩ := print_both o (by have := g.2.1; omega)
          rw [p3 g] at p1
          obtain ⟨xs, g1, g2⟩ := run_again line_again _ _ s.data.toList [] o rfl hrun
          rw [List.nil_append] at g1
          refine evp rfl (evb p1 (evp rfl (evp ?_ back)))
          rw [g1, g2, ba_data]
        · rw [if_neg q] at e3
          rw [e3]
          exact evn q (evp (by simp) back)
end Go.Proofs.YtkolhpacpbhceaaDoor.Pure
namespace Go.Proofs.YtkolhpacpbhceaaDoor.X
open Go
variable {H : Type} {enc : TypeId × Value → H}
theorem wrap_shaped {a : Assume} {C : Checked} {os : Os} {f : FuncId} {fn : Func} {s : ChangeSpec} {conds : List PathCond} {apart fresh handsOn again : Bool} {X : World → Array Value → Prop}
    (hX : ∀ (w w' : World) (args : Array Value), w.heap = w'.heap → X w args → X w' args)
    (own : ownKnob C.prog.godebug = none) (started : os.Started) (noInit : C.prog.inits.idxOf? f = none) (hfn : C.prog.funcs[f]? = some fn)
    (witness : ∃ (w : World) (tape : Tape) (i : Input), w.os = os ∧ (w.forCall tape i).Shaped C.prog ∧ i.vars = [] ∧ Input.okWide C.prog (w.forCall tape i) .any w.heap.size f i ∧
      ((s.pre enc C.prog fn conds apart (w.forCall tape i).memory i.args ∧ X (w.forCall tape i).memory i.args) ∧ sizedMet enc C.prog fn (OpenSpec.ofChange s) apart (w.forCall tape i).memory i.args) ∧ a.holds C.prog (lone (Frame.enter C.prog f i.args .normal) [] (w.forCall tape i)))
    (walk : ∀ (W : World) (base : Nat) (args : Array Value) (ds gs : List (DataW H)) (before : List MemPlace),
      (∀ (j : Nat) t v, fn.params[j]? = some t → args[j]? = some v → Value.okWide C.prog W .any base t v) →
      DataW.Whole enc C.prog fn.params.toList s.vars apart W args.toList ds gs before → X W args → W.ShapedOpen C.prog →
      Calls C.prog f args W fun e W' => ∃ v, e = .returned v ∧ s.post enc C.prog fn apart fresh handsOn again W args v W') :
    ReturnsInHanded a C os f .any (fun w args => (s.pre enc C.prog fn conds apart w args ∧ X w args) ∧ sizedMet enc C.prog fn (OpenSpec.ofChange s) apart w args) (s.post enc C.prog fn apart fresh handsOn again) := by
  refine returnsInHanded_of_calls own started noInit witness ?_
  intro w tape i _ hsh _ hok hpre _
  obtain ⟨_, _, _, fn', hfn', _, _, _, _, hval⟩ := hok
  obtain rfl : fn' = fn := Option.some.inj (hfn'.symm.trans hfn)
  obtain ⟨⟨⟨ds, gs, before, hw, _⟩, hx⟩, _⟩ := hpre
  refine (walk (w.forCall tape i) w.heap.size i.args ds gs before hval (DataW.Whole.of_heap (w' := w.forCall tape i) (by rfl) hw) (hX _ _ _ (by rfl) hx) hsh).mono fun e W' ⟨v, he, hp⟩ => ?_
  subst he
  exact ChangeSpec.post_blind hp
end Go.Proofs.YtkolhpacpbhceaaDoor.X
namespace Go.Proofs.YtkolhpacpbhceaaDoor.rodBack
open Go Go.ChangeShapes Go.WideShapes Go.ChangeAt Go.RowKit
open Go.ChangeMaps (open_string shut_string)
open Go.Proofs.YtkolhpacpbhceaaDoorW.PrintWords Go.Proofs.YtkolhpacpbhceaaDoor.O Go.Proofs.YtkolhpacpbhceaaDoor.Opn Go.Proofs.YtkolhpacpbhceaaDoor.Pr Go.Proofs.YtkolhpacpbhceaaDoor.X
theorem own : ownKnob Tryd.prog.godebug = none := by kernel_rfl
theorem laidOut : laidOutB Tryd.prog = true := by kernel_rfl
abbrev laidL : List (String × DataW Unit) := [("math/bits.deBruijn32tab", Rows.laid_math_bits_deBruijn32tab), ("math/bits.deBruijn64tab", Rows.laid_math_bits_deBruijn64tab), ("internal/strconv.uint64pow10", Rows.laid_internal_strconv_uint64pow10)]
set_option maxRecDepth 100000 in
theorem lifted (os : Os) (started : os.Started) (H : Type) (enc : TypeId × Value → H) :
    ReturnsInHanded {} Tryd.checked os 8 .any (fun w args => (Rows.rodBackSpec.pre enc Tryd.prog Tryd.f8 [] false w args ∧ laidMetH Tryd.prog laidL w) ∧ sizedMet enc Tryd.prog Tryd.f8 (OpenSpec.ofChange Rows.rodBackSpec) false w args)
      (Rows.rodBackSpec.post enc Tryd.prog Tryd.f8 false true false false) := by
  refine wrap_shaped (C := Tryd.checked) (X := (fun w _ => laidMetH Tryd.prog laidL w)) (fun _ _ _ hh h => h.of_heap hh) own started (by kernel_rfl) Tryd.func8
    (ChangeSpec.witness_shaped (enc := enc) (C := Tryd.checked) (os := os) (X := (fun w _ => laidMetH Tryd.prog laidL w)) false (World.laidAll Tryd.prog os laidL) #[.slice none 0 0, .string ByteArray.empty] 8 (World.laidAll_os _ _ _) (World.shaped_of_ZipB (by kernel_rfl) (by kernel_rfl)) (by kernel_rfl) (by kernel_rfl) (by kernel_rfl) (by rw [MakeChecks.laidMetH_plain _ _ _ (by kernel_rfl)]; exact laidMet_laidAll _ (by kernel_rfl) (by kernel_rfl))) ?_
  intro W base args ds gs before hval0 hW hL hsh
  have hval : ∀ (j : Nat) t v, Tryd.f8.params[j]? = some t → args[j]? = some v → Value.okWide Tryd.prog W .any base t v := hval0
  have hW' := hW
  obtain ⟨p, q, hA0, hV, rfl, hfz, hnd⟩ := hW
  have hA : DataW.TrodAll enc Tryd.prog W 0 (fun _ => true) true Tryd.f8.params.toList args.toList ds p := hA0
  rw [Tryd.params8] at hA hval
  obtain ⟨v0, vs0, d0, ds0, p0, q0, hargs, rfl, rfl, h0, r0⟩ := trodAll_cons hA
  obtain ⟨v1, vs1, d1, ds1, p1, q1, rfl, rfl, rfl, h1, r1⟩ := trodAll_cons r0
  obtain ⟨rfl, rfl, rfl⟩ := trodAll_nil r1
  obtain rfl : args = #[v0, v1] := by cases args; simp_all
  obtain ⟨rfl, rfl⟩ := trodVars_none hV
  obtain ⟨a0_, len0_, cap0_, rfl⟩ := okWide_slice Tryd.underlying22 (hval 0 22 v0 rfl rfl)
  have k0 := h0
  have lt0 : ∀ x ∈ p0, x.block < W.heap.size := by obtain ⟨m, hm⟩ := k0; exact DataW.trod_lt m _ _ _ hm
  obtain ⟨l0, K0, ok0⟩ : ∃ x, (Kd.slice 39 k39).K W x [.slice a0_ len0_ cap0_] ∧ (x.length ≤ maxLen ∧ ∀ x0_, x0_ ∈ x → ok39 x0_) := by
    obtain ⟨fuel, hf⟩ := h0
    exact opens22.2 _ _ _ _ _ _ _ _ _ hf
  obtain ⟨A0, c0, e0, g0, hr0⟩ := K0
  simp only [List.cons.injEq, Value.slice.injEq, and_true] at e0
  obtain ⟨rfl, rfl, rfl⟩ := e0
  obtain ⟨a1, rfl, rfl, rfl, y1⟩ := open_string Tryd.underlying9 (hval 1 9 v1 rfl rfl) h1
  clear hA0 hval0
  obtain ⟨k, hp⟩ := Pure.RodBack l0 a1 ok0 y1
  have hG : GI W := GI.of_laid laidL (by simp [laidL]) hL hsh
  refine (spilelaw14_RodBack.calls k _ _ l0 a1 true W hr0 g0 hG rfl hp).mono fun e W' ⟨he, bel⟩ => ?_
  subst he
  exact ⟨_, rfl, _, _, _, [], _, [], hW', trodAll_mk1 (shut_bool Tryd.underlying4 _), (trodAll_cons_mk (Below.trod laidOut (by kernel_rfl) (of_decide_eq_true (by kernel_rfl)) k0 bel lt0) (trodAll_cons_mk (shut_string Tryd.underlying9 y1) trodAll_mk0)), rfl, bel.frame _, fun h => by cases h⟩
theorem holds : Rows.RodBackSaid :=
  OpenClaim.holds_of_wide 8 Tryd.f8 rfl rfl rfl rfl rfl rfl rfl ⟨rfl, rfl, rfl, rfl, rfl⟩ rfl rfl rfl rfl rfl (by kernel_rfl) Tryd.func8 (by kernel_rfl)
    (of_decide_eq_true (by kernel_rfl)) (by unfold Func.isWrapper; first | (rw [if_pos (by decide +kernel)]; kernel_rfl) | (rw [if_neg (by decide +kernel)]; exact ⟨rfl, rfl⟩))
    (fun os started H enc _ => lifted os started H enc)
theorem card : Rows.RodBackCardSaid :=
  Claim7.holds_tied_plain_at .later [] [.data, .data, .data] true (true, "ffac5e0cc8868b2e00f9950da871680f8663d7526cb1afae6a9e6c162e8ee000") false
    holds (fun _ h => by cases h) (by kernel_rfl) (fun _ h => by cases h) rodBack_row_tie rfl ⟨rfl, rfl⟩ (by kernel_rfl) rfl
    (fun f fn hf hfn => by
      obtain rfl : f = 8 := Option.some.inj ((show Tryd.prog.funcNamed "spile/spilelaw14.RodBack" = some 8 by kernel_rfl).symm.trans hf) |>.symm
      obtain rfl : fn = Tryd.f8 := (Option.some.inj (Tryd.func8.symm.trans hfn)).symm
      exact ⟨by kernel_rfl, fun j t ht => by
        rw [Tryd.params8] at ht
        have hm : t ∈ [22, 9] := by simpa using Array.mem_of_getElem? ht
        have hall : ([22, 9].all fun u => !Tryd.prog.wantsStandIn u) = true := by kernel_rfl
        exact (show Tryd.prog.wantsStandIn t = false by simpa using List.all_eq_true.1 hall t hm)⟩)
    (by kernel_rfl)
end Go.Proofs.YtkolhpacpbhceaaDoor.rodBack
namespace Go.Proofs.YtkolhpacpbhceaaDoor
/-- The card, under a short name, for the claim. -/
theorem rodBack_holds : Rows.RodBackCardSaid := rodBack.card
#print axioms rodBack_holds
end Go.Proofs.YtkolhpacpbhceaaDoor
