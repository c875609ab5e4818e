/-
A part of what these laws rest on: contracts of the functions that they reach, and plain lemmas.
-/
import Derived.Test.YtnhmlneebnkjcaaDoorCaskReadsB
set_option linter.unusedVariables false
set_option linter.unusedSimpArgs false
namespace Go.Proofs.YtnhmlneebnkjcaaDoor.Pr
open Go.RowKit Go.Proofs.YtnhmlneebnkjcaaDoorW.PrintWords Go.Proofs.YtnhmlneebnkjcaaDoorW.PrintLast Go.Proofs.YtnhmlneebnkjcaaDoorW.PrintMore Go.Proofs.YtnhmlneebnkjcaaDoor.X
attribute [local go_sem] max2_int min2_int max_two min_two max_three min_three max_four min_four   -- for this text's walks alone
set_option linter.unusedVariables false
set_option linter.unusedSimpArgs false
attribute [local go_sem high] eqA46
def cask_List.ck (k : Nat) : List S27 → Option Int
 | [] => some 0
 | x :: r => (cask_Check.f k x.f0 x.f1 x.f2 x.f3).bind fun e => if e = 0 then cask_List.ck k r else some e
def cask_List.tw : List (List UInt8) → List S27 → Option Int
 | _, [] => some 0
 | s, x :: r => if x.f0.size < 4294967296 then (if x.f0.data.toList ∈ s then some 6 else cask_List.tw (x.f0.data.toList :: s) r) else none
def cask_List.f (k : Nat) (l0 : List (S27)) : Option Int := if (l0.length : Int) > 32 then some 8 else (cask_List.ck k l0).bind fun e => if e = 0 then cask_List.tw [] l0 else some e
theorem drop_T27 {l : List S27} {i : Nat} (h : i < l.length) : l.drop i = rd_T27 l (i : Int) :: l.drop (i + 1) := by
 have e : rd_T27 l (i : Int) = l[i] := by
  unfold rd_T27
  rw [Int.toNat_natCast, List.getD_eq_getElem?_getD, List.getElem?_eq_getElem h]
  rfl
 rw [e]
 exact List.drop_eq_getElem_cons h
open Go.Maps Go.WideMaps in
theorem map_stays {P : Program} {k : TypeId} {R : Value → Option (DataW Unit × List MemPlace)} {w w' : World} {b n : Nat} {D : DataW Unit} (h : w.ownsMap P k R b n D) (hb : Below w.heap.size w w') : w'.ownsMap P k R b n D :=
 h.kept (row := none) ⟨hb.os, hb.tape, hb.output, hb.size, fun k hk _ => hb.block k hk⟩ (by simp)
theorem st_next16 {j : Nat} (h : j < 32) : Value.int .i64 (wrap64 ((j : Int) + 1)) = Value.int .i64 ((j + 1 : Nat) : Int) := by
 rw [show wrap64 ((j : Int) + 1) = ((j + 1 : Nat) : Int) from by unfold wrap64; omega]
theorem st_meas16 {j n : Nat} (hj : j < n) (hn : n ≤ 32) : n - (intV (.int .i64 (wrap64 ((j : Int) + 1)))).toNat < n - (intV (.int .i64 (j : Int))).toNat := by
 rw [st_next16 (by omega)]
 show n - (((j + 1 : Nat) : Int)).toNat < n - ((j : Int)).toNat
 omega
open Go.Maps Go.WideMaps in
set_option maxHeartbeats 8000000 in
set_option maxRecDepth 100000 in
theorem cask_List.calls (k : Nat) (A0 : Option Addr) (c0 : Nat) (l0 : List (S27)) (r : Int) (w : World) (hr0 : Kd.C k27 w A0 l0.length l0) (hc0 : l0.length ≤ c0) (h : cask_List.f k l0 = some r) :
  Calls Tryd.prog 16 #[.slice A0 l0.length c0] w fun e w' => e = .returned (.int .i64 r) ∧ Below w.heap.size w w' := by
 have hu22 := Tryd.underlying22
 have hu27 := Tryd.underlying27
 have HR0 := Aside0.mk hr0
 have HC0 := Aside0.mk hc0
 clear hr0 hc0
 unfold cask_List.f at h
 by_cases c1 : (l0.length : Int) > 32
 ·
  rw [if_pos c1] at h
  cases h
  have c1b : decide ((l0.length : Int) > 32) = true := decide_eq_true c1
  have c1c : decide ((32 : Int) < (l0.length : Int)) = true := decide_eq_true c1
  clear c1
  go_enter Tryd.func16, Tryd.ntmps16
  go_wp2
  go_ret
  exact ⟨rfl, Below.refl _ _⟩
 rw [if_neg c1] at h
 have c1b : decide ((l0.length : Int) > 32) = false := decide_eq_false c1
 have c1c : decide ((32 : Int) < (l0.length : Int)) = false := decide_eq_false c1
 obtain ⟨e, he, h⟩ := Option.bind_eq_some_iff.mp h
 have H := Aside0.mk h
 have HE := Aside0.mk he
 have HL := Aside0.mk (show l0.length ≤ 32 by omega)
 clear h he c1
 go_enter Tryd.func16, Tryd.ntmps16
 go_wp2
 go_loopw [14] (fun v14 wr => ∃ i : Nat, v14 = .int .i64 (i : Int) ∧ i ≤ l0.length ∧ cask_List.ck k (l0.drop i) = some e ∧ Below w.heap.size w wr) (fun v14 _ => l0.length - (intV v14).toNat)
 case atStart => exact ⟨0, rfl, Nat.zero_le _, HE.out, Below.refl _ _⟩
 case round =>
  obtain ⟨i, rfl, hi, hck, hB⟩ := hrel
  have HB := Aside0.mk hB
  have HCK := Aside0.mk hck
  have HI := Aside0.mk hi
  clear hB hck hi
  by_cases ci : i < l0.length
  ·
   have cb : decide ((i : Int) < (l0.length : Int)) = true := decide_eq_true (by omega)
   have p0 : 0 ≤ (i : Int) := by omega
   have q0 : (i : Int) < (l0.length : Int) := by omega
   obtain ⟨ad, A2, c2, hA, x0, x1, x2, x3, hc2, hC2⟩ := at_T27 (Kd.C_below HR0.out HB.out) (i : Int) p0 q0
   subst hA
   rw [Int.toNat_natCast] at x0 x1 x2 x3
   have hd := HCK.out
   clear HCK
   rw [drop_T27 ci] at hd
   replace hd := Option.bind_eq_some_iff.mp hd
   obtain ⟨e1, he1, hd⟩ := hd
   have HD := Aside0.mk hd
   have HE1 := Aside0.mk he1
   have HC2 := Aside0.mk hC2
   have HX2 := Aside0.mk hc2
   have HCI := Aside0.mk ci
   clear hd he1 hC2 hc2 ci
   generalize rd_T27 l0 (i : Int) = X at *
   replace p0 := eq_true p0
   replace q0 := eq_true q0
   by_cases z : e1 = 0
   ·
    subst z
    go_wp2_with (go_at_call 20; refine (cask_Check.calls k _ _ _ _ _ _ 0 _ (Kd.C_alloc HC2.out _) HX2.out HE1.out).mono ?_; rintro e' w2 ⟨rfl, hq⟩; have HB2 := Aside0.mk (below_step (below_alloc HB.out _) hq); clear hq)
    go_roundw
    case rel => exact ⟨i + 1, st_next16 (Nat.lt_of_lt_of_le HCI.out HL.out), HCI.out, by have := HD.out; simpa using this, HB2.out⟩
    case measure => exact st_meas16 HCI.out HL.out
   ·
    have zb : (e1 == 0) = false := beq_eq_false_iff_ne.mpr z
    have zc : (e1 != 0) = true := bne_iff_ne.mpr z
    have er : e1 = r := by
     have h1 := HD.out
     rw [if_neg z] at h1
     obtain rfl := Option.some.inj h1
     have h2 := H.out
     rw [if_neg z] at h2
     exact Option.some.inj h2
    clear z
    go_wp2_with (go_at_call 20; refine (cask_Check.calls k _ _ _ _ _ _ e1 _ (Kd.C_alloc HC2.out _) HX2.out HE1.out).mono ?_; rintro e' w2 ⟨rfl, hq⟩; have HB2 := Aside0.mk (below_step (below_alloc HB.out _) hq); clear hq)
    go_ret
    exact ⟨by first | rfl | rw [er], HB2.out⟩
  ·
   have cb : decide ((i : Int) < (l0.length : Int)) = false := decide_eq_false (by omega)
   have cn : (i < l0.length) = False := eq_false ci
   have hd := HCK.out
   rw [List.drop_eq_nil_of_le (by omega)] at hd
   obtain rfl : (0 : Int) = e := Option.some.inj hd
   have h2 := H.out
   rw [if_pos rfl] at h2
   have HT := Aside0.mk h2
   have hmm := @run_makeMap Tryd.prog
   clear hd h2 H HCK ci HE
   go_wp2
   have hown : (wr.alloc (.map #[] 0)).ownsMap Tryd.prog 9 boolE wr.heap.size 0 (.map []) := World.ownsMap_made _ _ _ _
   have hB6 := below_alloc HB.out (.map #[] 0)
   have HMB := Aside0.mk HB.out.size
   have hz4 : ∀ W : World, (zeroValue 4).run Tryd.prog W = .ok (.bool false) W := fun W => by kernel_rfl
   generalize wr.alloc (.map #[] 0) = w6 at hown hB6 ⊢
   generalize wr.heap.size = mb at hown HMB ⊢
   clear HB cn cb
   have HOWN := Aside0.mk hown
   have HB6 := Aside0.mk hB6
   clear hown hB6
   go_loopw [27] (fun v27 wq => ∃ (j n : Nat) (D : DataW Unit) (s : List (List UInt8)), v27 = .int .i64 (j : Int) ∧ j ≤ l0.length ∧ wq.ownsMap Tryd.prog 9 boolE mb n D ∧ IsSetS D s ∧ n ≤ j ∧ cask_List.tw s (l0.drop j) = some r ∧ Below w.heap.size w wq) (fun v27 _ => l0.length - (intV v27).toNat)
   case atStart => exact ⟨0, 0, _, [], rfl, Nat.zero_le _, HOWN.out, isSetS_nil, Nat.le_refl _, HT.out, HB6.out⟩
   case round =>
    clear HOWN HB6 HT
    obtain ⟨j, n, D, s, rfl, hj, hmp, hset, hn, htw, hB⟩ := hrel
    have HB := Aside0.mk hB
    have HMP := Aside0.mk hmp
    have HSET := Aside0.mk hset
    have HN := Aside0.mk hn
    have HTW := Aside0.mk htw
    clear hB hmp hset hn htw hj
    by_cases cj : j < l0.length
    ·
     have cb : decide ((j : Int) < (l0.length : Int)) = true := decide_eq_true (by omega)
     have p0 : 0 ≤ (j : Int) := by omega
     have q0 : (j : Int) < (l0.length : Int) := by omega
     obtain ⟨ad, A2, c2, hA, x0, x1, x2, x3, hc2, hC2⟩ := at_T27 (Kd.C_below HR0.out HB.out) (j : Int) p0 q0
     subst hA
     rw [Int.toNat_natCast] at x0 x1 x2 x3
     have hd := HTW.out
     clear HTW
     rw [drop_T27 cj] at hd
     have HCJ := Aside0.mk cj
     clear hC2 hc2 cj
     generalize rd_T27 l0 (j : Int) = X at *
     replace p0 := eq_true p0
     replace q0 := eq_true q0
     unfold cask_List.tw at hd
     by_cases cs : X.f0.size < 4294967296
     case neg => rw [if_neg cs] at hd; cases hd
     rw [if_pos cs] at hd
     have hlook := look_set (w := wr.alloc (.cells #[.string X.f0, .int .i64 X.f1, .slice A2 X.f2.length c2, .int .i64 X.f3] 27)) Tryd.underlying55 Tryd.underlying9 (hz4 _) (map_stays HMP.out (below_alloc (Below.refl _ _) _)) HSET.out X.f0 (by unfold maxLen; omega)
     have HCS := Aside0.mk cs
     clear cs
     by_cases cm : X.f0.data.toList ∈ s
     ·
      rw [if_pos cm] at hd
      obtain rfl : (6 : Int) = r := Option.some.inj hd
      rw [decide_eq_true cm] at hlook
      clear cm hd
      go_wp2
      go_ret
      exact ⟨rfl, below_alloc HB.out _⟩
     ·
      rw [if_neg cm] at hd
      have HD := Aside0.mk hd
      rw [decide_eq_false cm] at hlook
      clear cm hd
      have HLT := Aside0.mk (show n < maxLen by have := HN.out; have := HCJ.out; have := HL.out; unfold maxLen; omega)
      have HSZ := Aside0.mk (show X.f0.size ≤ maxLen by have := HCS.out; unfold maxLen; omega)
      have hown8 := map_stays HMP.out (below_alloc (Below.refl wr.heap.size wr) (.cells #[.string X.f0, .int .i64 X.f1, .slice A2 X.f2.length c2, .int .i64 X.f3] 27))
      have HOWN8 := Aside0.mk hown8
      clear hown8
      go_wp2_with (refine wpList_store_str _ rfl _ _ _ 55 rfl 9 4 Tryd.underlying9 Tryd.underlying55 mb n D s rfl HOWN8.out HSET.out HLT.out X.f0 HSZ.out rfl rfl ?_; intro w9 D9 ho9 hs9 hg9; have HO9 := Aside0.mk ho9; have HS9 := Aside0.mk hs9; have HG9 := Aside0.mk hg9; clear ho9 hs9 hg9)
      go_roundw
      case rel => exact ⟨j + 1, n + 1, D9, X.f0.data.toList :: s, st_next16 (Nat.lt_of_lt_of_le HCJ.out HL.out), HCJ.out, HO9.out, HS9.out, Nat.succ_le_succ HN.out, HD.out, (below_alloc HB.out _).grown HG9.out (below_alloc HB.out _).size (fun k e => by cases e; exact HMB.out)⟩
      case measure => exact st_meas16 HCJ.out HL.out
    ·
     have cb : decide ((j : Int) < (l0.length : Int)) = false := decide_eq_false (by omega)
     have cn : (j < l0.length) = False := eq_false cj
     have hd := HTW.out
     rw [List.drop_eq_nil_of_le (by omega)] at hd
     obtain rfl : (0 : Int) = r := Option.some.inj hd
     clear hd HTW cj
     go_wp2
     go_ret
     exact ⟨rfl, HB.out⟩
def cask_own.f (a0_0 : ByteArray) (a0_1 : Int) (l0_2 : List (S46)) (a0_3 : Int) : Option (ByteArray × Int × (List (S46)) × Int) := if ([] : List (S46)).length + l0_2.length < 8796093022208 then (some (a0_0, a0_1, (([] : List (S46)) ++ l0_2), a0_3)) else (none)
set_option maxHeartbeats 8000000 in
set_option maxRecDepth 100000 in
theorem cask_own.calls (a0_0 : ByteArray) (a0_1 : Int) (A0_2 : Option Addr) (c0_2 : Nat) (l0_2 : List (S46)) (a0_3 : Int) (r1 : ByteArray) (r2 : Int) (r3 : List (S46)) (r4 : Int) (w : World) (hr0_2 : Kd.C k46 w A0_2 l0_2.length l0_2) (hc0_2 : l0_2.length ≤ c0_2) (h : cask_own.f a0_0 a0_1 l0_2 a0_3 = some (r1, r2, r3, r4)) :
  Calls Tryd.prog 33 #[.agg #[.string a0_0, .int .i64 a0_1, .slice A0_2 l0_2.length c0_2, .int .i64 a0_3]] w fun e w' => ∃ v2_ : Value, e = .returned (.agg #[.string r1, .int .i64 r2, v2_, .int .i64 r4]) ∧ Kd.R k46 46 w' w.heap.size (fun _ => True) v2_ r3 ∧ Below w.heap.size w w' := by
 have hu27 := Tryd.underlying27; have HR0_2 := Aside0.mk hr0_2; have HC0_2 := Aside0.mk hc0_2; clear hr0_2 hc0_2; have HB := Aside0.mk (Below.refl w.heap.size w); have H : (if ([] : List (S46)).length + l0_2.length < 8796093022208 then (some (a0_0, a0_1, (([] : List (S46)) ++ l0_2), a0_3)) else (none)) = some (r1, r2, r3, r4) := h; clear h; by_cases c2 : ([] : List (S46)).length + l0_2.length < 8796093022208
 ·
  rw [if_pos c2] at H; have LMc2 := Aside0.mk c2; clear c2; obtain ⟨y112, hy112⟩ : ∃ y_ : List (S46), y_ = (([] : List (S46)) ++ l0_2) := ⟨_, rfl⟩; replace H : (some (a0_0, a0_1, y112, a0_3)) = some (r1, r2, r3, r4) := by first | (rw [hy112]; with_reducible exact H) | (have H2_ := (Option.bind_some _ _).symm.trans H; rw [hy112]; with_reducible exact H2_) | (have H2_ := (Option.bind_some _ _).symm.trans H; with_reducible exact H2_) | with_reducible exact H | (rw [hy112]; exact H) | exact H
  have Ny112 := Aside0.mk hy112; clear hy112; simp only [Option.some.injEq, Prod.mk.injEq] at H; obtain ⟨rfl, rfl, rfl, rfl⟩ := H; go_enter Tryd.func33, Tryd.ntmps33
  go_wp2_with (first | ((with_reducible refine gate_dst (N := 1) rfl ?_); refine box_event ?hg (N := 1) ?hd (cs := #[.string a0_0, .int .i64 a0_1, .slice A0_2 l0_2.length c0_2, .int .i64 a0_3]) (t := 27) ?hr ?_; (case hd => rfl); (case hg => rfl); (case hr => first | (go_simp; done) | (go_simp; rfl)); intro gb110 hg w3 hbox hb; have n0_ := Aside0.mk (below_step (by repeat (first | (with_reducible first | exact HB.out | apply below_alloc | apply pw_below_drewN | apply below_drew1) | exact HB.out)) hb); have n1_ := Aside0.mk (hbox); have n2_ := Aside0.mk ((by rw [hg]; exact (below_size (by repeat (first | (with_reducible first | exact HB.out | apply below_alloc | apply pw_below_drewN | apply below_drew1) | exact HB.out))) : w.heap.size ≤ gb110)); have n3_ := Aside0.mk ((by rw [hg]; exact (below_size (by repeat (first | (with_reducible first | exact HB.out | apply below_alloc | apply pw_below_drewN | apply below_drew1) | exact HB.out))) : w.heap.size ≤ gb110)); clear HB; have HB := n0_; have BK110 := n1_; have GW110 := n2_; have GE110 := n3_; clear n0_ n1_ n2_ n3_; clear hb hbox hg) | ((with_reducible refine gate_dst (N := 2) rfl ?_); refine box_event ?hg (N := 2) ?hd (cs := #[.string (⟨#[]⟩ : ByteArray), .int .i64 0, .slice none 0 0, .int .i64 0]) (t := 27) ?hr ?_; (case hd => rfl); (case hg => rfl); (case hr => first | (go_simp; done) | (go_simp; rfl)); intro gb111 hg w4 hbox hb; have n0_ := Aside0.mk (blk_below (g := gb110) (o := .cells #[.string a0_0, .int .i64 a0_1, .slice A0_2 l0_2.length c0_2, .int .i64 a0_3] 27 (0, 0)) (by (with_reducible repeat (first | refine blk_drewN ?_ _ | refine blk_drew ?_ | refine blk_alloc ?_ _)); exact BK110.out) hb); have n1_ := Aside0.mk (below_step (by repeat (first | (with_reducible first | exact HB.out | apply below_alloc | apply pw_below_drewN | apply below_drew1 | refine below_set ?_ GE110.out) | exact HB.out)) hb); have n2_ := Aside0.mk (hbox); have n3_ := Aside0.mk ((by rw [hg]; exact (below_size (by repeat (first | (with_reducible first | exact HB.out | apply below_alloc | apply pw_below_drewN | apply below_drew1 | refine below_set ?_ GE110.out) | exact HB.out))) : w.heap.size ≤ gb111)); have n4_ := Aside0.mk ((by rw [hg]; exact (below_size (by repeat (first | (with_reducible first | exact HB.out | apply below_alloc | apply pw_below_drewN | apply below_drew1 | refine below_set ?_ GE110.out) | exact HB.out))) : w.heap.size ≤ gb111)); have n5_ := Aside0.mk ((by rw [hg]; exact Nat.ne_of_lt (blk_lt (g := gb110) (o := .cells #[.string a0_0, .int .i64 a0_1, .slice A0_2 l0_2.length c0_2, .int .i64 a0_3] 27 (0, 0)) (by (with_reducible repeat (first | refine blk_drewN ?_ _ | refine blk_drew ?_ | refine blk_alloc ?_ _)); exact BK110.out)) : gb110 ≠ gb111)); have n6_ := Aside0.mk ((by rw [hg]; exact Nat.ne_of_gt (blk_lt (g := gb110) (o := .cells #[.string a0_0, .int .i64 a0_1, .slice A0_2 l0_2.length c0_2, .int .i64 a0_3] 27 (0, 0)) (by (with_reducible repeat (first | refine blk_drewN ?_ _ | refine blk_drew ?_ | refine blk_alloc ?_ _)); exact BK110.out)) : gb111 ≠ gb110)); clear BK110; clear HB; have BK110 := n0_; have HB := n1_; have BK111 := n2_; have GW111 := n3_; have GE111 := n4_; have NB110_111 := n5_; have NB111_110 := n6_; clear n0_ n1_ n2_ n3_ n4_ n5_ n6_; clear hb hbox hg; have hnb5 := NB110_111.out; have hnc5 := NB111_110.out; have hcz6_0 : w4.cell? ⟨gb110, 0, none⟩ = some (.string a0_0) := (blk_cell BK110.out 0).trans rfl; have hcz6_1 : w4.cell? ⟨gb110, 1, none⟩ = some (.int .i64 a0_1) := (blk_cell BK110.out 1).trans rfl; have hcz6_2 : w4.cell? ⟨gb110, 2, none⟩ = some (.slice A0_2 l0_2.length c0_2) := (blk_cell BK110.out 2).trans rfl; have hcz6_3 : w4.cell? ⟨gb110, 3, none⟩ = some (.int .i64 a0_3) := (blk_cell BK110.out 3).trans rfl; have hfz6_0 := blk_frozen BK110.out 0; have hfz6_1 := blk_frozen BK110.out 1; have hfz6_2 := blk_frozen BK110.out 2; have hfz6_3 := blk_frozen BK110.out 3) | ((with_reducible refine gate_builtin (b := .append) (xs := #[.const (.slice none 0 0), .tmp 4]) rfl ?_); at_builtin; refine Kd.R_append_rows k46 (w0 := w) w.heap.size rfl (.const (.slice none 0 0)) (.tmp 4) 25 46 (.agg #[(.int .i64 0), (.int .i64 0)]) 16 rfl Tryd.underlying25 info46 rfl (by decide) (by omega) (.slice none 0 0) ([] : List (S46)) l0_2 _ _ _ (fun _ => True) (fun _ => False) rfl rfl ?aO ?aR (fun _ _ h => h) (fun _ h => h.elim) ?aF ?aB ?aS ?aL ?_; (case aR => repeat (first | exact (Kd.C_below HR0_2.out HB.out) | (with_reducible refine Kd.C_alloc ?_ _) | (with_reducible refine Kd.C_drewN ?_ _) | (with_reducible refine Kd.C_drew ?_))); (case aB => exact (by repeat (first | (with_reducible first | exact HB.out | apply below_alloc | apply pw_below_drewN | apply below_drew1 | refine below_set ?_ GE110.out | refine below_set ?_ GE111.out) | exact HB.out))); (case aF => exact (fun _ _ => trivial)); (case aO => exact ((Kd.R_nil _ _ _ _ (fun _ => True)))); (case aS => exact (below_size (by repeat (first | (with_reducible first | exact HB.out | apply below_alloc | apply pw_below_drewN | apply below_drew1 | refine below_set ?_ GE110.out | refine below_set ?_ GE111.out) | exact HB.out)))); (case aL => have := LMc2.out; omega); intro v113 w7 ho hb hg hat; rw [← Ny112.out] at ho; have n0_ := Aside0.mk (blk_grown (g := gb110) (o := .cells #[.string a0_0, .int .i64 a0_1, .slice A0_2 l0_2.length c0_2, .int .i64 a0_3] 27 (0, 0)) (by (with_reducible repeat (first | refine blk_drewN ?_ _ | refine blk_drew ?_ | refine blk_alloc ?_ _)); exact BK110.out) hg (by simp [Value.ownBlock])); have n1_ := Aside0.mk (blk_grown (g := gb111) (o := .cells #[.string (⟨#[]⟩ : ByteArray), .int .i64 0, .slice none 0 0, .int .i64 0] 27 (0, 0)) (by (with_reducible repeat (first | refine blk_drewN ?_ _ | refine blk_drew ?_ | refine blk_alloc ?_ _)); exact BK111.out) hg (by simp [Value.ownBlock])); have n2_ := Aside0.mk (hb); have n3_ := Aside0.mk (ho); clear BK110; clear BK111; clear HB; have BK110 := n0_; have BK111 := n1_; have HB := n2_; have HO114 := n3_; clear n0_ n1_ n2_ n3_; clear ho hb hg hat; obtain ⟨Ao8, co8, eo8⟩ := Kd.R_slice HO114.out; subst eo8; have hcz9_0 : w7.cell? ⟨gb110, 0, none⟩ = some (.string a0_0) := (blk_cell BK110.out 0).trans rfl; have hcz9_1 : w7.cell? ⟨gb110, 1, none⟩ = some (.int .i64 a0_1) := (blk_cell BK110.out 1).trans rfl; have hcz9_2 : w7.cell? ⟨gb110, 2, none⟩ = some (.slice A0_2 l0_2.length c0_2) := (blk_cell BK110.out 2).trans rfl; have hcz9_3 : w7.cell? ⟨gb110, 3, none⟩ = some (.int .i64 a0_3) := (blk_cell BK110.out 3).trans rfl; have hfz9_0 := blk_frozen BK110.out 0; have hfz9_1 := blk_frozen BK110.out 1; have hfz9_2 := blk_frozen BK110.out 2; have hfz9_3 := blk_frozen BK110.out 3; have hcz10_0 : w7.cell? ⟨gb111, 0, none⟩ = some (.string (⟨#[]⟩ : ByteArray)) := (blk_cell BK111.out 0).trans rfl; have hcz10_1 : w7.cell? ⟨gb111, 1, none⟩ = some (.int .i64 0) := (blk_cell BK111.out 1).trans rfl; have hcz10_2 : w7.cell? ⟨gb111, 2, none⟩ = some (.slice none 0 0) := (blk_cell BK111.out 2).trans rfl; have hcz10_3 : w7.cell? ⟨gb111, 3, none⟩ = some (.int .i64 0) := (blk_cell BK111.out 3).trans rfl; have hfz10_0 := blk_frozen BK111.out 0; have hfz10_1 := blk_frozen BK111.out 1; have hfz10_2 := blk_frozen BK111.out 2; have hfz10_3 := blk_frozen BK111.out 3))
  refine bodyPost_ret (results_cell_row rfl _ _ gb111 27 #[.string a0_0, .int .i64 a0_1, .slice Ao8 y112.length co8, .int .i64 a0_3] (0, 0) _ rfl (by (with_reducible repeat (first | refine blk_drewN ?_ _ | refine blk_drew ?_ | refine blk_alloc ?_ _)); refine blk_put (cs := #[.string a0_0, .int .i64 a0_1, .slice Ao8 y112.length co8, .int .i64 0]) ?_ 3 _ rfl; (with_reducible repeat (first | refine blk_drewN ?_ _ | refine blk_drew ?_ | refine blk_alloc ?_ _)); refine blk_put (cs := #[.string a0_0, .int .i64 a0_1, .slice none 0 0, .int .i64 0]) ?_ 2 _ rfl; (with_reducible repeat (first | refine blk_drewN ?_ _ | refine blk_drew ?_ | refine blk_alloc ?_ _)); refine blk_put (cs := #[.string a0_0, .int .i64 0, .slice none 0 0, .int .i64 0]) ?_ 1 _ rfl; (with_reducible repeat (first | refine blk_drewN ?_ _ | refine blk_drew ?_ | refine blk_alloc ?_ _)); refine blk_put (cs := #[.string (⟨#[]⟩ : ByteArray), .int .i64 0, .slice none 0 0, .int .i64 0]) ?_ 0 _ rfl; (with_reducible repeat (first | refine blk_drewN ?_ _ | refine blk_drew ?_ | refine blk_alloc ?_ _)); refine blk_far ?_ NB111_110.out _; (with_reducible repeat (first | refine blk_drewN ?_ _ | refine blk_drew ?_ | refine blk_alloc ?_ _)); exact BK111.out) Tryd.underlying27 rfl (by kernel_rfl)) rfl ?_; exact ⟨_, by first | rfl | (simp [errW_none, errW_some] <;> rfl) | (simp [*, errW_none, errW_some] <;> rfl), by (with_reducible repeat (first | apply Kd.R_alloc | apply Kd.R_drewN | apply Kd.R_drew)); exact Kd.R_mono (Kd.R_far (p := ⟨gb111, 3, none⟩) (Kd.R_far (p := ⟨gb111, 2, none⟩) (Kd.R_far (p := ⟨gb111, 1, none⟩) (Kd.R_far (p := ⟨gb111, 0, none⟩) (Kd.R_far (p := ⟨gb110, 2, none⟩) (Kd.R_types (Kd.R_types HO114.out BK110.out (by decide)) BK111.out (by decide)) (fun _ hk => hk.1.2) (.slice Ao8 y112.length co8)) (fun _ hk => hk.2) (.string a0_0)) (fun _ hk => hk.2) (.int .i64 a0_1)) (fun _ hk => hk.2) (.slice Ao8 y112.length co8)) (fun _ hk => hk.2) (.int .i64 a0_3)) (fun _ hk => trivial), by repeat (first | (with_reducible first | exact HB.out | apply below_alloc | apply pw_below_drewN | apply below_drew1 | refine below_set ?_ GE110.out | refine below_set ?_ GE111.out) | exact HB.out)⟩
 · rw [if_neg c2] at H; exact absurd H (by simp)
def cask_Find.l0 : Nat → ByteArray → List (S27) → Int → Int → Option (ByteArray × Int × (List (S46)) × Int × Int)
 | 0, _, _, _, _ => none
 | k + 1, x1, x15, x16, x17 => if x17 < x16 then (if 0 ≤ x17 then (if x17 < (x15.length : Int) then (if ((rd_T27 x15 x17).f0).toList = x1.toList then ((cask_own.f ((rd_T27 x15 x17).f0) ((rd_T27 x15 x17).f1) ((rd_T27 x15 x17).f2) ((rd_T27 x15 x17).f3)).bind fun bt119 => (some (bt119.1, bt119.2.1, bt119.2.2.1, bt119.2.2.2, 0))) else (cask_Find.l0 k x1 x15 x16 (wrap64 (x17 + 1)))) else (none)) else (none)) else (some ((⟨#[]⟩ : ByteArray), 0, ([] : List (S46)), 0, 7))
def cask_Find.f (k : Nat) (l0 : List (S27)) (a1 : ByteArray) : Option (ByteArray × Int × (List (S46)) × Int × Int) := (cask_List.f k l0).bind fun t116 => (if t116 = 0 then (cask_Find.l0 k a1 l0 (l0.length : Int) 0) else (some ((⟨#[]⟩ : ByteArray), 0, ([] : List (S46)), 0, t116)))
set_option maxHeartbeats 8000000 in
set_option maxRecDepth 100000 in
theorem cask_Find.calls (k : Nat) (A0 : Option Addr) (c0 : Nat) (l0 : List (S27)) (a1 : ByteArray) (r1 : ByteArray) (r2 : Int) (r3 : List (S46)) (r4 : Int) (r5 : Int) (w : World) (hr0 : Kd.C k27 w A0 l0.length l0) (hc0 : l0.length ≤ c0) (h : cask_Find.f k l0 a1 = some (r1, r2, r3, r4, r5)) :
  Calls Tryd.prog 12 #[.slice A0 l0.length c0, .string a1] w fun e w' => ∃ v2_ : Value, e = .returned (.tuple #[.agg #[.string r1, .int .i64 r2, v2_, .int .i64 r4], .int .i64 r5]) ∧ Kd.R k46 46 w' w.heap.size (fun _ => True) v2_ r3 ∧ Below w.heap.size w w' := by
 have hu27 := Tryd.underlying27; have HR0 := Aside0.mk hr0; have HC0 := Aside0.mk hc0; clear hr0 hc0; have HB := Aside0.mk (Below.refl w.heap.size w); have H : ((cask_List.f k l0).bind fun t116 => (if t116 = 0 then (cask_Find.l0 k a1 l0 (l0.length : Int) 0) else (some ((⟨#[]⟩ : ByteArray), 0, ([] : List (S46)), 0, t116)))) = some (r1, r2, r3, r4, r5) := h; clear h; replace H := Option.bind_eq_some_iff.mp H; obtain ⟨t116, A30, H⟩ := H; replace H : (if t116 = 0 then (cask_Find.l0 k a1 l0 (l0.length : Int) 0) else (some ((⟨#[]⟩ : ByteArray), 0, ([] : List (S46)), 0, t116))) = some (r1, r2, r3, r4, r5) := H; have A3 := Aside0.mk A30; clear A30; by_cases c4 : t116 = 0
 ·
  rw [if_pos c4] at H; have c4b0 : (t116 == 0) = true := beq_iff_eq.mpr c4; have c4b1 : (t116 != 0) = false := bne_eq_false_iff_eq.mpr c4; clear c4; have H' := Aside0.mk H; clear H; go_enter Tryd.func12, Tryd.ntmps12
  go_wp2_with (first | ((with_reducible refine gate_dst (N := 4) rfl ?_); refine box_event ?hg (N := 4) ?hd (cs := #[.string (⟨#[]⟩ : ByteArray), .int .i64 0, .slice none 0 0, .int .i64 0]) (t := 27) ?hr ?_; (case hd => rfl); (case hg => rfl); (case hr => first | (go_simp; done) | (go_simp; rfl)); intro gb115 hg w5 hbox hb; have n0_ := Aside0.mk (below_step (by repeat (first | (with_reducible first | exact HB.out | apply below_alloc | apply pw_below_drewN | apply below_drew1) | exact HB.out)) hb); have n1_ := Aside0.mk (hbox); have n2_ := Aside0.mk ((by rw [hg]; exact (below_size (by repeat (first | (with_reducible first | exact HB.out | apply below_alloc | apply pw_below_drewN | apply below_drew1) | exact HB.out))) : w.heap.size ≤ gb115)); have n3_ := Aside0.mk ((by rw [hg]; exact (below_size (by repeat (first | (with_reducible first | exact HB.out | apply below_alloc | apply pw_below_drewN | apply below_drew1) | exact HB.out))) : w.heap.size ≤ gb115)); clear HB; have HB := n0_; have BK115 := n1_; have GW115 := n2_; have GE115 := n3_; clear n0_ n1_ n2_ n3_; clear hb hbox hg) | ((with_reducible refine gate_callee (f := 16) rfl ?_); refine goesL_ (some 10) rfl rfl Tryd.func16 (by kernel_rfl) rfl #[.slice A0 l0.length c0] rfl (by (try simp only [List.map_toArray, List.map_cons, List.map_nil]); first | done | rfl | (simp only [List.length_drop, List.length_take]; rfl)) ?_; (with_reducible refine (cask_List.calls k _ _ l0 t116 _ ?side1 ?side2 A3.out).mono ?_); (case side1 => repeat (first | exact (Kd.C_below HR0.out HB.out) | (with_reducible refine Kd.C_alloc ?_ _) | (with_reducible refine Kd.C_drewN ?_ _) | (with_reducible refine Kd.C_drew ?_))); (case side2 => exact HC0.out); rintro e w6 ⟨rfl, hb⟩; refine ⟨_, rfl, ?_⟩; have n0_ := Aside0.mk (blk_below (g := gb115) (o := .cells #[.string (⟨#[]⟩ : ByteArray), .int .i64 0, .slice none 0 0, .int .i64 0] 27 (0, 0)) (by (with_reducible repeat (first | refine blk_drewN ?_ _ | refine blk_drew ?_ | refine blk_alloc ?_ _)); exact BK115.out) hb); have n1_ := Aside0.mk (below_step (by repeat (first | (with_reducible first | exact HB.out | apply below_alloc | apply pw_below_drewN | apply below_drew1 | refine below_set ?_ GE115.out) | exact HB.out)) hb); clear BK115; clear HB; have BK115 := n0_; have HB := n1_; clear n0_ n1_; (try clear hb); (try clear hb2); (try clear hk); (try clear hi)))
  go_loopg [17] k (fun kq v17 w' => ∃ (x17_1 : Int) (x116000_1 : ByteArray) (x116001_1 : Int) (x116003_1 : Int), v17 = .int .i64 x17_1 ∧ Aside0 (cask_Find.l0 kq a1 l0 (l0.length : Int) x17_1 = some (r1, r2, r3, r4, r5)) ∧ Aside0 (kq ≤ k) ∧ Aside0 (w'.heap[gb115]? = some (.cells #[.string x116000_1, .int .i64 x116001_1, (.slice none 0 0), .int .i64 x116003_1] 27 (0, 0))) ∧ Aside0 (Below w.heap.size w w'))
  case atStart => exact ⟨(0), ((⟨#[]⟩ : ByteArray)), (0), (0), (by first | rfl | (simp; done) | (simp [*]; done)), H', ⟨Nat.le_refl _⟩, ⟨by (with_reducible repeat (first | refine blk_drewN ?_ _ | refine blk_drew ?_ | refine blk_alloc ?_ _)); exact BK115.out⟩, ⟨by repeat (first | (with_reducible first | exact HB.out | apply below_alloc | apply pw_below_drewN | apply below_drew1 | refine below_set ?_ GE115.out) | exact HB.out)⟩⟩
  case round =>
   clear H'; try clear c1
   try clear p2
   try clear c4
   try clear c4b0
   try clear c4b1
   obtain ⟨x17_1, x116000_1, x116001_1, x116003_1, rfl, HA, HK1, BK115, HB⟩ := hrel
   cases gk with
   | zero => exact absurd HA.out (by simp [cask_Find.l0])
   | succ k1 =>
    have H := HA.out; clear HA; simp only [cask_Find.l0] at H; by_cases c7 : x17_1 < (l0.length : Int)
    ·
     rw [if_pos c7] at H; have c7b0 : decide (x17_1 < (l0.length : Int)) = true := decide_eq_true c7; clear c7; by_cases c8 : 0 ≤ x17_1
     ·
      rw [if_pos c8] at H; have c8b0 : decide (0 ≤ x17_1) = true := decide_eq_true c8; clear c8; by_cases c9 : x17_1 < (l0.length : Int)
      ·
       rw [if_pos c9] at H; have c9b0 : decide (x17_1 < (l0.length : Int)) = true := decide_eq_true c9; clear c9; by_cases c10 : ((rd_T27 l0 x17_1).f0).toList = a1.toList
       ·
        rw [if_pos c10] at H; have c10b0 : (((rd_T27 l0 x17_1).f0).toList == a1.toList) = true := beq_iff_eq.mpr c10; have c10b1 : (((rd_T27 l0 x17_1).f0).toList != a1.toList) = false := bne_eq_false_iff_eq.mpr c10; clear c10; replace H := Option.bind_eq_some_iff.mp H; obtain ⟨⟨t119, t120, t121, t124⟩, A110, H⟩ := H; replace H : (some (t119, t120, t121, t124, 0)) = some (r1, r2, r3, r4, r5) := H; have A11 := Aside0.mk A110; clear A110; simp only [Option.some.injEq, Prod.mk.injEq] at H; obtain ⟨rfl, rfl, rfl, rfl, rfl⟩ := H; have p117 : 0 ≤ (x17_1 : Int) := of_decide_eq_true (by first | (with_reducible assumption) | assumption); have q117 : x17_1 < (l0.length : Int) := of_decide_eq_true (by first | (with_reducible assumption) | assumption); obtain ⟨ad117, A117_2, c117_2, e117, hx117_0, hx117_1, hx117_2, hx117_3, hl117_2, hi117_2⟩ := at_T27 HR0.out x17_1 p117 q117; cases e117; replace hx117_0 := (HB.out.cell (World.block_lt_of_cell? w _ hx117_0)).trans hx117_0; replace hx117_1 := (HB.out.cell (World.block_lt_of_cell? w _ hx117_1)).trans hx117_1; replace hx117_2 := (HB.out.cell (World.block_lt_of_cell? w _ hx117_2)).trans hx117_2; replace hx117_3 := (HB.out.cell (World.block_lt_of_cell? w _ hx117_3)).trans hx117_3; have HR117_2 := Aside0.mk hi117_2; have HC117_2 := Aside0.mk hl117_2; clear hi117_2 hl117_2; replace p117 := eq_true p117; replace q117 := eq_true q117; go_wp2_with (first | ((with_reducible refine gate_dst (N := 8) rfl ?_); refine box_event ?hg (N := 8) ?hd (cs := #[.string (⟨#[]⟩ : ByteArray), .int .i64 0, .slice none 0 0, .int .i64 0]) (t := 27) ?hr ?_; (case hd => rfl); (case hg => rfl); (case hr => first | (go_simp; done) | (go_simp; rfl)); intro gb118 hg w12 hbox hb; have n0_ := Aside0.mk (blk_below (g := gb115) (o := .cells #[.string x116000_1, .int .i64 x116001_1, .slice none 0 0, .int .i64 x116003_1] 27 (0, 0)) (by (with_reducible repeat (first | refine blk_drewN ?_ _ | refine blk_drew ?_ | refine blk_alloc ?_ _)); exact BK115.out) hb); have n1_ := Aside0.mk (below_step (by repeat (first | (with_reducible first | exact HB.out | apply below_alloc | apply pw_below_drewN | apply below_drew1 | refine below_set ?_ GE115.out) | exact HB.out)) hb); have n2_ := Aside0.mk (hbox); have n3_ := Aside0.mk ((by rw [hg]; exact (below_size (by repeat (first | (with_reducible first | exact HB.out | apply below_alloc | apply pw_below_drewN | apply below_drew1 | refine below_set ?_ GE115.out) | exact HB.out))) : w.heap.size ≤ gb118)); have n4_ := Aside0.mk ((by rw [hg]; exact (below_size (by repeat (first | (with_reducible first | exact HB.out | apply below_alloc | apply pw_below_drewN | apply below_drew1 | refine below_set ?_ GE115.out) | exact HB.out))) : w.heap.size ≤ gb118)); have n5_ := Aside0.mk ((by rw [hg]; exact Nat.ne_of_lt (blk_lt (g := gb115) (o := .cells #[.string x116000_1, .int .i64 x116001_1, .slice none 0 0, .int .i64 x116003_1] 27 (0, 0)) (by (with_reducible repeat (first | refine blk_drewN ?_ _ | refine blk_drew ?_ | refine blk_alloc ?_ _)); exact BK115.out)) : gb115 ≠ gb118)); have n6_ := Aside0.mk ((by rw [hg]; exact Nat.ne_of_gt (blk_lt (g := gb115) (o := .cells #[.string x116000_1, .int .i64 x116001_1, .slice none 0 0, .int .i64 x116003_1] 27 (0, 0)) (by (with_reducible repeat (first | refine blk_drewN ?_ _ | refine blk_drew ?_ | refine blk_alloc ?_ _)); exact BK115.out)) : gb118 ≠ gb115)); clear BK115; clear HB; have BK115 := n0_; have HB := n1_; have BK118 := n2_; have GW118 := n3_; have GE118 := n4_; have NB115_118 := n5_; have NB118_115 := n6_; clear n0_ n1_ n2_ n3_ n4_ n5_ n6_; clear hb hbox hg; have hnb13 := NB118_115.out; have hnc13 := NB115_118.out; have hcz14_0 : w12.cell? ⟨gb118, 0, none⟩ = some (.string (⟨#[]⟩ : ByteArray)) := (blk_cell BK118.out 0).trans rfl; have hcz14_1 : w12.cell? ⟨gb118, 1, none⟩ = some (.int .i64 0) := (blk_cell BK118.out 1).trans rfl; have hcz14_2 : w12.cell? ⟨gb118, 2, none⟩ = some (.slice none 0 0) := (blk_cell BK118.out 2).trans rfl; have hcz14_3 : w12.cell? ⟨gb118, 3, none⟩ = some (.int .i64 0) := (blk_cell BK118.out 3).trans rfl; have hfz14_0 := blk_frozen BK118.out 0; have hfz14_1 := blk_frozen BK118.out 1; have hfz14_2 := blk_frozen BK118.out 2; have hfz14_3 := blk_frozen BK118.out 3) | ((with_reducible refine gate_callee (f := 33) rfl ?_); refine goesL_ (some 26) rfl rfl Tryd.func33 (by kernel_rfl) rfl #[.agg #[.string ((rd_T27 l0 x17_1).f0), .int .i64 ((rd_T27 l0 x17_1).f1), .slice A117_2 ((rd_T27 l0 x17_1).f2).length c117_2, .int .i64 ((rd_T27 l0 x17_1).f3)]] rfl (by (try simp only [List.map_toArray, List.map_cons, List.map_nil]); first | done | rfl | (simp only [List.length_drop, List.length_take]; rfl)) ?_; (with_reducible refine (cask_own.calls ((rd_T27 l0 x17_1).f0) ((rd_T27 l0 x17_1).f1) _ _ ((rd_T27 l0 x17_1).f2) ((rd_T27 l0 x17_1).f3) t119 t120 t121 t124 _ ?side1 ?side2 A11.out).mono ?_); (case side1 => exact Kd.C_below HR117_2.out (by repeat (first | (with_reducible first | exact HB.out | apply below_alloc | apply pw_below_drewN | apply below_drew1 | refine below_set ?_ GE115.out | refine below_set ?_ GE118.out) | exact HB.out))); (case side2 => exact HC117_2.out); rintro e w15 ⟨v122, rfl, ho0, hb⟩; refine ⟨_, rfl, ?_⟩; have n0_ := Aside0.mk (Kd.R_lower ho0 (below_size (by repeat (first | (with_reducible first | exact HB.out | apply below_alloc | apply pw_below_drewN | apply below_drew1 | refine below_set ?_ GE115.out | refine below_set ?_ GE118.out) | exact HB.out)))); have n1_ := Aside0.mk (blk_below (g := gb115) (o := .cells #[.string x116000_1, .int .i64 x116001_1, .slice none 0 0, .int .i64 x116003_1] 27 (0, 0)) (by (with_reducible repeat (first | refine blk_drewN ?_ _ | refine blk_drew ?_ | refine blk_alloc ?_ _)); refine blk_far ?_ NB115_118.out _; (with_reducible repeat (first | refine blk_drewN ?_ _ | refine blk_drew ?_ | refine blk_alloc ?_ _)); refine blk_far ?_ NB115_118.out _; (with_reducible repeat (first | refine blk_drewN ?_ _ | refine blk_drew ?_ | refine blk_alloc ?_ _)); refine blk_far ?_ NB115_118.out _; (with_reducible repeat (first | refine blk_drewN ?_ _ | refine blk_drew ?_ | refine blk_alloc ?_ _)); refine blk_far ?_ NB115_118.out _; (with_reducible repeat (first | refine blk_drewN ?_ _ | refine blk_drew ?_ | refine blk_alloc ?_ _)); exact BK115.out) hb); have n2_ := Aside0.mk (blk_below (g := gb118) (o := .cells #[.string ((rd_T27 l0 x17_1).f0), .int .i64 ((rd_T27 l0 x17_1).f1), .slice A117_2 ((rd_T27 l0 x17_1).f2).length c117_2, .int .i64 ((rd_T27 l0 x17_1).f3)] 27 (0, 0)) (by (with_reducible repeat (first | refine blk_drewN ?_ _ | refine blk_drew ?_ | refine blk_alloc ?_ _)); refine blk_put (cs := #[.string ((rd_T27 l0 x17_1).f0), .int .i64 ((rd_T27 l0 x17_1).f1), .slice A117_2 ((rd_T27 l0 x17_1).f2).length c117_2, .int .i64 0]) ?_ 3 _ rfl; (with_reducible repeat (first | refine blk_drewN ?_ _ | refine blk_drew ?_ | refine blk_alloc ?_ _)); refine blk_put (cs := #[.string ((rd_T27 l0 x17_1).f0), .int .i64 ((rd_T27 l0 x17_1).f1), .slice none 0 0, .int .i64 0]) ?_ 2 _ rfl; (with_reducible repeat (first | refine blk_drewN ?_ _ | refine blk_drew ?_ | refine blk_alloc ?_ _)); refine blk_put (cs := #[.string ((rd_T27 l0 x17_1).f0), .int .i64 0, .slice none 0 0, .int .i64 0]) ?_ 1 _ rfl; (with_reducible repeat (first | refine blk_drewN ?_ _ | refine blk_drew ?_ | refine blk_alloc ?_ _)); refine blk_put (cs := #[.string (⟨#[]⟩ : ByteArray), .int .i64 0, .slice none 0 0, .int .i64 0]) ?_ 0 _ rfl; (with_reducible repeat (first | refine blk_drewN ?_ _ | refine blk_drew ?_ | refine blk_alloc ?_ _)); exact BK118.out) hb); have n3_ := Aside0.mk (below_step (by repeat (first | (with_reducible first | exact HB.out | apply below_alloc | apply pw_below_drewN | apply below_drew1 | refine below_set ?_ GE115.out | refine below_set ?_ GE118.out) | exact HB.out)) hb); clear BK115; clear BK118; clear HB; have HO123 := n0_; have BK115 := n1_; have BK118 := n2_; have HB := n3_; clear n0_ n1_ n2_ n3_; (try clear hb); (try clear hb2); (try clear hk); (try clear hi); (try clear ho0); have hcz16_0 : w15.cell? ⟨gb115, 0, none⟩ = some (.string x116000_1) := (blk_cell BK115.out 0).trans rfl; have hcz16_1 : w15.cell? ⟨gb115, 1, none⟩ = some (.int .i64 x116001_1) := (blk_cell BK115.out 1).trans rfl; have hcz16_2 : w15.cell? ⟨gb115, 2, none⟩ = some (.slice none 0 0) := (blk_cell BK115.out 2).trans rfl; have hcz16_3 : w15.cell? ⟨gb115, 3, none⟩ = some (.int .i64 x116003_1) := (blk_cell BK115.out 3).trans rfl; have hfz16_0 := blk_frozen BK115.out 0; have hfz16_1 := blk_frozen BK115.out 1; have hfz16_2 := blk_frozen BK115.out 2; have hfz16_3 := blk_frozen BK115.out 3; obtain ⟨Ao17, co17, eo17⟩ := Kd.R_slice HO123.out; subst eo17))
        refine bodyPost_ret (results_ct rfl _ _ gb115 27 #[.string t119, .int .i64 t120, .slice Ao17 t121.length co17, .int .i64 t124] (0, 0) _ rfl (by (with_reducible repeat (first | refine blk_drewN ?_ _ | refine blk_drew ?_ | refine blk_alloc ?_ _)); refine blk_put (cs := #[.string t119, .int .i64 t120, .slice Ao17 t121.length co17, .int .i64 x116003_1]) ?_ 3 _ rfl; (with_reducible repeat (first | refine blk_drewN ?_ _ | refine blk_drew ?_ | refine blk_alloc ?_ _)); refine blk_put (cs := #[.string t119, .int .i64 t120, .slice none 0 0, .int .i64 x116003_1]) ?_ 2 _ rfl; (with_reducible repeat (first | refine blk_drewN ?_ _ | refine blk_drew ?_ | refine blk_alloc ?_ _)); refine blk_put (cs := #[.string t119, .int .i64 x116001_1, .slice none 0 0, .int .i64 x116003_1]) ?_ 1 _ rfl; (with_reducible repeat (first | refine blk_drewN ?_ _ | refine blk_drew ?_ | refine blk_alloc ?_ _)); refine blk_put (cs := #[.string x116000_1, .int .i64 x116001_1, .slice none 0 0, .int .i64 x116003_1]) ?_ 0 _ rfl; (with_reducible repeat (first | refine blk_drewN ?_ _ | refine blk_drew ?_ | refine blk_alloc ?_ _)); exact BK115.out) Tryd.underlying27 rfl (by kernel_rfl)) rfl ?_; exact ⟨_, by first | rfl | (simp [errW_none, errW_some] <;> rfl) | (simp [*, errW_none, errW_some] <;> rfl), by (with_reducible repeat (first | apply Kd.R_alloc | apply Kd.R_drewN | apply Kd.R_drew)); exact Kd.R_mono (Kd.R_far (p := ⟨gb115, 3, none⟩) (Kd.R_far (p := ⟨gb115, 2, none⟩) (Kd.R_far (p := ⟨gb115, 1, none⟩) (Kd.R_far (p := ⟨gb115, 0, none⟩) (Kd.R_types HO123.out BK115.out (by decide)) (fun _ hk => hk.2) (.string t119)) (fun _ hk => hk.2) (.int .i64 t120)) (fun _ hk => hk.2) (.slice Ao17 t121.length co17)) (fun _ hk => hk.2) (.int .i64 t124)) (fun _ hk => trivial), by repeat (first | (with_reducible first | exact HB.out | apply below_alloc | apply pw_below_drewN | apply below_drew1 | refine below_set ?_ GE115.out | refine below_set ?_ GE118.out) | exact HB.out)⟩
       ·
        rw [if_neg c10] at H; have c10b0 : (((rd_T27 l0 x17_1).f0).toList == a1.toList) = false := beq_eq_false_iff_ne.mpr c10; have c10b1 : (((rd_T27 l0 x17_1).f0).toList != a1.toList) = true := bne_iff_ne.mpr c10; have H' := Aside0.mk H; clear H; have p117 : 0 ≤ (x17_1 : Int) := of_decide_eq_true (by first | (with_reducible assumption) | assumption); have q117 : x17_1 < (l0.length : Int) := of_decide_eq_true (by first | (with_reducible assumption) | assumption); obtain ⟨ad117, A117_2, c117_2, e117, hx117_0, hx117_1, hx117_2, hx117_3, hl117_2, hi117_2⟩ := at_T27 HR0.out x17_1 p117 q117; cases e117; replace hx117_0 := (HB.out.cell (World.block_lt_of_cell? w _ hx117_0)).trans hx117_0; replace hx117_1 := (HB.out.cell (World.block_lt_of_cell? w _ hx117_1)).trans hx117_1; replace hx117_2 := (HB.out.cell (World.block_lt_of_cell? w _ hx117_2)).trans hx117_2; replace hx117_3 := (HB.out.cell (World.block_lt_of_cell? w _ hx117_3)).trans hx117_3; have HR117_2 := Aside0.mk hi117_2; have HC117_2 := Aside0.mk hl117_2; clear hi117_2 hl117_2; replace p117 := eq_true p117; replace q117 := eq_true q117; go_wp2_with (first | ((with_reducible refine gate_dst (N := 8) rfl ?_); refine box_event ?hg (N := 8) ?hd (cs := #[.string (⟨#[]⟩ : ByteArray), .int .i64 0, .slice none 0 0, .int .i64 0]) (t := 27) ?hr ?_; (case hd => rfl); (case hg => rfl); (case hr => first | (go_simp; done) | (go_simp; rfl)); intro gb118 hg w18 hbox hb; have n0_ := Aside0.mk (blk_below (g := gb115) (o := .cells #[.string x116000_1, .int .i64 x116001_1, .slice none 0 0, .int .i64 x116003_1] 27 (0, 0)) (by (with_reducible repeat (first | refine blk_drewN ?_ _ | refine blk_drew ?_ | refine blk_alloc ?_ _)); exact BK115.out) hb); have n1_ := Aside0.mk (below_step (by repeat (first | (with_reducible first | exact HB.out | apply below_alloc | apply pw_below_drewN | apply below_drew1 | refine below_set ?_ GE115.out) | exact HB.out)) hb); have n2_ := Aside0.mk (hbox); have n3_ := Aside0.mk ((by rw [hg]; exact (below_size (by repeat (first | (with_reducible first | exact HB.out | apply below_alloc | apply pw_below_drewN | apply below_drew1 | refine below_set ?_ GE115.out) | exact HB.out))) : w.heap.size ≤ gb118)); have n4_ := Aside0.mk ((by rw [hg]; exact (below_size (by repeat (first | (with_reducible first | exact HB.out | apply below_alloc | apply pw_below_drewN | apply below_drew1 | refine below_set ?_ GE115.out) | exact HB.out))) : w.heap.size ≤ gb118)); have n5_ := Aside0.mk ((by rw [hg]; exact Nat.ne_of_lt (blk_lt (g := gb115) (o := .cells #[.string x116000_1, .int .i64 x116001_1, .slice none 0 0, .int .i64 x116003_1] 27 (0, 0)) (by (with_reducible repeat (first | refine blk_drewN ?_ _ | refine blk_drew ?_ | refine blk_alloc ?_ _)); exact BK115.out)) : gb115 ≠ gb118)); have n6_ := Aside0.mk ((by rw [hg]; exact Nat.ne_of_gt (blk_lt (g := gb115) (o := .cells #[.string x116000_1, .int .i64 x116001_1, .slice none 0 0, .int .i64 x116003_1] 27 (0, 0)) (by (with_reducible repeat (first | refine blk_drewN ?_ _ | refine blk_drew ?_ | refine blk_alloc ?_ _)); exact BK115.out)) : gb118 ≠ gb115)); clear BK115; clear HB; have BK115 := n0_; have HB := n1_; have BK118 := n2_; have GW118 := n3_; have GE118 := n4_; have NB115_118 := n5_; have NB118_115 := n6_; clear n0_ n1_ n2_ n3_ n4_ n5_ n6_; clear hb hbox hg; have hnb19 := NB118_115.out; have hnc19 := NB115_118.out; have hcz20_0 : w18.cell? ⟨gb118, 0, none⟩ = some (.string (⟨#[]⟩ : ByteArray)) := (blk_cell BK118.out 0).trans rfl; have hcz20_1 : w18.cell? ⟨gb118, 1, none⟩ = some (.int .i64 0) := (blk_cell BK118.out 1).trans rfl; have hcz20_2 : w18.cell? ⟨gb118, 2, none⟩ = some (.slice none 0 0) := (blk_cell BK118.out 2).trans rfl; have hcz20_3 : w18.cell? ⟨gb118, 3, none⟩ = some (.int .i64 0) := (blk_cell BK118.out 3).trans rfl; have hfz20_0 := blk_frozen BK118.out 0; have hfz20_1 := blk_frozen BK118.out 1; have hfz20_2 := blk_frozen BK118.out 2; have hfz20_3 := blk_frozen BK118.out 3))
        go_roundg k1
        case measure => have := HK1.out; omega
        case rel => exact ⟨(wrap64 (x17_1 + 1)), (x116000_1), (x116001_1), (x116003_1), (by first | rfl | (simp; done) | (simp [*]; done)), H', ⟨by have := HK1.out; omega⟩, ⟨by (with_reducible repeat (first | refine blk_drewN ?_ _ | refine blk_drew ?_ | refine blk_alloc ?_ _)); refine blk_far ?_ NB115_118.out _; (with_reducible repeat (first | refine blk_drewN ?_ _ | refine blk_drew ?_ | refine blk_alloc ?_ _)); refine blk_far ?_ NB115_118.out _; (with_reducible repeat (first | refine blk_drewN ?_ _ | refine blk_drew ?_ | refine blk_alloc ?_ _)); refine blk_far ?_ NB115_118.out _; (with_reducible repeat (first | refine blk_drewN ?_ _ | refine blk_drew ?_ | refine blk_alloc ?_ _)); refine blk_far ?_ NB115_118.out _; (with_reducible repeat (first | refine blk_drewN ?_ _ | refine blk_drew ?_ | refine blk_alloc ?_ _)); exact BK115.out⟩, ⟨by repeat (first | (with_reducible first | exact HB.out | apply below_alloc | apply pw_below_drewN | apply below_drew1 | refine below_set ?_ GE115.out | refine below_set ?_ GE118.out) | exact HB.out)⟩⟩
      · rw [if_neg c9] at H; exact absurd H (by simp)
     · rw [if_neg c8] at H; exact absurd H (by simp)
    · rw [if_neg c7] at H; have c7b0 : decide (x17_1 < (l0.length : Int)) = false := decide_eq_false c7; clear c7; simp only [Option.some.injEq, Prod.mk.injEq] at H; obtain ⟨rfl, rfl, rfl, rfl, rfl⟩ := H; have hcz21_0 : wr.cell? ⟨gb115, 0, none⟩ = some (.string x116000_1) := (blk_cell BK115.out 0).trans rfl; have hcz21_1 : wr.cell? ⟨gb115, 1, none⟩ = some (.int .i64 x116001_1) := (blk_cell BK115.out 1).trans rfl; have hcz21_2 : wr.cell? ⟨gb115, 2, none⟩ = some (.slice none 0 0) := (blk_cell BK115.out 2).trans rfl; have hcz21_3 : wr.cell? ⟨gb115, 3, none⟩ = some (.int .i64 x116003_1) := (blk_cell BK115.out 3).trans rfl; have hfz21_0 := blk_frozen BK115.out 0; have hfz21_1 := blk_frozen BK115.out 1; have hfz21_2 := blk_frozen BK115.out 2; have hfz21_3 := blk_frozen BK115.out 3; go_wp2; refine bodyPost_ret (results_ct rfl _ _ gb115 27 #[.string (⟨#[]⟩ : ByteArray), .int .i64 0, .slice none 0 0, .int .i64 0] (0, 0) _ rfl (by (with_reducible repeat (first | refine blk_drewN ?_ _ | refine blk_drew ?_ | refine blk_alloc ?_ _)); refine blk_put (cs := #[.string (⟨#[]⟩ : ByteArray), .int .i64 0, .slice none 0 0, .int .i64 x116003_1]) ?_ 3 _ rfl; (with_reducible repeat (first | refine blk_drewN ?_ _ | refine blk_drew ?_ | refine blk_alloc ?_ _)); refine blk_put (cs := #[.string (⟨#[]⟩ : ByteArray), .int .i64 0, .slice none 0 0, .int .i64 x116003_1]) ?_ 2 _ rfl; (with_reducible repeat (first | refine blk_drewN ?_ _ | refine blk_drew ?_ | refine blk_alloc ?_ _)); refine blk_put (cs := #[.string (⟨#[]⟩ : ByteArray), .int .i64 x116001_1, .slice none 0 0, .int .i64 x116003_1]) ?_ 1 _ rfl; (with_reducible repeat (first | refine blk_drewN ?_ _ | refine blk_drew ?_ | refine blk_alloc ?_ _)); refine blk_put (cs := #[.string x116000_1, .int .i64 x116001_1, .slice none 0 0, .int .i64 x116003_1]) ?_ 0 _ rfl; (with_reducible repeat (first | refine blk_drewN ?_ _ | refine blk_drew ?_ | refine blk_alloc ?_ _)); exact BK115.out) Tryd.underlying27 rfl (by kernel_rfl)) rfl ?_; exact ⟨_, by first | rfl | (simp [errW_none, errW_some] <;> rfl) | (simp [*, errW_none, errW_some] <;> rfl), by first | exact Kd.R_nil _ _ _ _ _ | exact Kd.N_nil _ _ _ _ _ | exact Kd.V_nil _ _ _ _ _ | exact Kd.Q_nil _ _ _ _ _ | exact Kd.S_nil _ _ _ _ _, by repeat (first | (with_reducible first | exact HB.out | apply below_alloc | apply pw_below_drewN | apply below_drew1 | refine below_set ?_ GE115.out) | exact HB.out)⟩
 ·
  rw [if_neg c4] at H; have c4b0 : (t116 == 0) = false := beq_eq_false_iff_ne.mpr c4; have c4b1 : (t116 != 0) = true := bne_iff_ne.mpr c4; simp only [Option.some.injEq, Prod.mk.injEq] at H; obtain ⟨rfl, rfl, rfl, rfl, rfl⟩ := H; go_enter Tryd.func12, Tryd.ntmps12
  go_wp2_with (first | ((with_reducible refine gate_dst (N := 4) rfl ?_); refine box_event ?hg (N := 4) ?hd (cs := #[.string (⟨#[]⟩ : ByteArray), .int .i64 0, .slice none 0 0, .int .i64 0]) (t := 27) ?hr ?_; (case hd => rfl); (case hg => rfl); (case hr => first | (go_simp; done) | (go_simp; rfl)); intro gb115 hg w22 hbox hb; have n0_ := Aside0.mk (below_step (by repeat (first | (with_reducible first | exact HB.out | apply below_alloc | apply pw_below_drewN | apply below_drew1) | exact HB.out)) hb); have n1_ := Aside0.mk (hbox); have n2_ := Aside0.mk ((by rw [hg]; exact (below_size (by repeat (first | (with_reducible first | exact HB.out | apply below_alloc | apply pw_below_drewN | apply below_drew1) | exact HB.out))) : w.heap.size ≤ gb115)); have n3_ := Aside0.mk ((by rw [hg]; exact (below_size (by repeat (first | (with_reducible first | exact HB.out | apply below_alloc | apply pw_below_drewN | apply below_drew1) | exact HB.out))) : w.heap.size ≤ gb115)); clear HB; have HB := n0_; have BK115 := n1_; have GW115 := n2_; have GE115 := n3_; clear n0_ n1_ n2_ n3_; clear hb hbox hg) | ((with_reducible refine gate_callee (f := 16) rfl ?_); refine goesL_ (some 10) rfl rfl Tryd.func16 (by kernel_rfl) rfl #[.slice A0 l0.length c0] rfl (by (try simp only [List.map_toArray, List.map_cons, List.map_nil]); first | done | rfl | (simp only [List.length_drop, List.length_take]; rfl)) ?_; (with_reducible refine (cask_List.calls k _ _ l0 t116 _ ?side1 ?side2 A3.out).mono ?_); (case side1 => repeat (first | exact (Kd.C_below HR0.out HB.out) | (with_reducible refine Kd.C_alloc ?_ _) | (with_reducible refine Kd.C_drewN ?_ _) | (with_reducible refine Kd.C_drew ?_))); (case side2 => exact HC0.out); rintro e w23 ⟨rfl, hb⟩; refine ⟨_, rfl, ?_⟩; have n0_ := Aside0.mk (blk_below (g := gb115) (o := .cells #[.string (⟨#[]⟩ : ByteArray), .int .i64 0, .slice none 0 0, .int .i64 0] 27 (0, 0)) (by (with_reducible repeat (first | refine blk_drewN ?_ _ | refine blk_drew ?_ | refine blk_alloc ?_ _)); exact BK115.out) hb); have n1_ := Aside0.mk (below_step (by repeat (first | (with_reducible first | exact HB.out | apply below_alloc | apply pw_below_drewN | apply below_drew1 | refine below_set ?_ GE115.out) | exact HB.out)) hb); clear BK115; clear HB; have BK115 := n0_; have HB := n1_; clear n0_ n1_; (try clear hb); (try clear hb2); (try clear hk); (try clear hi); have hcz24_0 : w23.cell? ⟨gb115, 0, none⟩ = some (.string (⟨#[]⟩ : ByteArray)) := (blk_cell BK115.out 0).trans rfl; have hcz24_1 : w23.cell? ⟨gb115, 1, none⟩ = some (.int .i64 0) := (blk_cell BK115.out 1).trans rfl; have hcz24_2 : w23.cell? ⟨gb115, 2, none⟩ = some (.slice none 0 0) := (blk_cell BK115.out 2).trans rfl; have hcz24_3 : w23.cell? ⟨gb115, 3, none⟩ = some (.int .i64 0) := (blk_cell BK115.out 3).trans rfl; have hfz24_0 := blk_frozen BK115.out 0; have hfz24_1 := blk_frozen BK115.out 1; have hfz24_2 := blk_frozen BK115.out 2; have hfz24_3 := blk_frozen BK115.out 3))
  refine bodyPost_ret (results_ct rfl _ _ gb115 27 #[.string (⟨#[]⟩ : ByteArray), .int .i64 0, .slice none 0 0, .int .i64 0] (0, 0) _ rfl (by (with_reducible repeat (first | refine blk_drewN ?_ _ | refine blk_drew ?_ | refine blk_alloc ?_ _)); refine blk_put (cs := #[.string (⟨#[]⟩ : ByteArray), .int .i64 0, .slice none 0 0, .int .i64 0]) ?_ 3 _ rfl; (with_reducible repeat (first | refine blk_drewN ?_ _ | refine blk_drew ?_ | refine blk_alloc ?_ _)); refine blk_put (cs := #[.string (⟨#[]⟩ : ByteArray), .int .i64 0, .slice none 0 0, .int .i64 0]) ?_ 2 _ rfl; (with_reducible repeat (first | refine blk_drewN ?_ _ | refine blk_drew ?_ | refine blk_alloc ?_ _)); refine blk_put (cs := #[.string (⟨#[]⟩ : ByteArray), .int .i64 0, .slice none 0 0, .int .i64 0]) ?_ 1 _ rfl; (with_reducible repeat (first | refine blk_drewN ?_ _ | refine blk_drew ?_ | refine blk_alloc ?_ _)); refine blk_put (cs := #[.string (⟨#[]⟩ : ByteArray), .int .i64 0, .slice none 0 0, .int .i64 0]) ?_ 0 _ rfl; (with_reducible repeat (first | refine blk_drewN ?_ _ | refine blk_drew ?_ | refine blk_alloc ?_ _)); exact BK115.out) Tryd.underlying27 rfl (by kernel_rfl)) rfl ?_; exact ⟨_, by first | rfl | (simp [errW_none, errW_some] <;> rfl) | (simp [*, errW_none, errW_some] <;> rfl), by first | exact Kd.R_nil _ _ _ _ _ | exact Kd.N_nil _ _ _ _ _ | exact Kd.V_nil _ _ _ _ _ | exact Kd.Q_nil _ _ _ _ _ | exact Kd.S_nil _ _ _ _ _, by repeat (first | (with_reducible first | exact HB.out | apply below_alloc | apply pw_below_drewN | apply below_drew1 | refine below_set ?_ GE115.out) | exact HB.out)⟩
def spileref08_Same.l0 : Nat → List (S46) → List (S46) → Int → Option (Bool)
 | 0, _, _, _ => none
 | k + 1, x0, x1, x5 => if x5 < (x0.length : Int) then (if 0 ≤ x5 then (if x5 < (x1.length : Int) then (if (!(((rd_T46 x0 x5).f0) == ((rd_T46 x1 x5).f0)) || (!(((rd_T46 x0 x5).f1) == ((rd_T46 x1 x5).f1)))) = true then (some false) else (spileref08_Same.l0 k x0 x1 (wrap64 (x5 + 1)))) else (none)) else (none)) else (some true)
def spileref08_Same.f (k : Nat) (l0 : List (S46)) (l1 : List (S46)) : Option (Bool) := if (l0.length : Int) = (l1.length : Int) then (spileref08_Same.l0 k l0 l1 0) else (some false)
set_option maxHeartbeats 8000000 in
set_option maxRecDepth 100000 in
theorem spileref08_Same.calls (k : Nat) (A0 : Option Addr) (c0 : Nat) (l0 : List (S46)) (A1 : Option Addr) (c1 : Nat) (l1 : List (S46)) (r : Bool) (w : World) (hr0 : Kd.C k46 w A0 l0.length l0) (hc0 : l0.length ≤ c0) (hr1 : Kd.C k46 w A1 l1.length l1) (hc1 : l1.length ≤ c1) (h : spileref08_Same.f k l0 l1 = some r) :
  Calls Tryd.prog 34 #[.slice A0 l0.length c0, .slice A1 l1.length c1] w fun e w' => e = .returned (.bool r) ∧ Drawn0 w w' := by
 have hu46 := Tryd.underlying46; have HR0 := Aside0.mk hr0; have HC0 := Aside0.mk hc0; clear hr0 hc0; have HR1 := Aside0.mk hr1; have HC1 := Aside0.mk hc1; clear hr1 hc1; have H : (if (l0.length : Int) = (l1.length : Int) then (spileref08_Same.l0 k l0 l1 0) else (some false)) = some r := h; clear h; by_cases c3 : (l0.length : Int) = (l1.length : Int)
 ·
  rw [if_pos c3] at H; have c3b0 : ((l0.length : Int) == (l1.length : Int)) = true := beq_iff_eq.mpr c3; have c3b1 : ((l0.length : Int) != (l1.length : Int)) = false := bne_eq_false_iff_eq.mpr c3; have c3b2 : (l0.length == l1.length) = true := by first | simpa using c3 | (simp at c3 ⊢; omega)
  clear c3; have H' := Aside0.mk H; clear H; go_enter Tryd.func34, Tryd.ntmps34
  go_wp2; repeat (go_quiet (fail); try go_wp2)
  go_loopg [5] k (fun kq v5 w' => ∃ (x5_1 : Int), v5 = .int .i64 x5_1 ∧ Aside0 (spileref08_Same.l0 kq l0 l1 x5_1 = some r) ∧ Aside0 (kq ≤ k) ∧ Drawn0 w w')
  case atStart => exact ⟨(0), (by first | rfl | (simp; done) | (simp [*]; done)), H', ⟨Nat.le_refl _⟩, by repeat (first | exact Drawn0.refl _ | apply Drawn0.step)⟩
  case round =>
   clear H'; try clear c1
   try clear p2
   try clear c3
   try clear c3b0
   try clear c3b1
   try clear c3b2
   obtain ⟨x5_1, rfl, HA, HK1, ⟨m1, rfl⟩⟩ := hrel
   cases gk with
   | zero => exact absurd HA.out (by simp [spileref08_Same.l0])
   | succ k1 =>
    have H := HA.out; clear HA; simp only [spileref08_Same.l0] at H; by_cases c4 : x5_1 < (l0.length : Int)
    ·
     rw [if_pos c4] at H; have c4b0 : decide (x5_1 < (l0.length : Int)) = true := decide_eq_true c4; clear c4; by_cases c5 : 0 ≤ x5_1
     ·
      rw [if_pos c5] at H; have c5b0 : decide (0 ≤ x5_1) = true := decide_eq_true c5; clear c5; by_cases c6 : x5_1 < (l1.length : Int)
      ·
       rw [if_pos c6] at H; have c6b0 : decide (x5_1 < (l1.length : Int)) = true := decide_eq_true c6; clear c6; by_cases c7 : (!(((rd_T46 l0 x5_1).f0) == ((rd_T46 l1 x5_1).f0)) || (!(((rd_T46 l0 x5_1).f1) == ((rd_T46 l1 x5_1).f1)))) = true
       ·
        rw [if_pos c7] at H; have c7b0 : (!(((rd_T46 l0 x5_1).f0) == ((rd_T46 l1 x5_1).f0)) || (!(((rd_T46 l0 x5_1).f1) == ((rd_T46 l1 x5_1).f1)))) = true := c7; clear c7; obtain rfl := Option.some.inj H; have p125 : 0 ≤ (x5_1 : Int) := of_decide_eq_true (by first | (with_reducible assumption) | assumption); have q125 : x5_1 < (l0.length : Int) := of_decide_eq_true (by first | (with_reducible assumption) | assumption); obtain ⟨ad125, e125, hx125_0, hx125_1⟩ := at_T46 HR0.out x5_1 p125 q125; cases e125; replace p125 := eq_true p125; replace q125 := eq_true q125; have p126 : 0 ≤ (x5_1 : Int) := of_decide_eq_true (by first | (with_reducible assumption) | assumption); have q126 : x5_1 < (l1.length : Int) := of_decide_eq_true (by first | (with_reducible assumption) | assumption); obtain ⟨ad126, e126, hx126_0, hx126_1⟩ := at_T46 HR1.out x5_1 p126 q126; cases e126; replace p126 := eq_true p126; replace q126 := eq_true q126; go_wp2; repeat (go_quiet (fail); try go_wp2)
        go_ret
        exact ⟨by first | rfl | (simp; done) | (simp [*]; done), by repeat (first | exact Drawn0.refl _ | apply Drawn0.step)⟩
       ·
        rw [if_neg c7] at H; have c7b0 : (!(((rd_T46 l0 x5_1).f0) == ((rd_T46 l1 x5_1).f0)) || (!(((rd_T46 l0 x5_1).f1) == ((rd_T46 l1 x5_1).f1)))) = false := by simpa using c7
        clear c7; have H' := Aside0.mk H; clear H; have p125 : 0 ≤ (x5_1 : Int) := of_decide_eq_true (by first | (with_reducible assumption) | assumption); have q125 : x5_1 < (l0.length : Int) := of_decide_eq_true (by first | (with_reducible assumption) | assumption); obtain ⟨ad125, e125, hx125_0, hx125_1⟩ := at_T46 HR0.out x5_1 p125 q125; cases e125; replace p125 := eq_true p125; replace q125 := eq_true q125; have p126 : 0 ≤ (x5_1 : Int) := of_decide_eq_true (by first | (with_reducible assumption) | assumption); have q126 : x5_1 < (l1.length : Int) := of_decide_eq_true (by first | (with_reducible assumption) | assumption); obtain ⟨ad126, e126, hx126_0, hx126_1⟩ := at_T46 HR1.out x5_1 p126 q126; cases e126; replace p126 := eq_true p126; replace q126 := eq_true q126; go_wp2; repeat (go_quiet (fail); try go_wp2)
        go_roundg k1
        case measure => have := HK1.out; omega
        case rel => exact ⟨(wrap64 (x5_1 + 1)), (by first | rfl | (simp; done) | (simp [*]; done)), H', ⟨by have := HK1.out; omega⟩, by repeat (first | exact Drawn0.refl _ | apply Drawn0.step)⟩
      · rw [if_neg c6] at H; exact absurd H (by simp)
     · rw [if_neg c5] at H; exact absurd H (by simp)
    ·
     rw [if_neg c4] at H; have c4b0 : decide (x5_1 < (l0.length : Int)) = false := decide_eq_false c4; clear c4; obtain rfl := Option.some.inj H; go_wp2; repeat (go_quiet (fail); try go_wp2)
     go_ret
     exact ⟨by first | rfl | (simp; done) | (simp [*]; done), by repeat (first | exact Drawn0.refl _ | apply Drawn0.step)⟩
 ·
  rw [if_neg c3] at H; have c3b0 : ((l0.length : Int) == (l1.length : Int)) = false := beq_eq_false_iff_ne.mpr c3; have c3b1 : ((l0.length : Int) != (l1.length : Int)) = true := bne_iff_ne.mpr c3; have c3b2 : (l0.length == l1.length) = false := by first | simpa using c3 | (simp at c3 ⊢; omega)
  obtain rfl := Option.some.inj H; go_enter Tryd.func34, Tryd.ntmps34
  go_wp2; repeat (go_quiet (fail); try go_wp2)
  go_ret
  exact ⟨by first | rfl | (simp; done) | (simp [*]; done), by repeat (first | exact Drawn0.refl _ | apply Drawn0.step)⟩
def spileref09_SameCask.f (k : Nat) (a0_0 : ByteArray) (a0_1 : Int) (l0_2 : List (S46)) (a0_3 : Int) (a1_0 : ByteArray) (a1_1 : Int) (l1_2 : List (S46)) (a1_3 : Int) : Option (Bool) := if a0_0.toList = a1_0.toList then (if a0_1 = a1_1 then (if a0_3 = a1_3 then ((spileref08_Same.f k l0_2 l1_2).bind fun t129 => (some t129)) else (some false)) else (some false)) else (some false)
set_option maxHeartbeats 8000000 in
set_option maxRecDepth 100000 in
theorem spileref09_SameCask.calls (k : Nat) (a0_0 : ByteArray) (a0_1 : Int) (A0_2 : Option Addr) (c0_2 : Nat) (l0_2 : List (S46)) (a0_3 : Int) (a1_0 : ByteArray) (a1_1 : Int) (A1_2 : Option Addr) (c1_2 : Nat) (l1_2 : List (S46)) (a1_3 : Int) (r : Bool) (w : World) (hr0_2 : Kd.C k46 w A0_2 l0_2.length l0_2) (hc0_2 : l0_2.length ≤ c0_2) (hr1_2 : Kd.C k46 w A1_2 l1_2.length l1_2) (hc1_2 : l1_2.length ≤ c1_2) (h : spileref09_SameCask.f k a0_0 a0_1 l0_2 a0_3 a1_0 a1_1 l1_2 a1_3 = some r) :
  Calls Tryd.prog 15 #[.agg #[.string a0_0, .int .i64 a0_1, .slice A0_2 l0_2.length c0_2, .int .i64 a0_3], .agg #[.string a1_0, .int .i64 a1_1, .slice A1_2 l1_2.length c1_2, .int .i64 a1_3]] w fun e w' => e = .returned (.bool r) ∧ Below w.heap.size w w' := by
 have hu27 := Tryd.underlying27; have HR0_2 := Aside0.mk hr0_2; have HC0_2 := Aside0.mk hc0_2; clear hr0_2 hc0_2; have HR1_2 := Aside0.mk hr1_2; have HC1_2 := Aside0.mk hc1_2; clear hr1_2 hc1_2; have HB := Aside0.mk (Below.refl w.heap.size w); have H : (if a0_0.toList = a1_0.toList then (if a0_1 = a1_1 then (if a0_3 = a1_3 then ((spileref08_Same.f k l0_2 l1_2).bind fun t129 => (some t129)) else (some false)) else (some false)) else (some false)) = some r := h; clear h; by_cases c3 : a0_0.toList = a1_0.toList
 ·
  rw [if_pos c3] at H; have c3b0 : (a0_0.toList == a1_0.toList) = true := beq_iff_eq.mpr c3; have c3b1 : (a0_0.toList != a1_0.toList) = false := bne_eq_false_iff_eq.mpr c3; clear c3; by_cases c4 : a0_1 = a1_1
  ·
   rw [if_pos c4] at H; have c4b0 : (a0_1 == a1_1) = true := beq_iff_eq.mpr c4; have c4b1 : (a0_1 != a1_1) = false := bne_eq_false_iff_eq.mpr c4; clear c4; by_cases c5 : a0_3 = a1_3
   ·
    rw [if_pos c5] at H; have c5b0 : (a0_3 == a1_3) = true := beq_iff_eq.mpr c5; have c5b1 : (a0_3 != a1_3) = false := bne_eq_false_iff_eq.mpr c5; clear c5; replace H := Option.bind_eq_some_iff.mp H; obtain ⟨t129, A60, H⟩ := H; replace H : (some t129) = some r := H; have A6 := Aside0.mk A60; clear A60; obtain rfl := Option.some.inj H; go_enter Tryd.func15, Tryd.ntmps15
    go_wp2_with (first | ((with_reducible refine gate_dst (N := 2) rfl ?_); refine box_event ?hg (N := 2) ?hd (cs := #[.string a0_0, .int .i64 a0_1, .slice A0_2 l0_2.length c0_2, .int .i64 a0_3]) (t := 27) ?hr ?_; (case hd => rfl); (case hg => rfl); (case hr => first | (go_simp; done) | (go_simp; rfl)); intro gb127 hg w7 hbox hb; have n0_ := Aside0.mk (below_step (by repeat (first | (with_reducible first | exact HB.out | apply below_alloc | apply pw_below_drewN | apply below_drew1) | exact HB.out)) hb); have n1_ := Aside0.mk (hbox); have n2_ := Aside0.mk ((by rw [hg]; exact (below_size (by repeat (first | (with_reducible first | exact HB.out | apply below_alloc | apply pw_below_drewN | apply below_drew1) | exact HB.out))) : w.heap.size ≤ gb127)); have n3_ := Aside0.mk ((by rw [hg]; exact (below_size (by repeat (first | (with_reducible first | exact HB.out | apply below_alloc | apply pw_below_drewN | apply below_drew1) | exact HB.out))) : w.heap.size ≤ gb127)); clear HB; have HB := n0_; have BK127 := n1_; have GW127 := n2_; have GE127 := n3_; clear n0_ n1_ n2_ n3_; clear hb hbox hg) | ((with_reducible refine gate_dst (N := 3) rfl ?_); refine box_event ?hg (N := 3) ?hd (cs := #[.string a1_0, .int .i64 a1_1, .slice A1_2 l1_2.length c1_2, .int .i64 a1_3]) (t := 27) ?hr ?_; (case hd => rfl); (case hg => rfl); (case hr => first | (go_simp; done) | (go_simp; rfl)); intro gb128 hg w8 hbox hb; have n0_ := Aside0.mk (blk_below (g := gb127) (o := .cells #[.string a0_0, .int .i64 a0_1, .slice A0_2 l0_2.length c0_2, .int .i64 a0_3] 27 (0, 0)) (by (with_reducible repeat (first | refine blk_drewN ?_ _ | refine blk_drew ?_ | refine blk_alloc ?_ _)); exact BK127.out) hb); have n1_ := Aside0.mk (below_step (by repeat (first | (with_reducible first | exact HB.out | apply below_alloc | apply pw_below_drewN | apply below_drew1 | refine below_set ?_ GE127.out) | exact HB.out)) hb); have n2_ := Aside0.mk (hbox); have n3_ := Aside0.mk ((by rw [hg]; exact (below_size (by repeat (first | (with_reducible first | exact HB.out | apply below_alloc | apply pw_below_drewN | apply below_drew1 | refine below_set ?_ GE127.out) | exact HB.out))) : w.heap.size ≤ gb128)); have n4_ := Aside0.mk ((by rw [hg]; exact (below_size (by repeat (first | (with_reducible first | exact HB.out | apply below_alloc | apply pw_below_drewN | apply below_drew1 | refine below_set ?_ GE127.out) | exact HB.out))) : w.heap.size ≤ gb128)); have n5_ := Aside0.mk ((by rw [hg]; exact Nat.ne_of_lt (blk_lt (g := gb127) (o := .cells #[.string a0_0, .int .i64 a0_1, .slice A0_2 l0_2.length c0_2, .int .i64 a0_3] 27 (0, 0)) (by (with_reducible repeat (first | refine blk_drewN ?_ _ | refine blk_drew ?_ | refine blk_alloc ?_ _)); exact BK127.out)) : gb127 ≠ gb128)); have n6_ := Aside0.mk ((by rw [hg]; exact Nat.ne_of_gt (blk_lt (g := gb127) (o := .cells #[.string a0_0, .int .i64 a0_1, .slice A0_2 l0_2.length c0_2, .int .i64 a0_3] 27 (0, 0)) (by (with_reducible repeat (first | refine blk_drewN ?_ _ | refine blk_drew ?_ | refine blk_alloc ?_ _)); exact BK127.out)) : gb128 ≠ gb127)); clear BK127; clear HB; have BK127 := n0_; have HB := n1_; have BK128 := n2_; have GW128 := n3_; have GE128 := n4_; have NB127_128 := n5_; have NB128_127 := n6_; clear n0_ n1_ n2_ n3_ n4_ n5_ n6_; clear hb hbox hg; have hnb9 := NB127_128.out; have hnc9 := NB128_127.out; have hcz10_0 : w8.cell? ⟨gb127, 0, none⟩ = some (.string a0_0) := (blk_cell BK127.out 0).trans rfl; have hcz10_1 : w8.cell? ⟨gb127, 1, none⟩ = some (.int .i64 a0_1) := (blk_cell BK127.out 1).trans rfl; have hcz10_2 : w8.cell? ⟨gb127, 2, none⟩ = some (.slice A0_2 l0_2.length c0_2) := (blk_cell BK127.out 2).trans rfl; have hcz10_3 : w8.cell? ⟨gb127, 3, none⟩ = some (.int .i64 a0_3) := (blk_cell BK127.out 3).trans rfl; have hfz10_0 := blk_frozen BK127.out 0; have hfz10_1 := blk_frozen BK127.out 1; have hfz10_2 := blk_frozen BK127.out 2; have hfz10_3 := blk_frozen BK127.out 3; have hcz11_0 : w8.cell? ⟨gb128, 0, none⟩ = some (.string a1_0) := (blk_cell BK128.out 0).trans rfl; have hcz11_1 : w8.cell? ⟨gb128, 1, none⟩ = some (.int .i64 a1_1) := (blk_cell BK128.out 1).trans rfl; have hcz11_2 : w8.cell? ⟨gb128, 2, none⟩ = some (.slice A1_2 l1_2.length c1_2) := (blk_cell BK128.out 2).trans rfl; have hcz11_3 : w8.cell? ⟨gb128, 3, none⟩ = some (.int .i64 a1_3) := (blk_cell BK128.out 3).trans rfl; have hfz11_0 := blk_frozen BK128.out 0; have hfz11_1 := blk_frozen BK128.out 1; have hfz11_2 := blk_frozen BK128.out 2; have hfz11_3 := blk_frozen BK128.out 3) | (go_at_call 34; (with_reducible refine (spileref08_Same.calls k _ _ l0_2 _ _ l1_2 t129 _ ?side1 ?side2 ?side3 ?side4 A6.out).mono ?_); (case side1 => repeat (first | exact (Kd.C_below HR0_2.out HB.out) | (with_reducible refine Kd.C_alloc ?_ _) | (with_reducible refine Kd.C_drewN ?_ _) | (with_reducible refine Kd.C_drew ?_))); (case side2 => exact HC0_2.out); (case side3 => repeat (first | exact (Kd.C_below HR1_2.out HB.out) | (with_reducible refine Kd.C_alloc ?_ _) | (with_reducible refine Kd.C_drewN ?_ _) | (with_reducible refine Kd.C_drew ?_))); (case side4 => exact HC1_2.out); rintro e w' ⟨rfl, ⟨nd, rfl⟩⟩))
    go_ret
    exact ⟨by first | rfl | (simp [errW_none, errW_some] <;> rfl) | (simp [*, errW_none, errW_some] <;> rfl), by repeat (first | (with_reducible first | exact HB.out | apply below_alloc | apply pw_below_drewN | apply below_drew1 | refine below_set ?_ GE127.out | refine below_set ?_ GE128.out) | exact HB.out)⟩
   ·
    rw [if_neg c5] at H; have c5b0 : (a0_3 == a1_3) = false := beq_eq_false_iff_ne.mpr c5; have c5b1 : (a0_3 != a1_3) = true := bne_iff_ne.mpr c5; obtain rfl := Option.some.inj H; go_enter Tryd.func15, Tryd.ntmps15
    go_wp2_with (first | ((with_reducible refine gate_dst (N := 2) rfl ?_); refine box_event ?hg (N := 2) ?hd (cs := #[.string a0_0, .int .i64 a0_1, .slice A0_2 l0_2.length c0_2, .int .i64 a0_3]) (t := 27) ?hr ?_; (case hd => rfl); (case hg => rfl); (case hr => first | (go_simp; done) | (go_simp; rfl)); intro gb127 hg w12 hbox hb; have n0_ := Aside0.mk (below_step (by repeat (first | (with_reducible first | exact HB.out | apply below_alloc | apply pw_below_drewN | apply below_drew1) | exact HB.out)) hb); have n1_ := Aside0.mk (hbox); have n2_ := Aside0.mk ((by rw [hg]; exact (below_size (by repeat (first | (with_reducible first | exact HB.out | apply below_alloc | apply pw_below_drewN | apply below_drew1) | exact HB.out))) : w.heap.size ≤ gb127)); have n3_ := Aside0.mk ((by rw [hg]; exact (below_size (by repeat (first | (with_reducible first | exact HB.out | apply below_alloc | apply pw_below_drewN | apply below_drew1) | exact HB.out))) : w.heap.size ≤ gb127)); clear HB; have HB := n0_; have BK127 := n1_; have GW127 := n2_; have GE127 := n3_; clear n0_ n1_ n2_ n3_; clear hb hbox hg) | ((with_reducible refine gate_dst (N := 3) rfl ?_); refine box_event ?hg (N := 3) ?hd (cs := #[.string a1_0, .int .i64 a1_1, .slice A1_2 l1_2.length c1_2, .int .i64 a1_3]) (t := 27) ?hr ?_; (case hd => rfl); (case hg => rfl); (case hr => first | (go_simp; done) | (go_simp; rfl)); intro gb128 hg w13 hbox hb; have n0_ := Aside0.mk (blk_below (g := gb127) (o := .cells #[.string a0_0, .int .i64 a0_1, .slice A0_2 l0_2.length c0_2, .int .i64 a0_3] 27 (0, 0)) (by (with_reducible repeat (first | refine blk_drewN ?_ _ | refine blk_drew ?_ | refine blk_alloc ?_ _)); exact BK127.out) hb); have n1_ := Aside0.mk (below_step (by repeat (first | (with_reducible first | exact HB.out | apply below_alloc | apply pw_below_drewN | apply below_drew1 | refine below_set ?_ GE127.out) | exact HB.out)) hb); have n2_ := Aside0.mk (hbox); have n3_ := Aside0.mk ((by rw [hg]; exact (below_size (by repeat (first | (with_reducible first | exact HB.out | apply below_alloc | apply pw_below_drewN | apply below_drew1 | refine below_set ?_ GE127.out) | exact HB.out))) : w.heap.size ≤ gb128)); have n4_ := Aside0.mk ((by rw [hg]; exact (below_size (by repeat (first | (with_reducible first | exact HB.out | apply below_alloc | apply pw_below_drewN | apply below_drew1 | refine below_set ?_ GE127.out) | exact HB.out))) : w.heap.size ≤ gb128)); have n5_ := Aside0.mk ((by rw [hg]; exact Nat.ne_of_lt (blk_lt (g := gb127) (o := .cells #[.string a0_0, .int .i64 a0_1, .slice A0_2 l0_2.length c0_2, .int .i64 a0_3] 27 (0, 0)) (by (with_reducible repeat (first | refine blk_drewN ?_ _ | refine blk_drew ?_ | refine blk_alloc ?_ _)); exact BK127.out)) : gb127 ≠ gb128)); have n6_ := Aside0.mk ((by rw [hg]; exact Nat.ne_of_gt (blk_lt (g := gb127) (o := .cells #[.string a0_0, .int .i64 a0_1, .slice A0_2 l0_2.length c0_2, .int .i64 a0_3] 27 (0, 0)) (by (with_reducible repeat (first | refine blk_drewN ?_ _ | refine blk_drew ?_ | refine blk_alloc ?_ _)); exact BK127.out)) : gb128 ≠ gb127)); clear BK127; clear HB; have BK127 := n0_; have HB := n1_; have BK128 := n2_; have GW128 := n3_; have GE128 := n4_; have NB127_128 := n5_; have NB128_127 := n6_; clear n0_ n1_ n2_ n3_ n4_ n5_ n6_; clear hb hbox hg; have hnb14 := NB127_128.out; have hnc14 := NB128_127.out; have hcz15_0 : w13.cell? ⟨gb127, 0, none⟩ = some (.string a0_0) := (blk_cell BK127.out 0).trans rfl; have hcz15_1 : w13.cell? ⟨gb127, 1, none⟩ = some (.int .i64 a0_1) := (blk_cell BK127.out 1).trans rfl; have hcz15_2 : w13.cell? ⟨gb127, 2, none⟩ = some (.slice A0_2 l0_2.length c0_2) := (blk_cell BK127.out 2).trans rfl; have hcz15_3 : w13.cell? ⟨gb127, 3, none⟩ = some (.int .i64 a0_3) := (blk_cell BK127.out 3).trans rfl; have hfz15_0 := blk_frozen BK127.out 0; have hfz15_1 := blk_frozen BK127.out 1; have hfz15_2 := blk_frozen BK127.out 2; have hfz15_3 := blk_frozen BK127.out 3; have hcz16_0 : w13.cell? ⟨gb128, 0, none⟩ = some (.string a1_0) := (blk_cell BK128.out 0).trans rfl; have hcz16_1 : w13.cell? ⟨gb128, 1, none⟩ = some (.int .i64 a1_1) := (blk_cell BK128.out 1).trans rfl; have hcz16_2 : w13.cell? ⟨gb128, 2, none⟩ = some (.slice A1_2 l1_2.length c1_2) := (blk_cell BK128.out 2).trans rfl; have hcz16_3 : w13.cell? ⟨gb128, 3, none⟩ = some (.int .i64 a1_3) := (blk_cell BK128.out 3).trans rfl; have hfz16_0 := blk_frozen BK128.out 0; have hfz16_1 := blk_frozen BK128.out 1; have hfz16_2 := blk_frozen BK128.out 2; have hfz16_3 := blk_frozen BK128.out 3))
    go_ret
    exact ⟨by first | rfl | (simp [errW_none, errW_some] <;> rfl) | (simp [*, errW_none, errW_some] <;> rfl), by repeat (first | (with_reducible first | exact HB.out | apply below_alloc | apply pw_below_drewN | apply below_drew1 | refine below_set ?_ GE127.out | refine below_set ?_ GE128.out) | exact HB.out)⟩
  ·
   rw [if_neg c4] at H; have c4b0 : (a0_1 == a1_1) = false := beq_eq_false_iff_ne.mpr c4; have c4b1 : (a0_1 != a1_1) = true := bne_iff_ne.mpr c4; obtain rfl := Option.some.inj H; go_enter Tryd.func15, Tryd.ntmps15
   go_wp2_with (first | ((with_reducible refine gate_dst (N := 2) rfl ?_); refine box_event ?hg (N := 2) ?hd (cs := #[.string a0_0, .int .i64 a0_1, .slice A0_2 l0_2.length c0_2, .int .i64 a0_3]) (t := 27) ?hr ?_; (case hd => rfl); (case hg => rfl); (case hr => first | (go_simp; done) | (go_simp; rfl)); intro gb127 hg w17 hbox hb; have n0_ := Aside0.mk (below_step (by repeat (first | (with_reducible first | exact HB.out | apply below_alloc | apply pw_below_drewN | apply below_drew1) | exact HB.out)) hb); have n1_ := Aside0.mk (hbox); have n2_ := Aside0.mk ((by rw [hg]; exact (below_size (by repeat (first | (with_reducible first | exact HB.out | apply below_alloc | apply pw_below_drewN | apply below_drew1) | exact HB.out))) : w.heap.size ≤ gb127)); have n3_ := Aside0.mk ((by rw [hg]; exact (below_size (by repeat (first | (with_reducible first | exact HB.out | apply below_alloc | apply pw_below_drewN | apply below_drew1) | exact HB.out))) : w.heap.size ≤ gb127)); clear HB; have HB := n0_; have BK127 := n1_; have GW127 := n2_; have GE127 := n3_; clear n0_ n1_ n2_ n3_; clear hb hbox hg) | ((with_reducible refine gate_dst (N := 3) rfl ?_); refine box_event ?hg (N := 3) ?hd (cs := #[.string a1_0, .int .i64 a1_1, .slice A1_2 l1_2.length c1_2, .int .i64 a1_3]) (t := 27) ?hr ?_; (case hd => rfl); (case hg => rfl); (case hr => first | (go_simp; done) | (go_simp; rfl)); intro gb128 hg w18 hbox hb; have n0_ := Aside0.mk (blk_below (g := gb127) (o := .cells #[.string a0_0, .int .i64 a0_1, .slice A0_2 l0_2.length c0_2, .int .i64 a0_3] 27 (0, 0)) (by (with_reducible repeat (first | refine blk_drewN ?_ _ | refine blk_drew ?_ | refine blk_alloc ?_ _)); exact BK127.out) hb); have n1_ := Aside0.mk (below_step (by repeat (first | (with_reducible first | exact HB.out | apply below_alloc | apply pw_below_drewN | apply below_drew1 | refine below_set ?_ GE127.out) | exact HB.out)) hb); have n2_ := Aside0.mk (hbox); have n3_ := Aside0.mk ((by rw [hg]; exact (below_size (by repeat (first | (with_reducible first | exact HB.out | apply below_alloc | apply pw_below_drewN | apply below_drew1 | refine below_set ?_ GE127.out) | exact HB.out))) : w.heap.size ≤ gb128)); have n4_ := Aside0.mk ((by rw [hg]; exact (below_size (by repeat (first | (with_reducible first | exact HB.out | apply below_alloc | apply pw_below_drewN | apply below_drew1 | refine below_set ?_ GE127.out) | exact HB.out))) : w.heap.size ≤ gb128)); have n5_ := Aside0.mk ((by rw [hg]; exact Nat.ne_of_lt (blk_lt (g := gb127) (o := .cells #[.string a0_0, .int .i64 a0_1, .slice A0_2 l0_2.length c0_2, .int .i64 a0_3] 27 (0, 0)) (by (with_reducible repeat (first | refine blk_drewN ?_ _ | refine blk_drew ?_ | refine blk_alloc ?_ _)); exact BK127.out)) : gb127 ≠ gb128)); have n6_ := Aside0.mk ((by rw [hg]; exact Nat.ne_of_gt (blk_lt (g := gb127) (o := .cells #[.string a0_0, .int .i64 a0_1, .slice A0_2 l0_2.length c0_2, .int .i64 a0_3] 27 (0, 0)) (by (with_reducible repeat (first | refine blk_drewN ?_ _ | refine blk_drew ?_ | refine blk_alloc ?_ _)); exact BK127.out)) : gb128 ≠ gb127)); clear BK127; clear HB; have BK127 := n0_; have HB := n1_; have BK128 := n2_; have GW128 := n3_; have GE128 := n4_; have NB127_128 := n5_; have NB128_127 := n6_; clear n0_ n1_ n2_ n3_ n4_ n5_ n6_; clear hb hbox hg; have hnb19 := NB127_128.out; have hnc19 := NB128_127.out; have hcz20_0 : w18.cell? ⟨gb127, 0, none⟩ = some (.string a0_0) := (blk_cell BK127.out 0).trans rfl; have hcz20_1 : w18.cell? ⟨gb127, 1, none⟩ = some (.int .i64 a0_1) := (blk_cell BK127.out 1).trans rfl; have hcz20_2 : w18.cell? ⟨gb127, 2, none⟩ = some (.slice A0_2 l0_2.length c0_2) := (blk_cell BK127.out 2).trans rfl; have hcz20_3 : w18.cell? ⟨gb127, 3, none⟩ = some (.int .i64 a0_3) := (blk_cell BK127.out 3).trans rfl; have hfz20_0 := blk_frozen BK127.out 0; have hfz20_1 := blk_frozen BK127.out 1; have hfz20_2 := blk_frozen BK127.out 2; have hfz20_3 := blk_frozen BK127.out 3; have hcz21_0 : w18.cell? ⟨gb128, 0, none⟩ = some (.string a1_0) := (blk_cell BK128.out 0).trans rfl; have hcz21_1 : w18.cell? ⟨gb128, 1, none⟩ = some (.int .i64 a1_1) := (blk_cell BK128.out 1).trans rfl; have hcz21_2 : w18.cell? ⟨gb128, 2, none⟩ = some (.slice A1_2 l1_2.length c1_2) := (blk_cell BK128.out 2).trans rfl; have hcz21_3 : w18.cell? ⟨gb128, 3, none⟩ = some (.int .i64 a1_3) := (blk_cell BK128.out 3).trans rfl; have hfz21_0 := blk_frozen BK128.out 0; have hfz21_1 := blk_frozen BK128.out 1; have hfz21_2 := blk_frozen BK128.out 2; have hfz21_3 := blk_frozen BK128.out 3))
   go_ret
   exact ⟨by first | rfl | (simp [errW_none, errW_some] <;> rfl) | (simp [*, errW_none, errW_some] <;> rfl), by repeat (first | (with_reducible first | exact HB.out | apply below_alloc | apply pw_below_drewN | apply below_drew1 | refine below_set ?_ GE127.out | refine below_set ?_ GE128.out) | exact HB.out)⟩
 ·
  rw [if_neg c3] at H; have c3b0 : (a0_0.toList == a1_0.toList) = false := beq_eq_false_iff_ne.mpr c3; have c3b1 : (a0_0.toList != a1_0.toList) = true := bne_iff_ne.mpr c3; obtain rfl := Option.some.inj H; go_enter Tryd.func15, Tryd.ntmps15
  go_wp2_with (first | ((with_reducible refine gate_dst (N := 2) rfl ?_); refine box_event ?hg (N := 2) ?hd (cs := #[.string a0_0, .int .i64 a0_1, .slice A0_2 l0_2.length c0_2, .int .i64 a0_3]) (t := 27) ?hr ?_; (case hd => rfl); (case hg => rfl); (case hr => first | (go_simp; done) | (go_simp; rfl)); intro gb127 hg w22 hbox hb; have n0_ := Aside0.mk (below_step (by repeat (first | (with_reducible first | exact HB.out | apply below_alloc | apply pw_below_drewN | apply below_drew1) | exact HB.out)) hb); have n1_ := Aside0.mk (hbox); have n2_ := Aside0.mk ((by rw [hg]; exact (below_size (by repeat (first | (with_reducible first | exact HB.out | apply below_alloc | apply pw_below_drewN | apply below_drew1) | exact HB.out))) : w.heap.size ≤ gb127)); have n3_ := Aside0.mk ((by rw [hg]; exact (below_size (by repeat (first | (with_reducible first | exact HB.out | apply below_alloc | apply pw_below_drewN | apply below_drew1) | exact HB.out))) : w.heap.size ≤ gb127)); clear HB; have HB := n0_; have BK127 := n1_; have GW127 := n2_; have GE127 := n3_; clear n0_ n1_ n2_ n3_; clear hb hbox hg) | ((with_reducible refine gate_dst (N := 3) rfl ?_); refine box_event ?hg (N := 3) ?hd (cs := #[.string a1_0, .int .i64 a1_1, .slice A1_2 l1_2.length c1_2, .int .i64 a1_3]) (t := 27) ?hr ?_; (case hd => rfl); (case hg => rfl); (case hr => first | (go_simp; done) | (go_simp; rfl)); intro gb128 hg w23 hbox hb; have n0_ := Aside0.mk (blk_below (g := gb127) (o := .cells #[.string a0_0, .int .i64 a0_1, .slice A0_2 l0_2.length c0_2, .int .i64 a0_3] 27 (0, 0)) (by (with_reducible repeat (first | refine blk_drewN ?_ _ | refine blk_drew ?_ | refine blk_alloc ?_ _)); exact BK127.out) hb); have n1_ := Aside0.mk (below_step (by repeat (first | (with_reducible first | exact HB.out | apply below_alloc | apply pw_below_drewN | apply below_drew1 | refine below_set ?_ GE127.out) | exact HB.out)) hb); have n2_ := Aside0.mk (hbox); have n3_ := Aside0.mk ((by rw [hg]; exact (below_size (by repeat (first | (with_reducible first | exact HB.out | apply below_alloc | apply pw_below_drewN | apply below_drew1 | refine below_set ?_ GE127.out) | exact HB.out))) : w.heap.size ≤ gb128)); have n4_ := Aside0.mk ((by rw [hg]; exact (below_size (by repeat (first | (with_reducible first | exact HB.out | apply below_alloc | apply pw_below_drewN | apply below_drew1 | refine below_set ?_ GE127.out) | exact HB.out))) : w.heap.size ≤ gb128)); have n5_ := Aside0.mk ((by rw [hg]; exact Nat.ne_of_lt (blk_lt (g := gb127) (o := .cells #[.string a0_0, .int .i64 a0_1, .slice A0_2 l0_2.length c0_2, .int .i64 a0_3] 27 (0, 0)) (by (with_reducible repeat (first | refine blk_drewN ?_ _ | refine blk_drew ?_ | refine blk_alloc ?_ _)); exact BK127.out)) : gb127 ≠ gb128)); have n6_ := Aside0.mk ((by rw [hg]; exact Nat.ne_of_gt (blk_lt (g := gb127) (o := .cells #[.string a0_0, .int .i64 a0_1, .slice A0_2 l0_2.length c0_2, .int .i64 a0_3] 27 (0, 0)) (by (with_reducible repeat (first | refine blk_drewN ?_ _ | refine blk_drew ?_ | refine blk_alloc ?_ _)); exact BK127.out)) : gb128 ≠ gb127)); clear BK127; clear HB; have BK127 := n0_; have HB := n1_; have BK128 := n2_; have GW128 := n3_; have GE128 := n4_; have NB127_128 := n5_; have NB128_127 := n6_; clear n0_ n1_ n2_ n3_ n4_ n5_ n6_; clear hb hbox hg; have hnb24 := NB127_128.out; have hnc24 := NB128_127.out; have hcz25_0 : w23.cell? ⟨gb127, 0, none⟩ = some (.string a0_0) := (blk_cell BK127.out 0).trans rfl; have hcz25_1 : w23.cell? ⟨gb127, 1, none⟩ = some (.int .i64 a0_1) := (blk_cell BK127.out 1).trans rfl; have hcz25_2 : w23.cell? ⟨gb127, 2, none⟩ = some (.slice A0_2 l0_2.length c0_2) := (blk_cell BK127.out 2).trans rfl; have hcz25_3 : w23.cell? ⟨gb127, 3, none⟩ = some (.int .i64 a0_3) := (blk_cell BK127.out 3).trans rfl; have hfz25_0 := blk_frozen BK127.out 0; have hfz25_1 := blk_frozen BK127.out 1; have hfz25_2 := blk_frozen BK127.out 2; have hfz25_3 := blk_frozen BK127.out 3; have hcz26_0 : w23.cell? ⟨gb128, 0, none⟩ = some (.string a1_0) := (blk_cell BK128.out 0).trans rfl; have hcz26_1 : w23.cell? ⟨gb128, 1, none⟩ = some (.int .i64 a1_1) := (blk_cell BK128.out 1).trans rfl; have hcz26_2 : w23.cell? ⟨gb128, 2, none⟩ = some (.slice A1_2 l1_2.length c1_2) := (blk_cell BK128.out 2).trans rfl; have hcz26_3 : w23.cell? ⟨gb128, 3, none⟩ = some (.int .i64 a1_3) := (blk_cell BK128.out 3).trans rfl; have hfz26_0 := blk_frozen BK128.out 0; have hfz26_1 := blk_frozen BK128.out 1; have hfz26_2 := blk_frozen BK128.out 2; have hfz26_3 := blk_frozen BK128.out 3))
  go_ret
  exact ⟨by first | rfl | (simp [errW_none, errW_some] <;> rfl) | (simp [*, errW_none, errW_some] <;> rfl), by repeat (first | (with_reducible first | exact HB.out | apply below_alloc | apply pw_below_drewN | apply below_drew1 | refine below_set ?_ GE127.out | refine below_set ?_ GE128.out) | exact HB.out)⟩
def profile_Bung.l0 : Nat → List (S46) → Int → List (S46) → Int → Int → Option (Int × Int)
 | 0, _, _, _, _, _ => none
 | k + 1, x0, x5, x13, x14, x15 => if x15 < x14 then (if 0 ≤ x15 then (if x15 < (x13.length : Int) then (if 0 ≤ x5 then (if x5 < (x0.length : Int) then (if ((rd_T46 x13 x15).f1) > ((rd_T46 x0 x5).f1) then (profile_Bung.l0 k x0 x15 x13 x14 (wrap64 (x15 + 1))) else (profile_Bung.l0 k x0 x5 x13 x14 (wrap64 (x15 + 1)))) else (none)) else (none)) else (none)) else (none)) else (some (x5, 0))
def profile_Bung.f (k : Nat) (l0 : List (S46)) : Option (Int × Int) := (profile_Check.f k l0).bind fun t130 => (if t130 = 0 then (profile_Bung.l0 k l0 0 l0 (l0.length : Int) 0) else (some (0, t130)))
set_option maxHeartbeats 8000000 in
set_option maxRecDepth 100000 in
theorem profile_Bung.calls (k : Nat) (A0 : Option Addr) (c0 : Nat) (l0 : List (S46)) (r1 : Int) (r2 : Int) (w : World) (hr0 : Kd.C k46 w A0 l0.length l0) (hc0 : l0.length ≤ c0) (h : profile_Bung.f k l0 = some (r1, r2)) :
  Calls Tryd.prog 35 #[.slice A0 l0.length c0] w fun e w' => e = .returned (.tuple #[.int .i64 r1, .int .i64 r2]) ∧ Below w.heap.size w w' := by
 have hu46 := Tryd.underlying46; have HR0 := Aside0.mk hr0; have HC0 := Aside0.mk hc0; clear hr0 hc0; have HB := Aside0.mk (Below.refl w.heap.size w); have H : ((profile_Check.f k l0).bind fun t130 => (if t130 = 0 then (profile_Bung.l0 k l0 0 l0 (l0.length : Int) 0) else (some (0, t130)))) = some (r1, r2) := h; clear h; replace H := Option.bind_eq_some_iff.mp H; obtain ⟨t130, A20, H⟩ := H; replace H : (if t130 = 0 then (profile_Bung.l0 k l0 0 l0 (l0.length : Int) 0) else (some (0, t130))) = some (r1, r2) := H; have A2 := Aside0.mk A20; clear A20; by_cases c3 : t130 = 0
 ·
  rw [if_pos c3] at H; have c3b0 : (t130 == 0) = true := beq_iff_eq.mpr c3; have c3b1 : (t130 != 0) = false := bne_eq_false_iff_eq.mpr c3; clear c3; have H' := Aside0.mk H; clear H; go_enter Tryd.func35, Tryd.ntmps35
  go_wp2_with (first | (go_at_call 39; (with_reducible refine (profile_Check.calls k _ _ l0 t130 _ ?side1 ?side2 A2.out).mono ?_); (case side1 => repeat (first | exact HR0.out | (with_reducible refine Kd.C_alloc ?_ _) | (with_reducible refine Kd.C_drewN ?_ _) | (with_reducible refine Kd.C_drew ?_))); (case side2 => exact HC0.out); rintro e w4 ⟨rfl, hb⟩; have n0_ := Aside0.mk (below_step (by repeat (first | (with_reducible first | exact HB.out | apply below_alloc | apply pw_below_drewN | apply below_drew1) | exact HB.out)) hb); clear HB; have HB := n0_; clear n0_; (try clear hb); (try clear hb2); (try clear hk); (try clear hi)))
  repeat (go_quiet (first | (go_at_call 39; (with_reducible refine (profile_Check.calls k _ _ l0 t130 _ ?side1 ?side2 A2.out).mono ?_); (case side1 => repeat (first | exact HR0.out | (with_reducible refine Kd.C_alloc ?_ _) | (with_reducible refine Kd.C_drewN ?_ _) | (with_reducible refine Kd.C_drew ?_))); (case side2 => exact HC0.out); rintro e w4 ⟨rfl, hb⟩; have n0_ := Aside0.mk (below_step (by repeat (first | (with_reducible first | exact HB.out | apply below_alloc | apply pw_below_drewN | apply below_drew1) | exact HB.out)) hb); clear HB; have HB := n0_; clear n0_; (try clear hb); (try clear hb2); (try clear hk); (try clear hi))); try go_wp2_with (first | (go_at_call 39; (with_reducible refine (profile_Check.calls k _ _ l0 t130 _ ?side1 ?side2 A2.out).mono ?_); (case side1 => repeat (first | exact HR0.out | (with_reducible refine Kd.C_alloc ?_ _) | (with_reducible refine Kd.C_drewN ?_ _) | (with_reducible refine Kd.C_drew ?_))); (case side2 => exact HC0.out); rintro e w4 ⟨rfl, hb⟩; have n0_ := Aside0.mk (below_step (by repeat (first | (with_reducible first | exact HB.out | apply below_alloc | apply pw_below_drewN | apply below_drew1) | exact HB.out)) hb); clear HB; have HB := n0_; clear n0_; (try clear hb); (try clear hb2); (try clear hk); (try clear hi))))
  go_loopg [5, 15] k (fun kq v5 v15 w' => ∃ (x5_1 : Int) (x15_1 : Int), v5 = .int .i64 x5_1 ∧ v15 = .int .i64 x15_1 ∧ Aside0 (profile_Bung.l0 kq l0 x5_1 l0 (l0.length : Int) x15_1 = some (r1, r2)) ∧ Aside0 (kq ≤ k) ∧ Aside0 (Below w.heap.size w w'))
  case atStart => exact ⟨(0), (0), (by first | rfl | (simp; done) | (simp [*]; done)), (by first | rfl | (simp; done) | (simp [*]; done)), H', ⟨Nat.le_refl _⟩, ⟨by repeat (first | (with_reducible first | exact HB.out | apply below_alloc | apply pw_below_drewN | apply below_drew1) | exact HB.out)⟩⟩
  case round =>
   clear H'; try clear p2
   try clear c3
   try clear c3b0
   try clear c3b1
   obtain ⟨x5_1, x15_1, rfl, rfl, HA, HK1, HB⟩ := hrel
   cases gk with
   | zero => exact absurd HA.out (by simp [profile_Bung.l0])
   | succ k1 =>
    have H := HA.out; clear HA; simp only [profile_Bung.l0] at H; by_cases c5 : x15_1 < (l0.length : Int)
    ·
     rw [if_pos c5] at H; have c5b0 : decide (x15_1 < (l0.length : Int)) = true := decide_eq_true c5; clear c5; by_cases c6 : 0 ≤ x15_1
     ·
      rw [if_pos c6] at H; have c6b0 : decide (0 ≤ x15_1) = true := decide_eq_true c6; clear c6; by_cases c7 : x15_1 < (l0.length : Int)
      ·
       rw [if_pos c7] at H; have c7b0 : decide (x15_1 < (l0.length : Int)) = true := decide_eq_true c7; clear c7; by_cases c8 : 0 ≤ x5_1
       ·
        rw [if_pos c8] at H; have c8b0 : decide (0 ≤ x5_1) = true := decide_eq_true c8; clear c8; by_cases c9 : x5_1 < (l0.length : Int)
        ·
         rw [if_pos c9] at H; have c9b0 : decide (x5_1 < (l0.length : Int)) = true := decide_eq_true c9; clear c9; by_cases c10 : ((rd_T46 l0 x15_1).f1) > ((rd_T46 l0 x5_1).f1)
         ·
          rw [if_pos c10] at H; have c10b0 : decide (((rd_T46 l0 x5_1).f1) < ((rd_T46 l0 x15_1).f1)) = true := decide_eq_true c10; clear c10; have H' := Aside0.mk H; clear H; have p131 : 0 ≤ (x15_1 : Int) := of_decide_eq_true (by first | (with_reducible assumption) | assumption); have q131 : x15_1 < (l0.length : Int) := of_decide_eq_true (by first | (with_reducible assumption) | assumption); obtain ⟨ad131, e131, hx131_0, hx131_1⟩ := at_T46 HR0.out x15_1 p131 q131; cases e131; replace hx131_0 := (HB.out.cell (World.block_lt_of_cell? w _ hx131_0)).trans hx131_0; replace hx131_1 := (HB.out.cell (World.block_lt_of_cell? w _ hx131_1)).trans hx131_1; replace p131 := eq_true p131; replace q131 := eq_true q131; go_wp2_with (first | ((with_reducible refine gate_dst (N := 7) rfl ?_); refine box_event ?hg (N := 7) ?hd (cs := #[.int .i64 0, .int .i64 0]) (t := 46) ?hr ?_; (case hd => rfl); (case hg => rfl); (case hr => first | (go_simp; done) | (go_simp; rfl)); intro gb132 hg w11 hbox hb; have n0_ := Aside0.mk (below_step (by repeat (first | (with_reducible first | exact HB.out | apply below_alloc | apply pw_below_drewN | apply below_drew1) | exact HB.out)) hb); have n1_ := Aside0.mk (hbox); have n2_ := Aside0.mk ((by rw [hg]; exact (below_size (by repeat (first | (with_reducible first | exact HB.out | apply below_alloc | apply pw_below_drewN | apply below_drew1) | exact HB.out))) : w.heap.size ≤ gb132)); have n3_ := Aside0.mk ((by rw [hg]; exact (below_size (by repeat (first | (with_reducible first | exact HB.out | apply below_alloc | apply pw_below_drewN | apply below_drew1) | exact HB.out))) : w.heap.size ≤ gb132)); clear HB; have HB := n0_; have BK132 := n1_; have GW132 := n2_; have GE132 := n3_; clear n0_ n1_ n2_ n3_; clear hb hbox hg; have hcz12_0 : w11.cell? ⟨gb132, 0, none⟩ = some (.int .i64 0) := (blk_cell BK132.out 0).trans rfl; have hcz12_1 : w11.cell? ⟨gb132, 1, none⟩ = some (.int .i64 0) := (blk_cell BK132.out 1).trans rfl; have hfz12_0 := blk_frozen BK132.out 0; have hfz12_1 := blk_frozen BK132.out 1; have p133 : 0 ≤ (x5_1 : Int) := of_decide_eq_true (by first | (with_reducible assumption) | assumption); have q133 : x5_1 < (l0.length : Int) := of_decide_eq_true (by first | (with_reducible assumption) | assumption); obtain ⟨ad133, e133, hx133_0, hx133_1⟩ := at_T46 HR0.out x5_1 p133 q133; obtain rfl : ad131 = ad133 := (by injection e133); have hn133_0 : ad131.block ≠ gb132 := Nat.ne_of_lt (Nat.lt_of_lt_of_le (by have := World.block_lt_of_cell? _ _ hx133_0; first | rwa [add_block] at this | exact this) GW132.out); have hn133_1 : ad131.block ≠ gb132 := Nat.ne_of_lt (Nat.lt_of_lt_of_le (by have := World.block_lt_of_cell? _ _ hx133_0; first | rwa [add_block] at this | exact this) GW132.out); replace hx133_0 := (HB.out.cell (World.block_lt_of_cell? w _ hx133_0)).trans hx133_0; replace hx133_1 := (HB.out.cell (World.block_lt_of_cell? w _ hx133_1)).trans hx133_1; replace hx133_0 := (cell_far (p := ⟨gb132, 0, none⟩) (by first | (rw [add_block]; exact hn133_0) | (show (Addr.add _ _).block ≠ _; rw [add_block]; exact hn133_0) | exact hn133_0) (.int .i64 ((rd_T46 l0 x15_1).f0))).trans hx133_0; replace hx133_1 := (cell_far (p := ⟨gb132, 0, none⟩) (by first | (rw [add_block]; exact hn133_0) | (show (Addr.add _ _).block ≠ _; rw [add_block]; exact hn133_0) | exact hn133_0) (.int .i64 ((rd_T46 l0 x15_1).f0))).trans hx133_1; replace hx133_0 := (cell_far (p := ⟨gb132, 1, none⟩) (by first | (rw [add_block]; exact hn133_1) | (show (Addr.add _ _).block ≠ _; rw [add_block]; exact hn133_1) | exact hn133_1) (.int .i64 ((rd_T46 l0 x15_1).f1))).trans hx133_0; replace hx133_1 := (cell_far (p := ⟨gb132, 1, none⟩) (by first | (rw [add_block]; exact hn133_1) | (show (Addr.add _ _).block ≠ _; rw [add_block]; exact hn133_1) | exact hn133_1) (.int .i64 ((rd_T46 l0 x15_1).f1))).trans hx133_1; (try have hy133_0 := fun (n_ : Nat) => (show ((((w11.drewN n_).setCell ⟨gb132, 0, none⟩ (.int .i64 ((rd_T46 l0 x15_1).f0))).setCell ⟨gb132, 1, none⟩ (.int .i64 ((rd_T46 l0 x15_1).f1)))).cell? _ = some _ from hx133_0)); (try have hy133_1 := fun (n_ : Nat) => (show ((((w11.drewN n_).setCell ⟨gb132, 0, none⟩ (.int .i64 ((rd_T46 l0 x15_1).f0))).setCell ⟨gb132, 1, none⟩ (.int .i64 ((rd_T46 l0 x15_1).f1)))).cell? _ = some _ from hx133_1)); clear hn133_0; clear hn133_1; replace p133 := eq_true p133; replace q133 := eq_true q133))
          repeat (go_quiet (first | ((with_reducible refine gate_dst (N := 7) rfl ?_); refine box_event ?hg (N := 7) ?hd (cs := #[.int .i64 0, .int .i64 0]) (t := 46) ?hr ?_; (case hd => rfl); (case hg => rfl); (case hr => first | (go_simp; done) | (go_simp; rfl)); intro gb132 hg w11 hbox hb; have n0_ := Aside0.mk (below_step (by repeat (first | (with_reducible first | exact HB.out | apply below_alloc | apply pw_below_drewN | apply below_drew1) | exact HB.out)) hb); have n1_ := Aside0.mk (hbox); have n2_ := Aside0.mk ((by rw [hg]; exact (below_size (by repeat (first | (with_reducible first | exact HB.out | apply below_alloc | apply pw_below_drewN | apply below_drew1) | exact HB.out))) : w.heap.size ≤ gb132)); have n3_ := Aside0.mk ((by rw [hg]; exact (below_size (by repeat (first | (with_reducible first | exact HB.out | apply below_alloc | apply pw_below_drewN | apply below_drew1) | exact HB.out))) : w.heap.size ≤ gb132)); clear HB; have HB := n0_; have BK132 := n1_; have GW132 := n2_; have GE132 := n3_; clear n0_ n1_ n2_ n3_; clear hb hbox hg; have hcz12_0 : w11.cell? ⟨gb132, 0, none⟩ = some (.int .i64 0) := (blk_cell BK132.out 0).trans rfl; have hcz12_1 : w11.cell? ⟨gb132, 1, none⟩ = some (.int .i64 0) := (blk_cell BK132.out 1).trans rfl; have hfz12_0 := blk_frozen BK132.out 0; have hfz12_1 := blk_frozen BK132.out 1; have p133 : 0 ≤ (x5_1 : Int) := of_decide_eq_true (by first | (with_reducible assumption) | assumption); have q133 : x5_1 < (l0.length : Int) := of_decide_eq_true (by first | (with_reducible assumption) | assumption); obtain ⟨ad133, e133, hx133_0, hx133_1⟩ := at_T46 HR0.out x5_1 p133 q133; obtain rfl : ad131 = ad133 := (by injection e133); have hn133_0 : ad131.block ≠ gb132 := Nat.ne_of_lt (Nat.lt_of_lt_of_le (by have := World.block_lt_of_cell? _ _ hx133_0; first | rwa [add_block] at this | exact this) GW132.out); have hn133_1 : ad131.block ≠ gb132 := Nat.ne_of_lt (Nat.lt_of_lt_of_le (by have := World.block_lt_of_cell? _ _ hx133_0; first | rwa [add_block] at this | exact this) GW132.out); replace hx133_0 := (HB.out.cell (World.block_lt_of_cell? w _ hx133_0)).trans hx133_0; replace hx133_1 := (HB.out.cell (World.block_lt_of_cell? w _ hx133_1)).trans hx133_1; replace hx133_0 := (cell_far (p := ⟨gb132, 0, none⟩) (by first | (rw [add_block]; exact hn133_0) | (show (Addr.add _ _).block ≠ _; rw [add_block]; exact hn133_0) | exact hn133_0) (.int .i64 ((rd_T46 l0 x15_1).f0))).trans hx133_0; replace hx133_1 := (cell_far (p := ⟨gb132, 0, none⟩) (by first | (rw [add_block]; exact hn133_0) | (show (Addr.add _ _).block ≠ _; rw [add_block]; exact hn133_0) | exact hn133_0) (.int .i64 ((rd_T46 l0 x15_1).f0))).trans hx133_1; replace hx133_0 := (cell_far (p := ⟨gb132, 1, none⟩) (by first | (rw [add_block]; exact hn133_1) | (show (Addr.add _ _).block ≠ _; rw [add_block]; exact hn133_1) | exact hn133_1) (.int .i64 ((rd_T46 l0 x15_1).f1))).trans hx133_0; replace hx133_1 := (cell_far (p := ⟨gb132, 1, none⟩) (by first | (rw [add_block]; exact hn133_1) | (show (Addr.add _ _).block ≠ _; rw [add_block]; exact hn133_1) | exact hn133_1) (.int .i64 ((rd_T46 l0 x15_1).f1))).trans hx133_1; (try have hy133_0 := fun (n_ : Nat) => (show ((((w11.drewN n_).setCell ⟨gb132, 0, none⟩ (.int .i64 ((rd_T46 l0 x15_1).f0))).setCell ⟨gb132, 1, none⟩ (.int .i64 ((rd_T46 l0 x15_1).f1)))).cell? _ = some _ from hx133_0)); (try have hy133_1 := fun (n_ : Nat) => (show ((((w11.drewN n_).setCell ⟨gb132, 0, none⟩ (.int .i64 ((rd_T46 l0 x15_1).f0))).setCell ⟨gb132, 1, none⟩ (.int .i64 ((rd_T46 l0 x15_1).f1)))).cell? _ = some _ from hx133_1)); clear hn133_0; clear hn133_1; replace p133 := eq_true p133; replace q133 := eq_true q133)); try go_wp2_with (first | ((with_reducible refine gate_dst (N := 7) rfl ?_); refine box_event ?hg (N := 7) ?hd (cs := #[.int .i64 0, .int .i64 0]) (t := 46) ?hr ?_; (case hd => rfl); (case hg => rfl); (case hr => first | (go_simp; done) | (go_simp; rfl)); intro gb132 hg w11 hbox hb; have n0_ := Aside0.mk (below_step (by repeat (first | (with_reducible first | exact HB.out | apply below_alloc | apply pw_below_drewN | apply below_drew1) | exact HB.out)) hb); have n1_ := Aside0.mk (hbox); have n2_ := Aside0.mk ((by rw [hg]; exact (below_size (by repeat (first | (with_reducible first | exact HB.out | apply below_alloc | apply pw_below_drewN | apply below_drew1) | exact HB.out))) : w.heap.size ≤ gb132)); have n3_ := Aside0.mk ((by rw [hg]; exact (below_size (by repeat (first | (with_reducible first | exact HB.out | apply below_alloc | apply pw_below_drewN | apply below_drew1) | exact HB.out))) : w.heap.size ≤ gb132)); clear HB; have HB := n0_; have BK132 := n1_; have GW132 := n2_; have GE132 := n3_; clear n0_ n1_ n2_ n3_; clear hb hbox hg; have hcz12_0 : w11.cell? ⟨gb132, 0, none⟩ = some (.int .i64 0) := (blk_cell BK132.out 0).trans rfl; have hcz12_1 : w11.cell? ⟨gb132, 1, none⟩ = some (.int .i64 0) := (blk_cell BK132.out 1).trans rfl; have hfz12_0 := blk_frozen BK132.out 0; have hfz12_1 := blk_frozen BK132.out 1; have p133 : 0 ≤ (x5_1 : Int) := of_decide_eq_true (by first | (with_reducible assumption) | assumption); have q133 : x5_1 < (l0.length : Int) := of_decide_eq_true (by first | (with_reducible assumption) | assumption); obtain ⟨ad133, e133, hx133_0, hx133_1⟩ := at_T46 HR0.out x5_1 p133 q133; obtain rfl : ad131 = ad133 := (by injection e133); have hn133_0 : ad131.block ≠ gb132 := Nat.ne_of_lt (Nat.lt_of_lt_of_le (by have := World.block_lt_of_cell? _ _ hx133_0; first | rwa [add_block] at this | exact this) GW132.out); have hn133_1 : ad131.block ≠ gb132 := Nat.ne_of_lt (Nat.lt_of_lt_of_le (by have := World.block_lt_of_cell? _ _ hx133_0; first | rwa [add_block] at this | exact this) GW132.out); replace hx133_0 := (HB.out.cell (World.block_lt_of_cell? w _ hx133_0)).trans hx133_0; replace hx133_1 := (HB.out.cell (World.block_lt_of_cell? w _ hx133_1)).trans hx133_1; replace hx133_0 := (cell_far (p := ⟨gb132, 0, none⟩) (by first | (rw [add_block]; exact hn133_0) | (show (Addr.add _ _).block ≠ _; rw [add_block]; exact hn133_0) | exact hn133_0) (.int .i64 ((rd_T46 l0 x15_1).f0))).trans hx133_0; replace hx133_1 := (cell_far (p := ⟨gb132, 0, none⟩) (by first | (rw [add_block]; exact hn133_0) | (show (Addr.add _ _).block ≠ _; rw [add_block]; exact hn133_0) | exact hn133_0) (.int .i64 ((rd_T46 l0 x15_1).f0))).trans hx133_1; replace hx133_0 := (cell_far (p := ⟨gb132, 1, none⟩) (by first | (rw [add_block]; exact hn133_1) | (show (Addr.add _ _).block ≠ _; rw [add_block]; exact hn133_1) | exact hn133_1) (.int .i64 ((rd_T46 l0 x15_1).f1))).trans hx133_0; replace hx133_1 := (cell_far (p := ⟨gb132, 1, none⟩) (by first | (rw [add_block]; exact hn133_1) | (show (Addr.add _ _).block ≠ _; rw [add_block]; exact hn133_1) | exact hn133_1) (.int .i64 ((rd_T46 l0 x15_1).f1))).trans hx133_1; (try have hy133_0 := fun (n_ : Nat) => (show ((((w11.drewN n_).setCell ⟨gb132, 0, none⟩ (.int .i64 ((rd_T46 l0 x15_1).f0))).setCell ⟨gb132, 1, none⟩ (.int .i64 ((rd_T46 l0 x15_1).f1)))).cell? _ = some _ from hx133_0)); (try have hy133_1 := fun (n_ : Nat) => (show ((((w11.drewN n_).setCell ⟨gb132, 0, none⟩ (.int .i64 ((rd_T46 l0 x15_1).f0))).setCell ⟨gb132, 1, none⟩ (.int .i64 ((rd_T46 l0 x15_1).f1)))).cell? _ = some _ from hx133_1)); clear hn133_0; clear hn133_1; replace p133 := eq_true p133; replace q133 := eq_true q133)))
          go_roundg k1
          case measure => have := HK1.out; omega
          case rel => exact ⟨(x15_1), (wrap64 (x15_1 + 1)), (by first | rfl | (simp; done) | (simp [*]; done)), (by first | rfl | (simp; done) | (simp [*]; done)), H', ⟨by have := HK1.out; omega⟩, ⟨by repeat (first | (with_reducible first | exact HB.out | apply below_alloc | apply pw_below_drewN | apply below_drew1 | refine below_set ?_ GE132.out) | exact HB.out)⟩⟩
         ·
          rw [if_neg c10] at H; have c10b0 : decide (((rd_T46 l0 x5_1).f1) < ((rd_T46 l0 x15_1).f1)) = false := decide_eq_false c10; clear c10; have H' := Aside0.mk H; clear H; have p131 : 0 ≤ (x15_1 : Int) := of_decide_eq_true (by first | (with_reducible assumption) | assumption); have q131 : x15_1 < (l0.length : Int) := of_decide_eq_true (by first | (with_reducible assumption) | assumption); obtain ⟨ad131, e131, hx131_0, hx131_1⟩ := at_T46 HR0.out x15_1 p131 q131; cases e131; replace hx131_0 := (HB.out.cell (World.block_lt_of_cell? w _ hx131_0)).trans hx131_0; replace hx131_1 := (HB.out.cell (World.block_lt_of_cell? w _ hx131_1)).trans hx131_1; replace p131 := eq_true p131; replace q131 := eq_true q131; go_wp2_with (first | ((with_reducible refine gate_dst (N := 7) rfl ?_); refine box_event ?hg (N := 7) ?hd (cs := #[.int .i64 0, .int .i64 0]) (t := 46) ?hr ?_; (case hd => rfl); (case hg => rfl); (case hr => first | (go_simp; done) | (go_simp; rfl)); intro gb132 hg w13 hbox hb; have n0_ := Aside0.mk (below_step (by repeat (first | (with_reducible first | exact HB.out | apply below_alloc | apply pw_below_drewN | apply below_drew1) | exact HB.out)) hb); have n1_ := Aside0.mk (hbox); have n2_ := Aside0.mk ((by rw [hg]; exact (below_size (by repeat (first | (with_reducible first | exact HB.out | apply below_alloc | apply pw_below_drewN | apply below_drew1) | exact HB.out))) : w.heap.size ≤ gb132)); have n3_ := Aside0.mk ((by rw [hg]; exact (below_size (by repeat (first | (with_reducible first | exact HB.out | apply below_alloc | apply pw_below_drewN | apply below_drew1) | exact HB.out))) : w.heap.size ≤ gb132)); clear HB; have HB := n0_; have BK132 := n1_; have GW132 := n2_; have GE132 := n3_; clear n0_ n1_ n2_ n3_; clear hb hbox hg; have hcz14_0 : w13.cell? ⟨gb132, 0, none⟩ = some (.int .i64 0) := (blk_cell BK132.out 0).trans rfl; have hcz14_1 : w13.cell? ⟨gb132, 1, none⟩ = some (.int .i64 0) := (blk_cell BK132.out 1).trans rfl; have hfz14_0 := blk_frozen BK132.out 0; have hfz14_1 := blk_frozen BK132.out 1; have p133 : 0 ≤ (x5_1 : Int) := of_decide_eq_true (by first | (with_reducible assumption) | assumption); have q133 : x5_1 < (l0.length : Int) := of_decide_eq_true (by first | (with_reducible assumption) | assumption); obtain ⟨ad133, e133, hx133_0, hx133_1⟩ := at_T46 HR0.out x5_1 p133 q133; obtain rfl : ad131 = ad133 := (by injection e133); have hn133_0 : ad131.block ≠ gb132 := Nat.ne_of_lt (Nat.lt_of_lt_of_le (by have := World.block_lt_of_cell? _ _ hx133_0; first | rwa [add_block] at this | exact this) GW132.out); have hn133_1 : ad131.block ≠ gb132 := Nat.ne_of_lt (Nat.lt_of_lt_of_le (by have := World.block_lt_of_cell? _ _ hx133_0; first | rwa [add_block] at this | exact this) GW132.out); replace hx133_0 := (HB.out.cell (World.block_lt_of_cell? w _ hx133_0)).trans hx133_0; replace hx133_1 := (HB.out.cell (World.block_lt_of_cell? w _ hx133_1)).trans hx133_1; replace hx133_0 := (cell_far (p := ⟨gb132, 0, none⟩) (by first | (rw [add_block]; exact hn133_0) | (show (Addr.add _ _).block ≠ _; rw [add_block]; exact hn133_0) | exact hn133_0) (.int .i64 ((rd_T46 l0 x15_1).f0))).trans hx133_0; replace hx133_1 := (cell_far (p := ⟨gb132, 0, none⟩) (by first | (rw [add_block]; exact hn133_0) | (show (Addr.add _ _).block ≠ _; rw [add_block]; exact hn133_0) | exact hn133_0) (.int .i64 ((rd_T46 l0 x15_1).f0))).trans hx133_1; replace hx133_0 := (cell_far (p := ⟨gb132, 1, none⟩) (by first | (rw [add_block]; exact hn133_1) | (show (Addr.add _ _).block ≠ _; rw [add_block]; exact hn133_1) | exact hn133_1) (.int .i64 ((rd_T46 l0 x15_1).f1))).trans hx133_0; replace hx133_1 := (cell_far (p := ⟨gb132, 1, none⟩) (by first | (rw [add_block]; exact hn133_1) | (show (Addr.add _ _).block ≠ _; rw [add_block]; exact hn133_1) | exact hn133_1) (.int .i64 ((rd_T46 l0 x15_1).f1))).trans hx133_1; (try have hy133_0 := fun (n_ : Nat) => (show ((((w13.drewN n_).setCell ⟨gb132, 0, none⟩ (.int .i64 ((rd_T46 l0 x15_1).f0))).setCell ⟨gb132, 1, none⟩ (.int .i64 ((rd_T46 l0 x15_1).f1)))).cell? _ = some _ from hx133_0)); (try have hy133_1 := fun (n_ : Nat) => (show ((((w13.drewN n_).setCell ⟨gb132, 0, none⟩ (.int .i64 ((rd_T46 l0 x15_1).f0))).setCell ⟨gb132, 1, none⟩ (.int .i64 ((rd_T46 l0 x15_1).f1)))).cell? _ = some _ from hx133_1)); clear hn133_0; clear hn133_1; replace p133 := eq_true p133; replace q133 := eq_true q133))
          repeat (go_quiet (first | ((with_reducible refine gate_dst (N := 7) rfl ?_); refine box_event ?hg (N := 7) ?hd (cs := #[.int .i64 0, .int .i64 0]) (t := 46) ?hr ?_; (case hd => rfl); (case hg => rfl); (case hr => first | (go_simp; done) | (go_simp; rfl)); intro gb132 hg w13 hbox hb; have n0_ := Aside0.mk (below_step (by repeat (first | (with_reducible first | exact HB.out | apply below_alloc | apply pw_below_drewN | apply below_drew1) | exact HB.out)) hb); have n1_ := Aside0.mk (hbox); have n2_ := Aside0.mk ((by rw [hg]; exact (below_size (by repeat (first | (with_reducible first | exact HB.out | apply below_alloc | apply pw_below_drewN | apply below_drew1) | exact HB.out))) : w.heap.size ≤ gb132)); have n3_ := Aside0.mk ((by rw [hg]; exact (below_size (by repeat (first | (with_reducible first | exact HB.out | apply below_alloc | apply pw_below_drewN | apply below_drew1) | exact HB.out))) : w.heap.size ≤ gb132)); clear HB; have HB := n0_; have BK132 := n1_; have GW132 := n2_; have GE132 := n3_; clear n0_ n1_ n2_ n3_; clear hb hbox hg; have hcz14_0 : w13.cell? ⟨gb132, 0, none⟩ = some (.int .i64 0) := (blk_cell BK132.out 0).trans rfl; have hcz14_1 : w13.cell? ⟨gb132, 1, none⟩ = some (.int .i64 0) := (blk_cell BK132.out 1).trans rfl; have hfz14_0 := blk_frozen BK132.out 0; have hfz14_1 := blk_frozen BK132.out 1; have p133 : 0 ≤ (x5_1 : Int) := of_decide_eq_true (by first | (with_reducible assumption) | assumption); have q133 : x5_1 < (l0.length : Int) := of_decide_eq_true (by first | (with_reducible assumption) | assumption); obtain ⟨ad133, e133, hx133_0, hx133_1⟩ := at_T46 HR0.out x5_1 p133 q133; obtain rfl : ad131 = ad133 := (by injection e133); have hn133_0 : ad131.block ≠ gb132 := Nat.ne_of_lt (Nat.lt_of_lt_of_le (by have := World.block_lt_of_cell? _ _ hx133_0; first | rwa [add_block] at this | exact this) GW132.out); have hn133_1 : ad131.block ≠ gb132 := Nat.ne_of_lt (Nat.lt_of_lt_of_le (by have := World.block_lt_of_cell? _ _ hx133_0; first | rwa [add_block] at this | exact this) GW132.out); replace hx133_0 := (HB.out.cell (World.block_lt_of_cell? w _ hx133_0)).trans hx133_0; replace hx133_1 := (HB.out.cell (World.block_lt_of_cell? w _ hx133_1)).trans hx133_1; replace hx133_0 := (cell_far (p := ⟨gb132, 0, none⟩) (by first | (rw [add_block]; exact hn133_0) | (show (Addr.add _ _).block ≠ _; rw [add_block]; exact hn133_0) | exact hn133_0) (.int .i64 ((rd_T46 l0 x15_1).f0))).trans hx133_0; replace hx133_1 := (cell_far (p := ⟨gb132, 0, none⟩) (by first | (rw [add_block]; exact hn133_0) | (show (Addr.add _ _).block ≠ _; rw [add_block]; exact hn133_0) | exact hn133_0) (.int .i64 ((rd_T46 l0 x15_1).f0))).trans hx133_1; replace hx133_0 := (cell_far (p := ⟨gb132, 1, none⟩) (by first | (rw [add_block]; exact hn133_1) | (show (Addr.add _ _).block ≠ _; rw [add_block]; exact hn133_1) | exact hn133_1) (.int .i64 ((rd_T46 l0 x15_1).f1))).trans hx133_0; replace hx133_1 := (cell_far (p := ⟨gb132, 1, none⟩) (by first | (rw [add_block]; exact hn133_1) | (show (Addr.add _ _).block ≠ _; rw [add_block]; exact hn133_1) | exact hn133_1) (.int .i64 ((rd_T46 l0 x15_1).f1))).trans hx133_1; (try have hy133_0 := fun (n_ : Nat) => (show ((((w13.drewN n_).setCell ⟨gb132, 0, none⟩ (.int .i64 ((rd_T46 l0 x15_1).f0))).setCell ⟨gb132, 1, none⟩ (.int .i64 ((rd_T46 l0 x15_1).f1)))).cell? _ = some _ from hx133_0)); (try have hy133_1 := fun (n_ : Nat) => (show ((((w13.drewN n_).setCell ⟨gb132, 0, none⟩ (.int .i64 ((rd_T46 l0 x15_1).f0))).setCell ⟨gb132, 1, none⟩ (.int .i64 ((rd_T46 l0 x15_1).f1)))).cell? _ = some _ from hx133_1)); clear hn133_0; clear hn133_1; replace p133 := eq_true p133; replace q133 := eq_true q133)); try go_wp2_with (first | ((with_reducible refine gate_dst (N := 7) rfl ?_); refine box_event ?hg (N := 7) ?hd (cs := #[.int .i64 0, .int .i64 0]) (t := 46) ?hr ?_; (case hd => rfl); (case hg => rfl); (case hr => first | (go_simp; done) | (go_simp; rfl)); intro gb132 hg w13 hbox hb; have n0_ := Aside0.mk (below_step (by repeat (first | (with_reducible first | exact HB.out | apply below_alloc | apply pw_below_drewN | apply below_drew1) | exact HB.out)) hb); have n1_ := Aside0.mk (hbox); have n2_ := Aside0.mk ((by rw [hg]; exact (below_size (by repeat (first | (with_reducible first | exact HB.out | apply below_alloc | apply pw_below_drewN | apply below_drew1) | exact HB.out))) : w.heap.size ≤ gb132)); have n3_ := Aside0.mk ((by rw [hg]; exact (below_size (by repeat (first | (with_reducible first | exact HB.out | apply below_alloc | apply pw_below_drewN | apply below_drew1) | exact HB.out))) : w.heap.size ≤ gb132)); clear HB; have HB := n0_; have BK132 := n1_; have GW132 := n2_; have GE132 := n3_; clear n0_ n1_ n2_ n3_; clear hb hbox hg; have hcz14_0 : w13.cell? ⟨gb132, 0, none⟩ = some (.int .i64 0) := (blk_cell BK132.out 0).trans rfl; have hcz14_1 : w13.cell? ⟨gb132, 1, none⟩ = some (.int .i64 0) := (blk_cell BK132.out 1).trans rfl; have hfz14_0 := blk_frozen BK132.out 0; have hfz14_1 := blk_frozen BK132.out 1; have p133 : 0 ≤ (x5_1 : Int) := of_decide_eq_true (by first | (with_reducible assumption) | assumption); have q133 : x5_1 < (l0.length : Int) := of_decide_eq_true (by first | (with_reducible assumption) | assumption); obtain ⟨ad133, e133, hx133_0, hx133_1⟩ := at_T46 HR0.out x5_1 p133 q133; obtain rfl : ad131 = ad133 := (by injection e133); have hn133_0 : ad131.block ≠ gb132 := Nat.ne_of_lt (Nat.lt_of_lt_of_le (by have := World.block_lt_of_cell? _ _ hx133_0; first | rwa [add_block] at this | exact this) GW132.out); have hn133_1 : ad131.block ≠ gb132 := Nat.ne_of_lt (Nat.lt_of_lt_of_le (by have := World.block_lt_of_cell? _ _ hx133_0; first | rwa [add_block] at this | exact this) GW132.out); replace hx133_0 := (HB.out.cell (World.block_lt_of_cell? w _ hx133_0)).trans hx133_0; replace hx133_1 := (HB.out.cell (World.block_lt_of_cell? w _ hx133_1)).trans hx133_1; replace hx133_0 := (cell_far (p := ⟨gb132, 0, none⟩) (by first | (rw [add_block]; exact hn133_0) | (show (Addr.add _ _).block ≠ _; rw [add_block]; exact hn133_0) | exact hn133_0) (.int .i64 ((rd_T46 l0 x15_1).f0))).trans hx133_0; replace hx133_1 := (cell_far (p := ⟨gb132, 0, none⟩) (by first | (rw [add_block]; exact hn133_0) | (show (Addr.add _ _).block ≠ _; rw [add_block]; exact hn133_0) | exact hn133_0) (.int .i64 ((rd_T46 l0 x15_1).f0))).trans hx133_1; replace hx133_0 := (cell_far (p := ⟨gb132, 1, none⟩) (by first | (rw [add_block]; exact hn133_1) | (show (Addr.add _ _).block ≠ _; rw [add_block]; exact hn133_1) | exact hn133_1) (.int .i64 ((rd_T46 l0 x15_1).f1))).trans hx133_0; replace hx133_1 := (cell_far (p := ⟨gb132, 1, none⟩) (by first | (rw [add_block]; exact hn133_1) | (show (Addr.add _ _).block ≠ _; rw [add_block]; exact hn133_1) | exact hn133_1) (.int .i64 ((rd_T46 l0 x15_1).f1))).trans hx133_1; (try have hy133_0 := fun (n_ : Nat) => (show ((((w13.drewN n_).setCell ⟨gb132, 0, none⟩ (.int .i64 ((rd_T46 l0 x15_1).f0))).setCell ⟨gb132, 1, none⟩ (.int .i64 ((rd_T46 l0 x15_1).f1)))).cell? _ = some _ from hx133_0)); (try have hy133_1 := fun (n_ : Nat) => (show ((((w13.drewN n_).setCell ⟨gb132, 0, none⟩ (.int .i64 ((rd_T46 l0 x15_1).f0))).setCell ⟨gb132, 1, none⟩ (.int .i64 ((rd_T46 l0 x15_1).f1)))).cell? _ = some _ from hx133_1)); clear hn133_0; clear hn133_1; replace p133 := eq_true p133; replace q133 := eq_true q133)))
          go_roundg k1
          case measure => have := HK1.out; omega
          case rel => exact ⟨(x5_1), (wrap64 (x15_1 + 1)), (by first | rfl | (simp; done) | (simp [*]; done)), (by first | rfl | (simp; done) | (simp [*]; done)), H', ⟨by have := HK1.out; omega⟩, ⟨by repeat (first | (with_reducible first | exact HB.out | apply below_alloc | apply pw_below_drewN | apply below_drew1 | refine below_set ?_ GE132.out) | exact HB.out)⟩⟩
        · rw [if_neg c9] at H; exact absurd H (by simp)
       · rw [if_neg c8] at H; exact absurd H (by simp)
      · rw [if_neg c7] at H; exact absurd H (by simp)
     · rw [if_neg c6] at H; exact absurd H (by simp)
    ·
     rw [if_neg c5] at H; have c5b0 : decide (x15_1 < (l0.length : Int)) = false := decide_eq_false c5; clear c5; simp only [Option.some.injEq, Prod.mk.injEq] at H; obtain ⟨rfl, rfl⟩ := H; go_wp2; repeat (go_quiet (fail); try go_wp2)
     go_ret2
     exact ⟨by first | rfl | (simp [errW_none, errW_some] <;> rfl) | (simp [*, errW_none, errW_some] <;> rfl), by repeat (first | (with_reducible first | exact HB.out | apply below_alloc | apply pw_below_drewN | apply below_drew1) | exact HB.out)⟩
 ·
  rw [if_neg c3] at H; have c3b0 : (t130 == 0) = false := beq_eq_false_iff_ne.mpr c3; have c3b1 : (t130 != 0) = true := bne_iff_ne.mpr c3; simp only [Option.some.injEq, Prod.mk.injEq] at H; obtain ⟨rfl, rfl⟩ := H; go_enter Tryd.func35, Tryd.ntmps35
  go_wp2_with (first | (go_at_call 39; (with_reducible refine (profile_Check.calls k _ _ l0 t130 _ ?side1 ?side2 A2.out).mono ?_); (case side1 => repeat (first | exact HR0.out | (with_reducible refine Kd.C_alloc ?_ _) | (with_reducible refine Kd.C_drewN ?_ _) | (with_reducible refine Kd.C_drew ?_))); (case side2 => exact HC0.out); rintro e w15 ⟨rfl, hb⟩; have n0_ := Aside0.mk (below_step (by repeat (first | (with_reducible first | exact HB.out | apply below_alloc | apply pw_below_drewN | apply below_drew1) | exact HB.out)) hb); clear HB; have HB := n0_; clear n0_; (try clear hb); (try clear hb2); (try clear hk); (try clear hi)))
  repeat (go_quiet (first | (go_at_call 39; (with_reducible refine (profile_Check.calls k _ _ l0 t130 _ ?side1 ?side2 A2.out).mono ?_); (case side1 => repeat (first | exact HR0.out | (with_reducible refine Kd.C_alloc ?_ _) | (with_reducible refine Kd.C_drewN ?_ _) | (with_reducible refine Kd.C_drew ?_))); (case side2 => exact HC0.out); rintro e w15 ⟨rfl, hb⟩; have n0_ := Aside0.mk (below_step (by repeat (first | (with_reducible first | exact HB.out | apply below_alloc | apply pw_below_drewN | apply below_drew1) | exact HB.out)) hb); clear HB; have HB := n0_; clear n0_; (try clear hb); (try clear hb2); (try clear hk); (try clear hi))); try go_wp2_with (first | (go_at_call 39; (with_reducible refine (profile_Check.calls k _ _ l0 t130 _ ?side1 ?side2 A2.out).mono ?_); (case side1 => repeat (first | exact HR0.out | (with_reducible refine Kd.C_alloc ?_ _) | (with_reducible refine Kd.C_drewN ?_ _) | (with_reducible refine Kd.C_drew ?_))); (case side2 => exact HC0.out); rintro e w15 ⟨rfl, hb⟩; have n0_ := Aside0.mk (below_step (by repeat (first | (with_reducible first | exact HB.out | apply below_alloc | apply pw_below_drewN | apply below_drew1) | exact HB.out)) hb); clear HB; have HB := n0_; clear n0_; (try clear hb); (try clear hb2); (try clear hk); (try clear hi))))
  go_ret2
  exact ⟨by first | rfl | (simp [errW_none, errW_some] <;> rfl) | (simp [*, errW_none, errW_some] <;> rfl), by repeat (first | (with_reducible first | exact HB.out | apply below_alloc | apply pw_below_drewN | apply below_drew1) | exact HB.out)⟩
def profile_length.f (l0 : List (S46)) : Option (Int) := if 0 ≤ (wrap64 ((l0.length : Int) - 1)) then (if (wrap64 ((l0.length : Int) - 1)) < (l0.length : Int) then (some ((rd_T46 l0 (wrap64 ((l0.length : Int) - 1))).f0)) else (none)) else (none)
set_option maxHeartbeats 8000000 in
set_option maxRecDepth 100000 in
theorem profile_length.calls (A0 : Option Addr) (c0 : Nat) (l0 : List (S46)) (r : Int) (w : World) (hr0 : Kd.C k46 w A0 l0.length l0) (hc0 : l0.length ≤ c0) (h : profile_length.f l0 = some r) :
  Calls Tryd.prog 53 #[.slice A0 l0.length c0] w fun e w' => e = .returned (.int .i64 r) ∧ Drawn0 w w' := by
 have HR0 := Aside0.mk hr0; have HC0 := Aside0.mk hc0; clear hr0 hc0; have H : (if 0 ≤ (wrap64 ((l0.length : Int) - 1)) then (if (wrap64 ((l0.length : Int) - 1)) < (l0.length : Int) then (some ((rd_T46 l0 (wrap64 ((l0.length : Int) - 1))).f0)) else (none)) else (none)) = some r := h; clear h; obtain ⟨ji2, hji2⟩ : ∃ j_ : Int, (wrap64 ((l0.length : Int) - 1)) = j_ := ⟨_, rfl⟩; replace H : (if 0 ≤ (ji2) then (if (ji2) < (l0.length : Int) then (some ((rd_T46 l0 (ji2)).f0)) else (none)) else (none)) = some r := by first | (rw [hji2] at H; exact H) | (simp only [hji2] at H ⊢; exact H)
 have hji2w : (IntKind.i64.wrap ((l0.length : Int) - 1)) = ji2 := (i64_w _).trans hji2; by_cases c3 : 0 ≤ (ji2)
 ·
  rw [if_pos c3] at H; have c3b0 : decide (0 ≤ (ji2)) = true := decide_eq_true c3; clear c3; by_cases c4 : (ji2) < (l0.length : Int)
  ·
   rw [if_pos c4] at H; have c4b0 : decide ((ji2) < (l0.length : Int)) = true := decide_eq_true c4; clear c4; obtain rfl := Option.some.inj H; have p134 : 0 ≤ ((ji2) : Int) := of_decide_eq_true (by first | (with_reducible assumption) | assumption); have q134 : (ji2) < (l0.length : Int) := of_decide_eq_true (by first | (with_reducible assumption) | assumption); obtain ⟨ad134, e134, hx134_0, hx134_1⟩ := at_T46 HR0.out (ji2) p134 q134; cases e134; replace p134 := eq_true p134; replace q134 := eq_true q134; go_enter Tryd.func53, Tryd.ntmps53
   go_wp2; go_ret
   exact ⟨by first | rfl | (simp; done) | (simp only [← hji2] <;> (first | rfl | simp)) | (simp [*]; done), by repeat (first | exact Drawn0.refl _ | apply Drawn0.step)⟩
  · rw [if_neg c4] at H; exact absurd H (by simp)
 · rw [if_neg c3] at H; exact absurd H (by simp)
def profile_Length.f (k : Nat) (l0 : List (S46)) : Option (Int × Int) := (profile_Check.f k l0).bind fun t135 => (if t135 = 0 then ((profile_length.f l0).bind fun t136 => (some (t136, 0))) else (some (0, t135)))
set_option maxHeartbeats 8000000 in
set_option maxRecDepth 100000 in
theorem profile_Length.calls (k : Nat) (A0 : Option Addr) (c0 : Nat) (l0 : List (S46)) (r1 : Int) (r2 : Int) (w : World) (hr0 : Kd.C k46 w A0 l0.length l0) (hc0 : l0.length ≤ c0) (h : profile_Length.f k l0 = some (r1, r2)) :
  Calls Tryd.prog 36 #[.slice A0 l0.length c0] w fun e w' => e = .returned (.tuple #[.int .i64 r1, .int .i64 r2]) ∧ Below w.heap.size w w' := by
 have HR0 := Aside0.mk hr0; have HC0 := Aside0.mk hc0; clear hr0 hc0; have HB := Aside0.mk (Below.refl w.heap.size w); have H : ((profile_Check.f k l0).bind fun t135 => (if t135 = 0 then ((profile_length.f l0).bind fun t136 => (some (t136, 0))) else (some (0, t135)))) = some (r1, r2) := h; clear h; replace H := Option.bind_eq_some_iff.mp H; obtain ⟨t135, A20, H⟩ := H; replace H : (if t135 = 0 then ((profile_length.f l0).bind fun t136 => (some (t136, 0))) else (some (0, t135))) = some (r1, r2) := H; have A2 := Aside0.mk A20; clear A20; by_cases c3 : t135 = 0
 ·
  rw [if_pos c3] at H; have c3b0 : (t135 == 0) = true := beq_iff_eq.mpr c3; have c3b1 : (t135 != 0) = false := bne_eq_false_iff_eq.mpr c3; clear c3; replace H := Option.bind_eq_some_iff.mp H; obtain ⟨t136, A40, H⟩ := H; replace H : (some (t136, 0)) = some (r1, r2) := H; have A4 := Aside0.mk A40; clear A40; simp only [Option.some.injEq, Prod.mk.injEq] at H; obtain ⟨rfl, rfl⟩ := H; go_enter Tryd.func36, Tryd.ntmps36
  go_wp2_with (first | ((with_reducible refine gate_callee (f := 39) rfl ?_); refine goesL_ (some 6) rfl rfl Tryd.func39 (by kernel_rfl) rfl #[.slice A0 l0.length c0] rfl (by (try simp only [List.map_toArray, List.map_cons, List.map_nil]); first | done | rfl | (simp only [List.length_drop, List.length_take]; rfl)) ?_; (with_reducible refine (profile_Check.calls k _ _ l0 t135 _ ?side1 ?side2 A2.out).mono ?_); (case side1 => repeat (first | exact HR0.out | (with_reducible refine Kd.C_alloc ?_ _) | (with_reducible refine Kd.C_drewN ?_ _) | (with_reducible refine Kd.C_drew ?_))); (case side2 => exact HC0.out); rintro e w5 ⟨rfl, hb⟩; refine ⟨_, rfl, ?_⟩; have n0_ := Aside0.mk (below_step (by repeat (first | (with_reducible first | exact HB.out | apply below_alloc | apply pw_below_drewN | apply below_drew1) | exact HB.out)) hb); clear HB; have HB := n0_; clear n0_; (try clear hb); (try clear hb2); (try clear hk); (try clear hi)) | ((with_reducible refine gate_callee (f := 53) rfl ?_); refine goesL_ (some 11) rfl rfl Tryd.func53 (by kernel_rfl) rfl #[.slice A0 l0.length c0] rfl (by (try simp only [List.map_toArray, List.map_cons, List.map_nil]); first | done | rfl | (simp only [List.length_drop, List.length_take]; rfl)) ?_; (with_reducible refine (profile_length.calls _ _ l0 t136 _ ?side1 ?side2 A4.out).mono ?_); (case side1 => repeat (first | exact (Kd.C_below HR0.out HB.out) | (with_reducible refine Kd.C_alloc ?_ _) | (with_reducible refine Kd.C_drewN ?_ _) | (with_reducible refine Kd.C_drew ?_))); (case side2 => exact HC0.out); rintro e w' ⟨rfl, ⟨nd, rfl⟩⟩; refine ⟨_, rfl, ?_⟩))
  go_ret2
  exact ⟨by first | rfl | (simp [errW_none, errW_some] <;> rfl) | (simp [*, errW_none, errW_some] <;> rfl), by repeat (first | (with_reducible first | exact HB.out | apply below_alloc | apply pw_below_drewN | apply below_drew1) | exact HB.out)⟩
 ·
  rw [if_neg c3] at H; have c3b0 : (t135 == 0) = false := beq_eq_false_iff_ne.mpr c3; have c3b1 : (t135 != 0) = true := bne_iff_ne.mpr c3; simp only [Option.some.injEq, Prod.mk.injEq] at H; obtain ⟨rfl, rfl⟩ := H; go_enter Tryd.func36, Tryd.ntmps36
  go_wp2_with (first | ((with_reducible refine gate_callee (f := 39) rfl ?_); refine goesL_ (some 6) rfl rfl Tryd.func39 (by kernel_rfl) rfl #[.slice A0 l0.length c0] rfl (by (try simp only [List.map_toArray, List.map_cons, List.map_nil]); first | done | rfl | (simp only [List.length_drop, List.length_take]; rfl)) ?_; (with_reducible refine (profile_Check.calls k _ _ l0 t135 _ ?side1 ?side2 A2.out).mono ?_); (case side1 => repeat (first | exact HR0.out | (with_reducible refine Kd.C_alloc ?_ _) | (with_reducible refine Kd.C_drewN ?_ _) | (with_reducible refine Kd.C_drew ?_))); (case side2 => exact HC0.out); rintro e w6 ⟨rfl, hb⟩; refine ⟨_, rfl, ?_⟩; have n0_ := Aside0.mk (below_step (by repeat (first | (with_reducible first | exact HB.out | apply below_alloc | apply pw_below_drewN | apply below_drew1) | exact HB.out)) hb); clear HB; have HB := n0_; clear n0_; (try clear hb); (try clear hb2); (try clear hk); (try clear hi)))
  go_ret2
  exact ⟨by first | rfl | (simp [errW_none, errW_some] <;> rfl) | (simp [*, errW_none, errW_some] <;> rfl), by repeat (first | (with_reducible first | exact HB.out | apply below_alloc | apply pw_below_drewN | apply below_drew1) | exact HB.out)⟩
end Go.Proofs.YtnhmlneebnkjcaaDoor.Pr
namespace Go.Proofs.YtnhmlneebnkjcaaDoor.X
open Go Go.Shelf Go.RowKit
set_option maxHeartbeats 2000000 in
set_option maxRecDepth 100000 in
theorem copyCheck_used (b : Nat) (w : World) (h0 : w.cell? ⟨b, 0, none⟩ = some (.pointer (some ⟨b, 0, none⟩))) :
    Calls Tryd.prog 61 #[.pointer (some ⟨b, 0, none⟩)] w fun e w' => e = .returned (.tuple #[]) ∧ w' = w := by
  obtain ⟨j, hj, hjs⟩ : ∃ j, Tryd.prog.info? 62 = some j ∧ j.size = 2 := Option.map_eq_some_iff.1 (by kernel_rfl : (Tryd.prog.info? 62).map (·.size) = some 2)
  go_enter Tryd.func61, Tryd.ntmps61
  go_wp2
  rw [Lib.run_neq_ptr_same w _ Tryd.underlying59 hj]
  go_wp2
  go_end0
  exact ⟨rfl, rfl⟩
set_option maxHeartbeats 2000000 in
set_option maxRecDepth 100000 in
theorem copyCheck_fresh (b : Nat) (w : World) (h0 : w.cell? ⟨b, 0, none⟩ = some (.pointer none)) (hsh : w.shape? b = some (62, 2)) (hfz : w.frozen? ⟨b, 0, none⟩ = false) :
    Calls Tryd.prog 61 #[.pointer (some ⟨b, 0, none⟩)] w fun e w' => e = .returned (.tuple #[]) ∧ w' = w.setCell ⟨b, 0, none⟩ (.pointer (some ⟨b, 0, none⟩)) := by
  obtain ⟨j, hj, hjs⟩ : ∃ j, Tryd.prog.info? 62 = some j ∧ j.size = 2 := Option.map_eq_some_iff.1 (by kernel_rfl : (Tryd.prog.info? 62).map (·.size) = some 2)
  go_enter Tryd.func61, Tryd.ntmps61
  go_wp2
  rw [Lib.run_to_unsafe w ⟨b, 0, none⟩ Tryd.underlying59 Tryd.underlying103 hj (by rw [hjs]; decide) hsh (Nat.zero_lt_succ 1)]
  simp only [Result.andThen]
  rw [Oper.upon_value]
  go_wp2
  rw [run_callFunc_extern Tryd.func72 (by kernel_rfl) (by kernel_rfl) (by kernel_rfl) (e := Extern.AbiNoEscape.same) (by kernel_rfl)]
  rw [Lib.run_noEscape]
  simp only [Result.andThen]
  rw [Oper.upon_value]
  go_wp2
  rw [Lib.run_from_unsafe w ⟨b, 0, none⟩ Tryd.underlying103 Tryd.underlying59 hj hsh (by kernel_rfl)]
  simp only [Result.andThen]
  rw [Oper.upon_value]
  go_wp2
  go_end0
  exact ⟨rfl, rfl⟩
theorem copyCheck (B b : Nat) (bs : List Value) (w : World) (h : Lib.IsBuilderF 62 5 B b bs w) :
    Calls Tryd.prog 61 #[.pointer (some ⟨b, 0, none⟩)] w fun e w' => e = .returned (.tuple #[]) ∧ (Lib.BuilderAtF 62 5 B b (.pointer (some ⟨b, 0, none⟩)) bs w' ∧ Below B w w' ∧ Lib.OthersKept 5 (some b) w w') := by
  rcases h with h | h
  · refine (copyCheck_fresh b w h.cell0 h.shape h.frozen0).mono ?_
    rintro e w' ⟨rfl, rfl⟩
    exact ⟨rfl, h.used _, (Below.refl B w).setCell (p := ⟨b, 0, none⟩) h.1 _, (Lib.OthersKept.refl _ _ w).setCell ⟨b, 0, none⟩ rfl _⟩
  · refine (copyCheck_used b w h.cell0).mono ?_
    rintro e w' ⟨rfl, rfl⟩
    exact ⟨rfl, h, Below.refl B _, Lib.OthersKept.refl _ _ _⟩
set_option maxHeartbeats 4000000 in
set_option maxRecDepth 100000 in
theorem writeString (B b : Nat) (bs : List Value) (s : ByteArray) (w : World) (h : Lib.IsBuilderF 62 5 B b bs w) (hlen : bs.length + s.size ≤ 140737488355328) (hBw : B ≤ w.heap.size) :
    Calls Tryd.prog 42 #[.pointer (some ⟨b, 0, none⟩), .string s] w fun e w' => e = .returned (.tuple #[.int .i64 s.size, .nilIface]) ∧ (Lib.IsBuilderF 62 5 B b (bs ++ Lib.strCells s) w' ∧ Below B w w' ∧ Lib.OthersKept 5 (some b) w w') := by
  obtain ⟨i0, hi, hz0, hz1, hz2⟩ := info_parts (by kernel_rfl : (Tryd.prog.info? 5).map (fun i => (i.zero, i.size, i.bytes)) = some (some (.int .u8 0), 1, 1))
  go_enter Tryd.func42, Tryd.ntmps42
  go_wp2_with (go_at_call 61; refine (copyCheck B b bs _ h).mono ?_)
  rintro e w1 ⟨rfl, h1, hb1, hk1⟩
  obtain ⟨hB, v, hbk, hown, hne⟩ := h1
  have c0 : w1.cell? ⟨b, 0, none⟩ = some (.pointer (some ⟨b, 0, none⟩)) := by rw [Lib.cell_of_heap hbk]; rfl
  have c1 : w1.cell? ⟨b, 1, none⟩ = some v := by rw [Lib.cell_of_heap hbk]; rfl
  go_wp2_with (at_builtin; refine Lib.wpList_append_own_stringF _ rfl _ _ 60 9 rfl B 5 i0 Tryd.underlying60 Tryd.underlying9 hi hz0 hz1 hz2 _ _ _ rfl hown s rfl ?c3 ?c4 ?c5 ?_)
  case c3 => unfold maxLen; omega
  case c4 => omega
  case c5 => have := hb1.size; omega
  intro v' w2 hown' hgrow _
  have hlt : b < w1.heap.size := by
    rcases Nat.lt_or_ge b w1.heap.size with h' | h'
    · exact h'
    · simp [Array.getElem?_eq_none h'] at hbk
  have hb2 : w2.heap[b]? = some (.cells #[.pointer (some ⟨b, 0, none⟩), v] 62 (0, 0)) := by
    rw [hgrow.block b hlt (fun e => hne e.symm)]
    exact hbk
  have d0 : w2.cell? ⟨b, 0, none⟩ = some (.pointer (some ⟨b, 0, none⟩)) := by rw [Lib.cell_of_heap hb2]; rfl
  have d1 : w2.cell? ⟨b, 1, none⟩ = some v := by rw [Lib.cell_of_heap hb2]; rfl
  have f1 : w2.frozen? ⟨b, 1, none⟩ = false := Lib.frozen_of_heap hb2 1
  obtain ⟨ao, n', cap, rfl⟩ : ∃ ao n' cap, v' = .slice ao n' cap := by
    rcases hown'.2 with ⟨hv, _⟩ | ⟨g, cap, cur, fz, hv, _⟩
    · exact ⟨_, _, _, hv⟩
    · exact ⟨_, _, _, hv⟩
  go_wp2
  go_ret2
  refine ⟨rfl, ?_, ?_, (hk1.grown hgrow (Lib.ownsRowF_kind hown)).setCell ⟨b, 1, none⟩ rfl _⟩
  · exact Or.inr (Lib.BuilderAtF.put (T := 62) (e := 5) hB hb2 (bs' := bs ++ Lib.strCells s) (by simpa [Lib.strCells_length] using hown') (by decide))
  · exact (hb1.grown hgrow (by have := hb1.size; omega) (fun k hk => (hown.lt k hk).1)).setCell (p := ⟨b, 1, none⟩) hB _
theorem bld_heap {T e : TypeId} {B b : Nat} {bs : List Value} {W W2 : World} (h : Lib.IsBuilderF T e B b bs W) (hk : ∀ i, i < W.heap.size → W2.heap[i]? = W.heap[i]?) : Lib.IsBuilderF T e B b bs W2 := by
  have lt : ∀ {i : Nat} {o : Obj}, W.heap[i]? = some o → i < W.heap.size := by
    intro i o h
    rcases Nat.lt_or_ge i W.heap.size with h' | h'
    · exact h'
    · simp [Array.getElem?_eq_none h'] at h
  have key : ∀ p, Lib.BuilderAtF T e B b p bs W → Lib.BuilderAtF T e B b p bs W2 := by
    rintro p ⟨hB, v, hb, hown, hne⟩
    refine ⟨hB, v, (hk b (lt hb)).trans hb, ⟨hown.1, ?_⟩, hne⟩
    rcases hown.2 with h | ⟨g, cap, cur, fz, hv, hBg, hg, rest⟩
    · exact .inl h
    · exact .inr ⟨g, cap, cur, fz, hv, hBg, (hk g (lt hg)).trans hg, rest⟩
  exact h.elim (fun x => .inl (key _ x)) (fun x => .inr (key _ x))
theorem bld_below {T e : TypeId} {B b : Nat} {bs : List Value} {W W2 : World} (h : Lib.IsBuilderF T e B b bs W) (hb : Below W.heap.size W W2) : Lib.IsBuilderF T e B b bs W2 := bld_heap h hb.block
theorem bld_size {T e : TypeId} {B b : Nat} {bs : List Value} {W : World} (h : Lib.IsBuilderF T e B b bs W) : B ≤ W.heap.size := by
  have : ∀ p, Lib.BuilderAtF T e B b p bs W → B ≤ W.heap.size := by
    rintro p ⟨hB, v, hb, _⟩
    rcases Nat.lt_or_ge b W.heap.size with h' | h'
    · omega
    · simp [Array.getElem?_eq_none h'] at hb
  exact h.elim (this _) (this _)
theorem others_blk {b g : Nat} {cs : Array Value} {t : TypeId} {w w' : World} (h : Lib.OthersKept 5 (some b) w w') (hg : w.heap[g]? = some (.cells cs t (0, 0))) (hgb : g ≠ b) (ht : t ≠ 5) : w'.heap[g]? = some (.cells cs t (0, 0)) :=
  h g _ hg (fun e => hgb (Option.some.inj e)) (fun _ _ e => by injection e with _ e2 _; exact ht e2)
theorem bld_ne {T e : TypeId} {B b : Nat} {bs : List Value} {W : World} (h : Lib.IsBuilderF T e B b bs W) : W.heap.size ≠ b := by
  have : ∀ p, Lib.BuilderAtF T e B b p bs W → W.heap.size ≠ b := by
    rintro p ⟨hB, v, hb, _⟩ rfl
    simp [Array.getElem?_eq_none (Nat.le_refl W.heap.size)] at hb
  exact h.elim (this _) (this _)
theorem below_mine {B : Nat} {w W W2 : World} (h : Below w.heap.size w W) (k : Below B W W2) (hB : w.heap.size ≤ B) : Below w.heap.size w W2 := h.trans (k.mono hB)
/-- A write, over bytes. -/
theorem writeBytes (B b : Nat) (acc : List UInt8) (s : ByteArray) (w : World) (h : Lib.IsBuilderF 62 5 B b (Lib.byteCells acc) w) (hlen : acc.length + s.size ≤ 140737488355328) :
    Calls Tryd.prog 42 #[.pointer (some ⟨b, 0, none⟩), .string s] w fun e w' => (∃ n : Int, e = .returned (.tuple #[.int .i64 n, .nilIface])) ∧ Lib.IsBuilderF 62 5 B b (Lib.byteCells (acc ++ s.data.toList)) w' ∧ Below B w w' ∧ Lib.OthersKept 5 (some b) w w' := by
  refine (writeString B b (Lib.byteCells acc) s w h (by rw [Lib.byteCells_length]; exact hlen) (bld_size h)).mono ?_
  rintro e w' ⟨rfl, h1, hb, hk⟩
  refine ⟨⟨_, rfl⟩, ?_, hb, hk⟩
  rw [Lib.strCells_eq] at h1
  simpa [Lib.byteCells] using h1
end Go.Proofs.YtnhmlneebnkjcaaDoor.X
namespace Go.Proofs.YtnhmlneebnkjcaaDoor.Pr
open Go.RowKit Go.Proofs.YtnhmlneebnkjcaaDoorW.PrintWords Go.Proofs.YtnhmlneebnkjcaaDoorW.PrintLast Go.Proofs.YtnhmlneebnkjcaaDoorW.PrintMore Go.Proofs.YtnhmlneebnkjcaaDoor.X
attribute [local go_sem] max2_int min2_int max_two min_two max_three min_three max_four min_four   -- for this text's walks alone
set_option linter.unusedVariables false
set_option linter.unusedSimpArgs false
def cask_Depth.f (k : Nat) (a0_0 : ByteArray) (a0_1 : Int) (l0_2 : List (S46)) (a0_3 : Int) : Option (Int × Int) := (cask_Check.f k a0_0 a0_1 l0_2 a0_3).bind fun t138 => (if t138 = 0 then (if a0_1 = 1 then ((profile_Bung.f k l0_2).bind fun bt139 => (if 0 ≤ bt139.1 then (if bt139.1 < (l0_2.length : Int) then (some (wrap64 (2 * ((rd_T46 l0_2 bt139.1).f1)), bt139.2)) else (none)) else (none))) else ((profile_Length.f k l0_2).bind fun bt142 => (some (bt142.1, bt142.2)))) else (some (0, t138)))
set_option maxHeartbeats 8000000 in
set_option maxRecDepth 100000 in
theorem cask_Depth.calls (k : Nat) (a0_0 : ByteArray) (a0_1 : Int) (A0_2 : Option Addr) (c0_2 : Nat) (l0_2 : List (S46)) (a0_3 : Int) (r1 : Int) (r2 : Int) (w : World) (hr0_2 : Kd.C k46 w A0_2 l0_2.length l0_2) (hc0_2 : l0_2.length ≤ c0_2) (h : cask_Depth.f k a0_0 a0_1 l0_2 a0_3 = some (r1, r2)) :
  Calls Tryd.prog 18 #[.agg #[.string a0_0, .int .i64 a0_1, .slice A0_2 l0_2.length c0_2, .int .i64 a0_3]] w fun e w' => e = .returned (.tuple #[.int .i64 r1, .int .i64 r2]) ∧ Below w.heap.size w w' := by
 have hu27 := Tryd.underlying27; have HR0_2 := Aside0.mk hr0_2; have HC0_2 := Aside0.mk hc0_2; clear hr0_2 hc0_2; have HB := Aside0.mk (Below.refl w.heap.size w); have H : ((cask_Check.f k a0_0 a0_1 l0_2 a0_3).bind fun t138 => (if t138 = 0 then (if a0_1 = 1 then ((profile_Bung.f k l0_2).bind fun bt139 => (if 0 ≤ bt139.1 then (if bt139.1 < (l0_2.length : Int) then (some (wrap64 (2 * ((rd_T46 l0_2 bt139.1).f1)), bt139.2)) else (none)) else (none))) else ((profile_Length.f k l0_2).bind fun bt142 => (some (bt142.1, bt142.2)))) else (some (0, t138)))) = some (r1, r2) := h; clear h; replace H := Option.bind_eq_some_iff.mp H; obtain ⟨t138, A20, H⟩ := H; replace H : (if t138 = 0 then (if a0_1 = 1 then ((profile_Bung.f k l0_2).bind fun bt139 => (if 0 ≤ bt139.1 then (if bt139.1 < (l0_2.length : Int) then (some (wrap64 (2 * ((rd_T46 l0_2 bt139.1).f1)), bt139.2)) else (none)) else (none))) else ((profile_Length.f k l0_2).bind fun bt142 => (some (bt142.1, bt142.2)))) else (some (0, t138))) = some (r1, r2) := H; have A2 := Aside0.mk A20; clear A20; by_cases c3 : t138 = 0
 ·
  rw [if_pos c3] at H; have c3b0 : (t138 == 0) = true := beq_iff_eq.mpr c3; have c3b1 : (t138 != 0) = false := bne_eq_false_iff_eq.mpr c3; clear c3; by_cases c4 : a0_1 = 1
  ·
   rw [if_pos c4] at H; have c4b0 : (a0_1 == 1) = true := beq_iff_eq.mpr c4; have c4b1 : (a0_1 != 1) = false := bne_eq_false_iff_eq.mpr c4; clear c4; replace H := Option.bind_eq_some_iff.mp H; obtain ⟨⟨t139, t140⟩, A50, H⟩ := H; replace H : (if 0 ≤ t139 then (if t139 < (l0_2.length : Int) then (some (wrap64 (2 * ((rd_T46 l0_2 t139).f1)), t140)) else (none)) else (none)) = some (r1, r2) := H; have A5 := Aside0.mk A50; clear A50; by_cases c6 : 0 ≤ t139
   ·
    rw [if_pos c6] at H; have c6b0 : decide (0 ≤ t139) = true := decide_eq_true c6; clear c6; by_cases c7 : t139 < (l0_2.length : Int)
    ·
     rw [if_pos c7] at H; have c7b0 : decide (t139 < (l0_2.length : Int)) = true := decide_eq_true c7; clear c7; simp only [Option.some.injEq, Prod.mk.injEq] at H; obtain ⟨rfl, rfl⟩ := H; go_enter Tryd.func18, Tryd.ntmps18
     go_wp2_with (first | ((with_reducible refine gate_dst (N := 1) rfl ?_); refine box_event ?hg (N := 1) ?hd (cs := #[.string a0_0, .int .i64 a0_1, .slice A0_2 l0_2.length c0_2, .int .i64 a0_3]) (t := 27) ?hr ?_; (case hd => rfl); (case hg => rfl); (case hr => first | (go_simp; done) | (go_simp; rfl)); intro gb137 hg w8 hbox hb; have n0_ := Aside0.mk (below_step (by repeat (first | (with_reducible first | exact HB.out | apply below_alloc | apply pw_below_drewN | apply below_drew1) | exact HB.out)) hb); have n1_ := Aside0.mk (hbox); have n2_ := Aside0.mk ((by rw [hg]; exact (below_size (by repeat (first | (with_reducible first | exact HB.out | apply below_alloc | apply pw_below_drewN | apply below_drew1) | exact HB.out))) : w.heap.size ≤ gb137)); have n3_ := Aside0.mk ((by rw [hg]; exact (below_size (by repeat (first | (with_reducible first | exact HB.out | apply below_alloc | apply pw_below_drewN | apply below_drew1) | exact HB.out))) : w.heap.size ≤ gb137)); clear HB; have HB := n0_; have BK137 := n1_; have GW137 := n2_; have GE137 := n3_; clear n0_ n1_ n2_ n3_; clear hb hbox hg; have hcz9_0 : w8.cell? ⟨gb137, 0, none⟩ = some (.string a0_0) := (blk_cell BK137.out 0).trans rfl; have hcz9_1 : w8.cell? ⟨gb137, 1, none⟩ = some (.int .i64 a0_1) := (blk_cell BK137.out 1).trans rfl; have hcz9_2 : w8.cell? ⟨gb137, 2, none⟩ = some (.slice A0_2 l0_2.length c0_2) := (blk_cell BK137.out 2).trans rfl; have hcz9_3 : w8.cell? ⟨gb137, 3, none⟩ = some (.int .i64 a0_3) := (blk_cell BK137.out 3).trans rfl; have hfz9_0 := blk_frozen BK137.out 0; have hfz9_1 := blk_frozen BK137.out 1; have hfz9_2 := blk_frozen BK137.out 2; have hfz9_3 := blk_frozen BK137.out 3) | ((with_reducible refine gate_callee (f := 20) rfl ?_); refine goesL_ (some 8) rfl rfl Tryd.func20 (by kernel_rfl) rfl #[.agg #[.string a0_0, .int .i64 a0_1, .slice A0_2 l0_2.length c0_2, .int .i64 a0_3]] rfl (by (try simp only [List.map_toArray, List.map_cons, List.map_nil]); first | done | rfl | (simp only [List.length_drop, List.length_take]; rfl)) ?_; (with_reducible refine (cask_Check.calls k a0_0 a0_1 _ _ l0_2 a0_3 t138 _ ?side1 ?side2 A2.out).mono ?_); (case side1 => repeat (first | exact (Kd.C_below HR0_2.out HB.out) | (with_reducible refine Kd.C_alloc ?_ _) | (with_reducible refine Kd.C_drewN ?_ _) | (with_reducible refine Kd.C_drew ?_))); (case side2 => exact HC0_2.out); rintro e w10 ⟨rfl, hb⟩; refine ⟨_, rfl, ?_⟩; have n0_ := Aside0.mk (blk_below (g := gb137) (o := .cells #[.string a0_0, .int .i64 a0_1, .slice A0_2 l0_2.length c0_2, .int .i64 a0_3] 27 (0, 0)) (by (with_reducible repeat (first | refine blk_drewN ?_ _ | refine blk_drew ?_ | refine blk_alloc ?_ _)); exact BK137.out) hb); have n1_ := Aside0.mk (below_step (by repeat (first | (with_reducible first | exact HB.out | apply below_alloc | apply pw_below_drewN | apply below_drew1 | refine below_set ?_ GE137.out) | exact HB.out)) hb); clear BK137; clear HB; have BK137 := n0_; have HB := n1_; clear n0_ n1_; (try clear hb); (try clear hb2); (try clear hk); (try clear hi); have hcz11_0 : w10.cell? ⟨gb137, 0, none⟩ = some (.string a0_0) := (blk_cell BK137.out 0).trans rfl; have hcz11_1 : w10.cell? ⟨gb137, 1, none⟩ = some (.int .i64 a0_1) := (blk_cell BK137.out 1).trans rfl; have hcz11_2 : w10.cell? ⟨gb137, 2, none⟩ = some (.slice A0_2 l0_2.length c0_2) := (blk_cell BK137.out 2).trans rfl; have hcz11_3 : w10.cell? ⟨gb137, 3, none⟩ = some (.int .i64 a0_3) := (blk_cell BK137.out 3).trans rfl; have hfz11_0 := blk_frozen BK137.out 0; have hfz11_1 := blk_frozen BK137.out 1; have hfz11_2 := blk_frozen BK137.out 2; have hfz11_3 := blk_frozen BK137.out 3) | ((with_reducible refine gate_callee (f := 35) rfl ?_); refine goesL_ (some 18) rfl rfl Tryd.func35 (by kernel_rfl) rfl #[.slice A0_2 l0_2.length c0_2] rfl (by (try simp only [List.map_toArray, List.map_cons, List.map_nil]); first | done | rfl | (simp only [List.length_drop, List.length_take]; rfl)) ?_; (with_reducible refine (profile_Bung.calls k _ _ l0_2 t139 t140 _ ?side1 ?side2 A5.out).mono ?_); (case side1 => repeat (first | exact (Kd.C_below HR0_2.out HB.out) | (with_reducible refine Kd.C_alloc ?_ _) | (with_reducible refine Kd.C_drewN ?_ _) | (with_reducible refine Kd.C_drew ?_))); (case side2 => exact HC0_2.out); rintro e w12 ⟨rfl, hb⟩; refine ⟨_, rfl, ?_⟩; have n0_ := Aside0.mk (blk_below (g := gb137) (o := .cells #[.string a0_0, .int .i64 a0_1, .slice A0_2 l0_2.length c0_2, .int .i64 a0_3] 27 (0, 0)) (by (with_reducible repeat (first | refine blk_drewN ?_ _ | refine blk_drew ?_ | refine blk_alloc ?_ _)); exact BK137.out) hb); have n1_ := Aside0.mk (below_step (by repeat (first | (with_reducible first | exact HB.out | apply below_alloc | apply pw_below_drewN | apply below_drew1 | refine below_set ?_ GE137.out) | exact HB.out)) hb); clear BK137; clear HB; have BK137 := n0_; have HB := n1_; clear n0_ n1_; (try clear hb); (try clear hb2); (try clear hk); (try clear hi); have hcz13_0 : w12.cell? ⟨gb137, 0, none⟩ = some (.string a0_0) := (blk_cell BK137.out 0).trans rfl; have hcz13_1 : w12.cell? ⟨gb137, 1, none⟩ = some (.int .i64 a0_1) := (blk_cell BK137.out 1).trans rfl; have hcz13_2 : w12.cell? ⟨gb137, 2, none⟩ = some (.slice A0_2 l0_2.length c0_2) := (blk_cell BK137.out 2).trans rfl; have hcz13_3 : w12.cell? ⟨gb137, 3, none⟩ = some (.int .i64 a0_3) := (blk_cell BK137.out 3).trans rfl; have hfz13_0 := blk_frozen BK137.out 0; have hfz13_1 := blk_frozen BK137.out 1; have hfz13_2 := blk_frozen BK137.out 2; have hfz13_3 := blk_frozen BK137.out 3; have p141 : 0 ≤ (t139 : Int) := of_decide_eq_true (by first | (with_reducible assumption) | assumption); have q141 : t139 < (l0_2.length : Int) := of_decide_eq_true (by first | (with_reducible assumption) | assumption); obtain ⟨ad141, e141, hx141_0, hx141_1⟩ := at_T46 HR0_2.out t139 p141 q141; cases e141; replace hx141_0 := (HB.out.cell (World.block_lt_of_cell? w _ hx141_0)).trans hx141_0; replace hx141_1 := (HB.out.cell (World.block_lt_of_cell? w _ hx141_1)).trans hx141_1; replace p141 := eq_true p141; replace q141 := eq_true q141))
     go_ret2
     exact ⟨by first | rfl | (simp [errW_none, errW_some] <;> rfl) | (simp [*, errW_none, errW_some] <;> rfl), by repeat (first | (with_reducible first | exact HB.out | apply below_alloc | apply pw_below_drewN | apply below_drew1 | refine below_set ?_ GE137.out) | exact HB.out)⟩
    · rw [if_neg c7] at H; exact absurd H (by simp)
   · rw [if_neg c6] at H; exact absurd H (by simp)
  ·
   rw [if_neg c4] at H; have c4b0 : (a0_1 == 1) = false := beq_eq_false_iff_ne.mpr c4; have c4b1 : (a0_1 != 1) = true := bne_iff_ne.mpr c4; replace H := Option.bind_eq_some_iff.mp H; obtain ⟨⟨t142, t143⟩, A140, H⟩ := H; replace H : (some (t142, t143)) = some (r1, r2) := H; have A14 := Aside0.mk A140; clear A140; simp only [Option.some.injEq, Prod.mk.injEq] at H; obtain ⟨rfl, rfl⟩ := H; go_enter Tryd.func18, Tryd.ntmps18
   go_wp2_with (first | ((with_reducible refine gate_dst (N := 1) rfl ?_); refine box_event ?hg (N := 1) ?hd (cs := #[.string a0_0, .int .i64 a0_1, .slice A0_2 l0_2.length c0_2, .int .i64 a0_3]) (t := 27) ?hr ?_; (case hd => rfl); (case hg => rfl); (case hr => first | (go_simp; done) | (go_simp; rfl)); intro gb137 hg w15 hbox hb; have n0_ := Aside0.mk (below_step (by repeat (first | (with_reducible first | exact HB.out | apply below_alloc | apply pw_below_drewN | apply below_drew1) | exact HB.out)) hb); have n1_ := Aside0.mk (hbox); have n2_ := Aside0.mk ((by rw [hg]; exact (below_size (by repeat (first | (with_reducible first | exact HB.out | apply below_alloc | apply pw_below_drewN | apply below_drew1) | exact HB.out))) : w.heap.size ≤ gb137)); have n3_ := Aside0.mk ((by rw [hg]; exact (below_size (by repeat (first | (with_reducible first | exact HB.out | apply below_alloc | apply pw_below_drewN | apply below_drew1) | exact HB.out))) : w.heap.size ≤ gb137)); clear HB; have HB := n0_; have BK137 := n1_; have GW137 := n2_; have GE137 := n3_; clear n0_ n1_ n2_ n3_; clear hb hbox hg; have hcz16_0 : w15.cell? ⟨gb137, 0, none⟩ = some (.string a0_0) := (blk_cell BK137.out 0).trans rfl; have hcz16_1 : w15.cell? ⟨gb137, 1, none⟩ = some (.int .i64 a0_1) := (blk_cell BK137.out 1).trans rfl; have hcz16_2 : w15.cell? ⟨gb137, 2, none⟩ = some (.slice A0_2 l0_2.length c0_2) := (blk_cell BK137.out 2).trans rfl; have hcz16_3 : w15.cell? ⟨gb137, 3, none⟩ = some (.int .i64 a0_3) := (blk_cell BK137.out 3).trans rfl; have hfz16_0 := blk_frozen BK137.out 0; have hfz16_1 := blk_frozen BK137.out 1; have hfz16_2 := blk_frozen BK137.out 2; have hfz16_3 := blk_frozen BK137.out 3) | ((with_reducible refine gate_callee (f := 20) rfl ?_); refine goesL_ (some 8) rfl rfl Tryd.func20 (by kernel_rfl) rfl #[.agg #[.string a0_0, .int .i64 a0_1, .slice A0_2 l0_2.length c0_2, .int .i64 a0_3]] rfl (by (try simp only [List.map_toArray, List.map_cons, List.map_nil]); first | done | rfl | (simp only [List.length_drop, List.length_take]; rfl)) ?_; (with_reducible refine (cask_Check.calls k a0_0 a0_1 _ _ l0_2 a0_3 t138 _ ?side1 ?side2 A2.out).mono ?_); (case side1 => repeat (first | exact (Kd.C_below HR0_2.out HB.out) | (with_reducible refine Kd.C_alloc ?_ _) | (with_reducible refine Kd.C_drewN ?_ _) | (with_reducible refine Kd.C_drew ?_))); (case side2 => exact HC0_2.out); rintro e w17 ⟨rfl, hb⟩; refine ⟨_, rfl, ?_⟩; have n0_ := Aside0.mk (blk_below (g := gb137) (o := .cells #[.string a0_0, .int .i64 a0_1, .slice A0_2 l0_2.length c0_2, .int .i64 a0_3] 27 (0, 0)) (by (with_reducible repeat (first | refine blk_drewN ?_ _ | refine blk_drew ?_ | refine blk_alloc ?_ _)); exact BK137.out) hb); have n1_ := Aside0.mk (below_step (by repeat (first | (with_reducible first | exact HB.out | apply below_alloc | apply pw_below_drewN | apply below_drew1 | refine below_set ?_ GE137.out) | exact HB.out)) hb); clear BK137; clear HB; have BK137 := n0_; have HB := n1_; clear n0_ n1_; (try clear hb); (try clear hb2); (try clear hk); (try clear hi); have hcz18_0 : w17.cell? ⟨gb137, 0, none⟩ = some (.string a0_0) := (blk_cell BK137.out 0).trans rfl; have hcz18_1 : w17.cell? ⟨gb137, 1, none⟩ = some (.int .i64 a0_1) := (blk_cell BK137.out 1).trans rfl; have hcz18_2 : w17.cell? ⟨gb137, 2, none⟩ = some (.slice A0_2 l0_2.length c0_2) := (blk_cell BK137.out 2).trans rfl; have hcz18_3 : w17.cell? ⟨gb137, 3, none⟩ = some (.int .i64 a0_3) := (blk_cell BK137.out 3).trans rfl; have hfz18_0 := blk_frozen BK137.out 0; have hfz18_1 := blk_frozen BK137.out 1; have hfz18_2 := blk_frozen BK137.out 2; have hfz18_3 := blk_frozen BK137.out 3) | ((with_reducible refine gate_callee (f := 36) rfl ?_); refine goesL_ (some 31) rfl rfl Tryd.func36 (by kernel_rfl) rfl #[.slice A0_2 l0_2.length c0_2] rfl (by (try simp only [List.map_toArray, List.map_cons, List.map_nil]); first | done | rfl | (simp only [List.length_drop, List.length_take]; rfl)) ?_; (with_reducible refine (profile_Length.calls k _ _ l0_2 t142 t143 _ ?side1 ?side2 A14.out).mono ?_); (case side1 => repeat (first | exact (Kd.C_below HR0_2.out HB.out) | (with_reducible refine Kd.C_alloc ?_ _) | (with_reducible refine Kd.C_drewN ?_ _) | (with_reducible refine Kd.C_drew ?_))); (case side2 => exact HC0_2.out); rintro e w19 ⟨rfl, hb⟩; refine ⟨_, rfl, ?_⟩; have n0_ := Aside0.mk (blk_below (g := gb137) (o := .cells #[.string a0_0, .int .i64 a0_1, .slice A0_2 l0_2.length c0_2, .int .i64 a0_3] 27 (0, 0)) (by (with_reducible repeat (first | refine blk_drewN ?_ _ | refine blk_drew ?_ | refine blk_alloc ?_ _)); exact BK137.out) hb); have n1_ := Aside0.mk (below_step (by repeat (first | (with_reducible first | exact HB.out | apply below_alloc | apply pw_below_drewN | apply below_drew1 | refine below_set ?_ GE137.out) | exact HB.out)) hb); clear BK137; clear HB; have BK137 := n0_; have HB := n1_; clear n0_ n1_; (try clear hb); (try clear hb2); (try clear hk); (try clear hi)))
   go_ret2
   exact ⟨by first | rfl | (simp [errW_none, errW_some] <;> rfl) | (simp [*, errW_none, errW_some] <;> rfl), by repeat (first | (with_reducible first | exact HB.out | apply below_alloc | apply pw_below_drewN | apply below_drew1 | refine below_set ?_ GE137.out) | exact HB.out)⟩
 ·
  rw [if_neg c3] at H; have c3b0 : (t138 == 0) = false := beq_eq_false_iff_ne.mpr c3; have c3b1 : (t138 != 0) = true := bne_iff_ne.mpr c3; simp only [Option.some.injEq, Prod.mk.injEq] at H; obtain ⟨rfl, rfl⟩ := H; go_enter Tryd.func18, Tryd.ntmps18
  go_wp2_with (first | ((with_reducible refine gate_dst (N := 1) rfl ?_); refine box_event ?hg (N := 1) ?hd (cs := #[.string a0_0, .int .i64 a0_1, .slice A0_2 l0_2.length c0_2, .int .i64 a0_3]) (t := 27) ?hr ?_; (case hd => rfl); (case hg => rfl); (case hr => first | (go_simp; done) | (go_simp; rfl)); intro gb137 hg w20 hbox hb; have n0_ := Aside0.mk (below_step (by repeat (first | (with_reducible first | exact HB.out | apply below_alloc | apply pw_below_drewN | apply below_drew1) | exact HB.out)) hb); have n1_ := Aside0.mk (hbox); have n2_ := Aside0.mk ((by rw [hg]; exact (below_size (by repeat (first | (with_reducible first | exact HB.out | apply below_alloc | apply pw_below_drewN | apply below_drew1) | exact HB.out))) : w.heap.size ≤ gb137)); have n3_ := Aside0.mk ((by rw [hg]; exact (below_size (by repeat (first | (with_reducible first | exact HB.out | apply below_alloc | apply pw_below_drewN | apply below_drew1) | exact HB.out))) : w.heap.size ≤ gb137)); clear HB; have HB := n0_; have BK137 := n1_; have GW137 := n2_; have GE137 := n3_; clear n0_ n1_ n2_ n3_; clear hb hbox hg; have hcz21_0 : w20.cell? ⟨gb137, 0, none⟩ = some (.string a0_0) := (blk_cell BK137.out 0).trans rfl; have hcz21_1 : w20.cell? ⟨gb137, 1, none⟩ = some (.int .i64 a0_1) := (blk_cell BK137.out 1).trans rfl; have hcz21_2 : w20.cell? ⟨gb137, 2, none⟩ = some (.slice A0_2 l0_2.length c0_2) := (blk_cell BK137.out 2).trans rfl; have hcz21_3 : w20.cell? ⟨gb137, 3, none⟩ = some (.int .i64 a0_3) := (blk_cell BK137.out 3).trans rfl; have hfz21_0 := blk_frozen BK137.out 0; have hfz21_1 := blk_frozen BK137.out 1; have hfz21_2 := blk_frozen BK137.out 2; have hfz21_3 := blk_frozen BK137.out 3) | ((with_reducible refine gate_callee (f := 20) rfl ?_); refine goesL_ (some 8) rfl rfl Tryd.func20 (by kernel_rfl) rfl #[.agg #[.string a0_0, .int .i64 a0_1, .slice A0_2 l0_2.length c0_2, .int .i64 a0_3]] rfl (by (try simp only [List.map_toArray, List.map_cons, List.map_nil]); first | done | rfl | (simp only [List.length_drop, List.length_take]; rfl)) ?_; (with_reducible refine (cask_Check.calls k a0_0 a0_1 _ _ l0_2 a0_3 t138 _ ?side1 ?side2 A2.out).mono ?_); (case side1 => repeat (first | exact (Kd.C_below HR0_2.out HB.out) | (with_reducible refine Kd.C_alloc ?_ _) | (with_reducible refine Kd.C_drewN ?_ _) | (with_reducible refine Kd.C_drew ?_))); (case side2 => exact HC0_2.out); rintro e w22 ⟨rfl, hb⟩; refine ⟨_, rfl, ?_⟩; have n0_ := Aside0.mk (blk_below (g := gb137) (o := .cells #[.string a0_0, .int .i64 a0_1, .slice A0_2 l0_2.length c0_2, .int .i64 a0_3] 27 (0, 0)) (by (with_reducible repeat (first | refine blk_drewN ?_ _ | refine blk_drew ?_ | refine blk_alloc ?_ _)); exact BK137.out) hb); have n1_ := Aside0.mk (below_step (by repeat (first | (with_reducible first | exact HB.out | apply below_alloc | apply pw_below_drewN | apply below_drew1 | refine below_set ?_ GE137.out) | exact HB.out)) hb); clear BK137; clear HB; have BK137 := n0_; have HB := n1_; clear n0_ n1_; (try clear hb); (try clear hb2); (try clear hk); (try clear hi)))
  go_ret2
  exact ⟨by first | rfl | (simp [errW_none, errW_some] <;> rfl) | (simp [*, errW_none, errW_some] <;> rfl), by repeat (first | (with_reducible first | exact HB.out | apply below_alloc | apply pw_below_drewN | apply below_drew1 | refine below_set ?_ GE137.out) | exact HB.out)⟩
def cask_Print.app (acc : List UInt8) (s : ByteArray) : Option (List UInt8) := if acc.length + s.size ≤ 140737488355328 then some (acc ++ s.data.toList) else none
def cask_Print.word (p : Int) : ByteArray := if p = 2 then ⟨#[115, 116, 97, 110, 100, 105, 110, 103]⟩ else ⟨#[108, 121, 105, 110, 103]⟩
def cask_Print.head (x : S27) : Option ByteArray := (strconv_Itoa.f x.f3).bind fun a => if a.size ≤ 100 ∧ x.f0.size ≤ 1000 then some ((((((⟨#[99, 97, 115, 107, 32]⟩ ++ x.f0) ++ ⟨#[32]⟩) ++ cask_Print.word x.f1) ++ ⟨#[32, 100, 101, 99, 108, 97, 114, 101, 100, 32]⟩) ++ a) ++ ⟨#[10]⟩) else none
def cask_Print.part (x : S46) : Option ByteArray := (strconv_Itoa.f x.f0).bind fun a => (strconv_Itoa.f x.f1).bind fun b => if a.size ≤ 100 ∧ b.size ≤ 100 then some ((((⟨#[97, 116, 32]⟩ ++ a) ++ ⟨#[32, 114, 97, 100, 105, 117, 115, 32]⟩) ++ b) ++ ⟨#[10]⟩) else none
mutual
def cask_Print.l1 : Nat → List S27 → List UInt8 → Int → Int → Option (ByteArray × Int)
 | 0, _, _, _, _ => none
 | k + 1, l, acc, i, j => if j < ((rd_T27 l i).f2.length : Int) then (if 0 ≤ j then ((cask_Print.part (rd_T46 (rd_T27 l i).f2 j)).bind fun s => (cask_Print.app acc s).bind fun acc2 => cask_Print.l1 k l acc2 i (wrap64 (j + 1))) else none) else ((cask_Print.app acc ⟨#[101, 110, 100, 10]⟩).bind fun acc2 => cask_Print.l0 k l acc2 (wrap64 (i + 1)))
def cask_Print.l0 : Nat → List S27 → List UInt8 → Int → Option (ByteArray × Int)
 | 0, _, _, _ => none
 | k + 1, l, acc, i => if i < (l.length : Int) then (if 0 ≤ i then ((cask_Print.head (rd_T27 l i)).bind fun s => (cask_Print.app acc s).bind fun acc2 => cask_Print.l1 k l acc2 i 0) else none) else some (⟨acc.toArray⟩, 0)
end
def cask_Print.f (k : Nat) (l0 : List (S27)) : Option (ByteArray × Int) := (cask_List.f k l0).bind fun t => if t = 0 then cask_Print.l0 k l0 [] 0 else some (⟨#[]⟩, t)
theorem cask_Print.addh (n v a : ByteArray) (hn : n.size ≤ 1000) (hv : v.size ≤ 8) (ha : a.size ≤ 100) :
  (∀ w, (Op.stringOp .add ⟨#[99, 97, 115, 107, 32]⟩ n).run Tryd.prog w = .ok (.string (⟨#[99, 97, 115, 107, 32]⟩ ++ n)) w) ∧
  (∀ w, (Op.stringOp .add (⟨#[99, 97, 115, 107, 32]⟩ ++ n) ⟨#[32]⟩).run Tryd.prog w = .ok (.string ((⟨#[99, 97, 115, 107, 32]⟩ ++ n) ++ ⟨#[32]⟩)) w) ∧
  (∀ w, (Op.stringOp .add ((⟨#[99, 97, 115, 107, 32]⟩ ++ n) ++ ⟨#[32]⟩) v).run Tryd.prog w = .ok (.string (((⟨#[99, 97, 115, 107, 32]⟩ ++ n) ++ ⟨#[32]⟩) ++ v)) w) ∧
  (∀ w, (Op.stringOp .add (((⟨#[99, 97, 115, 107, 32]⟩ ++ n) ++ ⟨#[32]⟩) ++ v) ⟨#[32, 100, 101, 99, 108, 97, 114, 101, 100, 32]⟩).run Tryd.prog w = .ok (.string ((((⟨#[99, 97, 115, 107, 32]⟩ ++ n) ++ ⟨#[32]⟩) ++ v) ++ ⟨#[32, 100, 101, 99, 108, 97, 114, 101, 100, 32]⟩)) w) ∧
  (∀ w, (Op.stringOp .add ((((⟨#[99, 97, 115, 107, 32]⟩ ++ n) ++ ⟨#[32]⟩) ++ v) ++ ⟨#[32, 100, 101, 99, 108, 97, 114, 101, 100, 32]⟩) a).run Tryd.prog w = .ok (.string (((((⟨#[99, 97, 115, 107, 32]⟩ ++ n) ++ ⟨#[32]⟩) ++ v) ++ ⟨#[32, 100, 101, 99, 108, 97, 114, 101, 100, 32]⟩) ++ a)) w) ∧
  (∀ w, (Op.stringOp .add (((((⟨#[99, 97, 115, 107, 32]⟩ ++ n) ++ ⟨#[32]⟩) ++ v) ++ ⟨#[32, 100, 101, 99, 108, 97, 114, 101, 100, 32]⟩) ++ a) ⟨#[10]⟩).run Tryd.prog w = .ok (.string ((((((⟨#[99, 97, 115, 107, 32]⟩ ++ n) ++ ⟨#[32]⟩) ++ v) ++ ⟨#[32, 100, 101, 99, 108, 97, 114, 101, 100, 32]⟩) ++ a) ++ ⟨#[10]⟩)) w) := by
 have s1 : (⟨#[99, 97, 115, 107, 32]⟩ : ByteArray).size = 5 := rfl
 have s2 : (⟨#[32]⟩ : ByteArray).size = 1 := rfl
 have s3 : (⟨#[32, 100, 101, 99, 108, 97, 114, 101, 100, 32]⟩ : ByteArray).size = 10 := rfl
 have s4 : (⟨#[10]⟩ : ByteArray).size = 1 := rfl
 refine ⟨fun w => ?_, fun w => ?_, fun w => ?_, fun w => ?_, fun w => ?_, fun w => ?_⟩
 all_goals
  refine run_string_add_sum _ _ _ ?_
  simp only [ByteArray.size_append, s1, s2, s3, s4]
  omega
theorem cask_Print.addp (a b : ByteArray) (ha : a.size ≤ 100) (hb : b.size ≤ 100) :
  (∀ w, (Op.stringOp .add ⟨#[97, 116, 32]⟩ a).run Tryd.prog w = .ok (.string (⟨#[97, 116, 32]⟩ ++ a)) w) ∧
  (∀ w, (Op.stringOp .add (⟨#[97, 116, 32]⟩ ++ a) ⟨#[32, 114, 97, 100, 105, 117, 115, 32]⟩).run Tryd.prog w = .ok (.string ((⟨#[97, 116, 32]⟩ ++ a) ++ ⟨#[32, 114, 97, 100, 105, 117, 115, 32]⟩)) w) ∧
  (∀ w, (Op.stringOp .add ((⟨#[97, 116, 32]⟩ ++ a) ++ ⟨#[32, 114, 97, 100, 105, 117, 115, 32]⟩) b).run Tryd.prog w = .ok (.string (((⟨#[97, 116, 32]⟩ ++ a) ++ ⟨#[32, 114, 97, 100, 105, 117, 115, 32]⟩) ++ b)) w) ∧
  (∀ w, (Op.stringOp .add (((⟨#[97, 116, 32]⟩ ++ a) ++ ⟨#[32, 114, 97, 100, 105, 117, 115, 32]⟩) ++ b) ⟨#[10]⟩).run Tryd.prog w = .ok (.string ((((⟨#[97, 116, 32]⟩ ++ a) ++ ⟨#[32, 114, 97, 100, 105, 117, 115, 32]⟩) ++ b) ++ ⟨#[10]⟩)) w) := by
 have s1 : (⟨#[97, 116, 32]⟩ : ByteArray).size = 3 := rfl
 have s2 : (⟨#[32, 114, 97, 100, 105, 117, 115, 32]⟩ : ByteArray).size = 8 := rfl
 have s4 : (⟨#[10]⟩ : ByteArray).size = 1 := rfl
 refine ⟨fun w => ?_, fun w => ?_, fun w => ?_, fun w => ?_⟩
 all_goals
  refine run_string_add_sum _ _ _ ?_
  simp only [ByteArray.size_append, s1, s2, s4]
  omega
theorem cask_Print.word_size (p : Int) : (cask_Print.word p).size ≤ 8 := by
 unfold cask_Print.word
 split
 ·
  exact Nat.le_refl _
 ·
  exact (by decide : 5 ≤ 8)
set_option maxHeartbeats 8000000 in
set_option maxRecDepth 100000 in
theorem cask_Print.calls (k : Nat) (A0 : Option Addr) (c0 : Nat) (l0 : List (S27)) (r1 : ByteArray) (r2 : Int) (w : World) (hr0 : Kd.C k27 w A0 l0.length l0) (hc0 : l0.length ≤ c0) (hG : GI w) (h : cask_Print.f k l0 = some (r1, r2)) :
  Calls Tryd.prog 22 #[.slice A0 l0.length c0] w fun e w' => e = .returned (.tuple #[.string r1, .int .i64 r2]) ∧ Below w.heap.size w w' := by
 have HR0 := Aside0.mk hr0; have HC0 := Aside0.mk hc0; clear hr0 hc0; have HG := Aside0.mk hG; clear hG; replace h := Option.bind_eq_some_iff.mp h; obtain ⟨t, ht, h⟩ := h; have H1 := Aside0.mk ht; have H2 := Aside0.mk h; clear ht h; by_cases tz : t = 0
 case neg =>
  have H := H2.out; rw [if_neg tz] at H; cases H; have zb : (r2 == 0) = false := beq_eq_false_iff_ne.mpr tz; have zc : (r2 != 0) = true := bne_iff_ne.mpr tz; clear H2 tz; go_enter Tryd.func22, Tryd.ntmps22
  go_wp2_with (go_at_call 16; refine (cask_List.calls k A0 c0 l0 r2 w HR0.out HC0.out H1.out).mono ?_; rintro e w1 ⟨rfl, hb1⟩; have HB := Aside0.mk hb1; clear hb1)
  go_ret2
  exact ⟨rfl, HB.out⟩
 case pos =>
  subst tz; have H := H2.out; rw [if_pos rfl] at H; have H' := Aside0.mk H; clear H H2; go_enter Tryd.func22, Tryd.ntmps22
  go_wp2_with (go_at_call 16; refine (cask_List.calls k A0 c0 l0 0 w HR0.out HC0.out H1.out).mono ?_; rintro e w1 ⟨rfl, hb1⟩; have HB := Aside0.mk hb1; clear hb1)
  have HBu := Aside0.mk (Lib.IsBuilderF.of (Lib.fresh_isBuilder 62 5 w1)); have HB0 := HB; have HB1 := HB0; replace HB := Aside0.mk (below_alloc HB.out (.cells #[.pointer none, .slice none 0 0] 62)); clear HB0; go_wp2; go_loopg [18] k (fun kq v18 w' => ∃ (x : Int) (acc : List UInt8), v18 = .int .i64 x ∧ Aside0 (cask_Print.l0 kq l0 acc x = some (r1, r2)) ∧ Aside0 (kq ≤ k) ∧ Aside0 (Lib.IsBuilderF 62 5 w1.heap.size w1.heap.size (Lib.byteCells acc) w') ∧ Aside0 (Below w.heap.size w w'))
  case atStart => exact ⟨0, [], rfl, H', ⟨Nat.le_refl _⟩, HBu, HB⟩
  case round =>
   clear H' HBu HB; have HW1 : Aside0 (w.heap.size ≤ w1.heap.size) := ⟨HB1.out.size⟩; obtain ⟨x, acc, rfl, HA, HK1, HBu, HB⟩ := hrel
   cases gk with
   | zero => exact absurd HA.out (by simp [cask_Print.l0])
   | succ k1 =>
    have H := HA.out; clear HA; simp only [cask_Print.l0] at H; by_cases c2 : x < (l0.length : Int)
    ·
     rw [if_pos c2] at H; have c2b : decide (x < (l0.length : Int)) = true := decide_eq_true c2; by_cases c3 : 0 ≤ x
     ·
      rw [if_pos c3] at H; have c3b : decide (0 ≤ x) = true := decide_eq_true c3; obtain ⟨s, hs, H⟩ := Option.bind_eq_some_iff.mp H; obtain ⟨acc2, ha, H⟩ := Option.bind_eq_some_iff.mp H; obtain ⟨ta, hta, hs⟩ := Option.bind_eq_some_iff.mp hs; by_cases hsz : ta.size ≤ 100 ∧ (rd_T27 l0 x).f0.size ≤ 1000
      case neg => rw [if_neg hsz] at hs; cases hs
      rw [if_pos hsz] at hs; obtain rfl := Option.some.inj hs; unfold cask_Print.app at ha; by_cases hln : acc.length + ((((((⟨#[99, 97, 115, 107, 32]⟩ ++ (rd_T27 l0 x).f0) ++ ⟨#[32]⟩) ++ cask_Print.word (rd_T27 l0 x).f1) ++ ⟨#[32, 100, 101, 99, 108, 97, 114, 101, 100, 32]⟩) ++ ta) ++ ⟨#[10]⟩ : ByteArray).size ≤ 140737488355328
      case neg => rw [if_neg hln] at ha; cases ha
      rw [if_pos hln] at ha; obtain rfl := Option.some.inj ha; have HLEN := Aside0.mk hln; have HSZ := Aside0.mk hsz; clear hln hsz; have H' := Aside0.mk H; have HTA := Aside0.mk hta; clear H hta hs ha; obtain ⟨ad1, A1, c1, e1, hx0, hx1, hx2, hx3, hl1, hi1⟩ := at_T27 HR0.out x c3 c2; cases e1; replace hx0 := (HB.out.cell (World.block_lt_of_cell? w _ hx0)).trans hx0; replace hx1 := (HB.out.cell (World.block_lt_of_cell? w _ hx1)).trans hx1; replace hx2 := (HB.out.cell (World.block_lt_of_cell? w _ hx2)).trans hx2; replace hx3 := (HB.out.cell (World.block_lt_of_cell? w _ hx3)).trans hx3; have HR1 := Aside0.mk hi1; have HC1 := Aside0.mk hl1; clear hi1 hl1; replace c3 := eq_true c3; replace c2 := eq_true c2; obtain ⟨gx, hgx⟩ : ∃ gx, gx = wr.heap.size := ⟨_, rfl⟩; have GX := Aside0.mk hgx; have HX : Aside0 ((wr.alloc (.cells #[.string (rd_T27 l0 x).f0, .int .i64 (rd_T27 l0 x).f1, .slice A1 (rd_T27 l0 x).f2.length c1, .int .i64 (rd_T27 l0 x).f3] 27)).heap[gx]? = some (.cells #[.string (rd_T27 l0 x).f0, .int .i64 (rd_T27 l0 x).f1, .slice A1 (rd_T27 l0 x).f2.length c1, .int .i64 (rd_T27 l0 x).f3] 27 (0, 0))) := ⟨by rw [hgx]; exact World.alloc_heap_new _ _⟩; have HbW : Aside0 (Below wr.heap.size wr (wr.alloc (.cells #[.string (rd_T27 l0 x).f0, .int .i64 (rd_T27 l0 x).f1, .slice A1 (rd_T27 l0 x).f2.length c1, .int .i64 (rd_T27 l0 x).f3] 27))) := ⟨below_alloc (Below.refl _ _) _⟩; go_upto_region 8 with (fail)
      rw [← hgx]; generalize wr.alloc (.cells #[.string (rd_T27 l0 x).f0, .int .i64 (rd_T27 l0 x).f1, .slice A1 (rd_T27 l0 x).f2.length c1, .int .i64 (rd_T27 l0 x).f3] 27) = W at HbW HX ⊢; have HBuW := Aside0.mk (bld_below HBu.out HbW.out); have HBW := Aside0.mk (below_step HB.out HbW.out); have GXB : Aside0 (gx ≠ w1.heap.size) := ⟨by rw [GX.out]; exact bld_ne HBu.out⟩; have hw1 : W.cell? ⟨gx, 1, none⟩ = some (.int .i64 (rd_T27 l0 x).f1) := (blk_cell HX.out 1).trans rfl; clear hx0 hx1 hx2 hx3 HB HBu HbW hgx; go_upto_if 24 with (fail)
      go_cut [8] (fun v8 wc => v8 = .string (cask_Print.word (rd_T27 l0 x).f1) ∧ wc = W)
      case first =>
       by_cases cw : (rd_T27 l0 x).f1 = 2
       ·
        have cwb : ((rd_T27 l0 x).f1 == 2) = true := beq_iff_eq.mpr cw; have ew : cask_Print.word (rd_T27 l0 x).f1 = ⟨#[115, 116, 97, 110, 100, 105, 110, 103]⟩ := if_pos cw; clear cw; go_wp2; go_meet
        case rel => exact ⟨by rw [ew], rfl⟩
       ·
        have cwb : ((rd_T27 l0 x).f1 == 2) = false := beq_eq_false_iff_ne.mpr cw; have ew : cask_Print.word (rd_T27 l0 x).f1 = ⟨#[108, 121, 105, 110, 103]⟩ := if_neg cw; clear cw; go_wp2; go_meet
        case rel => exact ⟨by rw [ew], rfl⟩
      case rest =>
       clear hw1; obtain ⟨rfl, rfl⟩ := hcut; obtain ⟨ha1, ha2, ha3, ha4, ha5, ha6⟩ := cask_Print.addh (rd_T27 l0 x).f0 (cask_Print.word (rd_T27 l0 x).f1) ta HSZ.out.2 (cask_Print.word_size _) HSZ.out.1; go_wp2; refine start_ (n := 13) (S := fun w' => w'.cell? ⟨gx, 0, none⟩ = some (.string (rd_T27 l0 x).f0) ∧ w'.cell? ⟨gx, 3, none⟩ = some (.int .i64 (rd_T27 l0 x).f3) ∧ Lib.IsBuilderF 62 5 w1.heap.size w1.heap.size (Lib.byteCells acc) w' ∧ Below w.heap.size w w' ∧ w'.heap[gx]? = some (.cells #[.string (rd_T27 l0 x).f0, .int .i64 (rd_T27 l0 x).f1, .slice A1 (rd_T27 l0 x).f2.length c1, .int .i64 (rd_T27 l0 x).f3] 27 (0, 0)) ∧ GI w') (ds := [12]) #[false, false, false, false, false, false, false, false, false, false, false, false, false] (by kernel_rfl) rfl rfl ⟨(blk_cell HX.out 0).trans rfl, (blk_cell HX.out 3).trans rfl, HBuW.out, (below_drew1 HBW.out), HX.out, (GI.below HG.out (below_drew1 HBW.out))⟩ (fun hHeld => ?_); generalize wc.drew = Wd at hHeld ⊢; refine pure_ (i := 0) (N := some 25) (v := ?_) (a' := ?_) #[true, false, false, false, false, false, false, false, false, false, false, false, false] rfl rfl (by kernel_rfl) (fun _ _ _ h => h) (Or.inl ⟨by rfl, ?_⟩) ?_ ?_; rotate_left
       · intro w'; go_simp; with_reducible rfl
       rotate_left
       · simp only [Act.put, sIA, sC0, sCS, i64_w, i32_w]; rfl
       refine pure_ (i := 4) (N := some 29) (v := ?_) (a' := ?_) #[true, false, false, false, true, false, false, false, false, false, false, false, false] rfl rfl (by kernel_rfl) (fun _ _ _ h => h) (Or.inl ⟨by rfl, ?_⟩) ?_ ?_; rotate_left
       · intro w'; go_simp; with_reducible rfl
       rotate_left
       · simp only [Act.put, sIA, sC0, sCS, i64_w, i32_w]; rfl
       refine pure_ (i := 7) (N := some 32) (v := ?_) (a' := ?_) #[true, false, false, false, true, false, false, true, false, false, false, false, false] rfl rfl (by kernel_rfl) (fun _ _ _ h => h) (Or.inl ⟨by rfl, ?_⟩) ?_ ?_; rotate_left
       · intro w'; go_simp; with_reducible rfl
       rotate_left
       · simp only [Act.put, sIA, sC0, sCS, i64_w, i32_w]; rfl
       refine take_ (i := 1) (N := some 26) (v := ?_) (a' := ?_) #[true, true, false, false, true, false, false, true, false, false, false, false, false] rfl rfl (by kernel_rfl) (fun _ _ _ h => h) (Or.inl ⟨by rfl, ?_⟩) hHeld ?_ ?_; rotate_left
       · rintro w' ⟨s0, s1, s2, s3, s4, s5⟩; go_simp; with_reducible rfl
       rotate_left
       · simp only [Act.put, sIA, sC0, sCS, i64_w, i32_w]; rfl
       refine pure_ (i := 2) (N := some 27) (v := ?_) (a' := ?_) #[true, true, true, false, true, false, false, true, false, false, false, false, false] rfl rfl (by kernel_rfl) (fun _ _ _ h => h) (Or.inl ⟨by rfl, ?_⟩) ?_ ?_; rotate_left
       · intro w'; go_simp; with_reducible rfl
       rotate_left
       · simp only [Act.put, sIA, sC0, sCS, i64_w, i32_w]; rfl
       refine pure_ (i := 3) (N := some 28) (v := ?_) (a' := ?_) #[true, true, true, true, true, false, false, true, false, false, false, false, false] rfl rfl (by kernel_rfl) (fun _ _ _ h => h) (Or.inl ⟨by rfl, ?_⟩) ?_ ?_; rotate_left
       · intro w'; go_simp; with_reducible rfl
       rotate_left
       · simp only [Act.put, sIA, sC0, sCS, i64_w, i32_w]; rfl
       refine pure_ (i := 5) (N := some 30) (v := ?_) (a' := ?_) #[true, true, true, true, true, true, false, true, false, false, false, false, false] rfl rfl (by kernel_rfl) (fun _ _ _ h => h) (Or.inl ⟨by rfl, ?_⟩) ?_ ?_; rotate_left
       · intro w'; go_simp; with_reducible rfl
       rotate_left
       · simp only [Act.put, sIA, sC0, sCS, i64_w, i32_w]; rfl
       refine pure_ (i := 6) (N := some 31) (v := ?_) (a' := ?_) #[true, true, true, true, true, true, true, true, false, false, false, false, false] rfl rfl (by kernel_rfl) (fun _ _ _ h => h) (Or.inl ⟨by rfl, ?_⟩) ?_ ?_; rotate_left
       · intro w'; go_simp; with_reducible rfl
       rotate_left
       · simp only [Act.put, sIA, sC0, sCS, i64_w, i32_w]; rfl
       refine take_ (i := 8) (N := some 33) (v := ?_) (a' := ?_) #[true, true, true, true, true, true, true, true, true, false, false, false, false] rfl rfl (by kernel_rfl) (fun _ _ _ h => h) (Or.inl ⟨by rfl, ?_⟩) hHeld ?_ ?_; rotate_left
       · rintro w' ⟨s0, s1, s2, s3, s4, s5⟩; go_simp; with_reducible rfl
       rotate_left
       · simp only [Act.put, sIA, sC0, sCS, i64_w, i32_w]; rfl
       refine one_ (i := 9) (N := some 34) #[true, true, true, true, true, true, true, true, true, true, false, false, false] rfl rfl (by kernel_rfl) (by decide) (fun K hK => ?_); refine goes_ Tryd.func43 (by kernel_rfl) rfl #[.int .i64 ((rd_T27 l0 x).f3)] (by rfl) rfl rfl (by first | rfl | (simp only [List.map_toArray, List.map_cons, List.map_nil]; done) | (simp only [List.map_toArray, List.map_cons, List.map_nil]; rfl)) ?_; with_reducible refine (strconv_Itoa.calls _ _ _ hHeld.2.2.2.2.2 HTA.out).mono ?_
       rintro e w3 ⟨rfl, hb3⟩; refine ⟨_, rfl, ?_⟩; refine hK.out _ _ ⟨((hb3.cell (World.block_lt_of_cell? _ _ (hHeld.1))).trans (hHeld.1)), ((hb3.cell (World.block_lt_of_cell? _ _ (hHeld.2.1))).trans (hHeld.2.1)), bld_below (hHeld.2.2.1) hb3, below_step (hHeld.2.2.2.1) hb3, (hb3.block _ (blk_lt (hHeld.2.2.2.2.1))).trans (hHeld.2.2.2.2.1), GI.below (hHeld.2.2.2.2.2) hb3⟩ (fun hHeld => ?_); clear hK K; refine norm_ (a' := ?_) ?_ ?_; rotate_left
       ·
        show Act.put _ (some 34) _ = _
        simp only [Act.put, sIA, sC0, sCS, i64_w, i32_w]; rfl
       refine pure_ (i := 10) (N := some 35) (v := ?_) (a' := ?_) #[true, true, true, true, true, true, true, true, true, true, true, false, false] rfl rfl (by kernel_rfl) (fun _ _ _ h => h) (Or.inl ⟨by rfl, ?_⟩) ?_ ?_; rotate_left
       · intro w'; go_simp; with_reducible rfl
       rotate_left
       · simp only [Act.put, sIA, sC0, sCS, i64_w, i32_w]; rfl
       refine pure_ (i := 11) (N := some 36) (v := ?_) (a' := ?_) #[true, true, true, true, true, true, true, true, true, true, true, true, false] rfl rfl (by kernel_rfl) (fun _ _ _ h => h) (Or.inl ⟨by rfl, ?_⟩) ?_ ?_; rotate_left
       · intro w'; go_simp; with_reducible rfl
       rotate_left
       · simp only [Act.put, sIA, sC0, sCS, i64_w, i32_w]; rfl
       refine last_ (i := 12) (N := some 37) #[true, true, true, true, true, true, true, true, true, true, true, true, true] rfl rfl (by kernel_rfl) (by decide) (fun K hK => ?_); refine goes_ Tryd.func42 (by kernel_rfl) rfl #[.pointer (some ⟨w1.heap.size, 0, none⟩), .string ((((((⟨#[99, 97, 115, 107, 32]⟩ ++ (rd_T27 l0 x).f0) ++ ⟨#[32]⟩) ++ cask_Print.word (rd_T27 l0 x).f1) ++ ⟨#[32, 100, 101, 99, 108, 97, 114, 101, 100, 32]⟩) ++ ta) ++ ⟨#[10]⟩)] (by rfl) rfl rfl (by first | rfl | (simp only [List.map_toArray, List.map_cons, List.map_nil]; done) | (simp only [List.map_toArray, List.map_cons, List.map_nil]; rfl)) ?_; with_reducible refine (writeBytes _ _ _ _ _ (hHeld.2.2.1) HLEN.out).mono ?_
       rintro e w3 ⟨⟨n3, rfl⟩, hbu3, hb3, hk3⟩; have HBu2 := Aside0.mk hbu3; have HB2 := Aside0.mk (below_mine (hHeld.2.2.2.1) hb3 HW1.out); have HX2 := Aside0.mk (others_blk hk3 (hHeld.2.2.2.2.1) GXB.out (by decide)); clear hbu3 hb3 hk3; refine ⟨_, rfl, ?_⟩; refine hK.out _ _ ?_; clear hK K; refine norm_ (a' := ?_) ?_ ?_; rotate_left
       ·
        show Act.put _ (some 37) _ = _
        simp only [Act.put, sIA, sC0, sCS, i64_w, i32_w]; rfl
       refine done_ (by kernel_rfl) ?_; clear ha1 ha2 ha3 ha4 ha5 ha6; have hx2 : w3.cell? ⟨gx, 2, none⟩ = some (.slice A1 (rd_T27 l0 x).f2.length c1) := (blk_cell HX2.out 2).trans rfl; go_wp2; go_loopg [41] k1 (fun kq v41 w' => ∃ (y : Int) (acc : List UInt8), v41 = .int .i64 y ∧ Aside0 (cask_Print.l1 kq l0 acc x y = some (r1, r2)) ∧ Aside0 (kq ≤ k1) ∧ Aside0 (Lib.IsBuilderF 62 5 w1.heap.size w1.heap.size (Lib.byteCells acc) w') ∧ Aside0 (Below w.heap.size w w'))
       case atStart => exact ⟨0, _, rfl, H', ⟨Nat.le_refl _⟩, HBu2, HB2⟩
       case round =>
        clear H' HBu2 HB2 hx2 HX2 HX HBuW HBW HTA HSZ HLEN; obtain ⟨y, acc, rfl, HA, HK2, HBu, HB⟩ := hrel
        cases gk with
        | zero => exact absurd HA.out (by simp [cask_Print.l1])
        | succ k2 =>
         have H := HA.out; clear HA; simp only [cask_Print.l1] at H; by_cases c4 : y < ((rd_T27 l0 x).f2.length : Int)
         ·
          rw [if_pos c4] at H; have c4b : decide (y < ((rd_T27 l0 x).f2.length : Int)) = true := decide_eq_true c4; by_cases c5 : 0 ≤ y
          ·
           rw [if_pos c5] at H; have c5b : decide (0 ≤ y) = true := decide_eq_true c5; obtain ⟨s, hs, H⟩ := Option.bind_eq_some_iff.mp H; obtain ⟨acc2, ha, H⟩ := Option.bind_eq_some_iff.mp H; obtain ⟨ta, hta, hs⟩ := Option.bind_eq_some_iff.mp hs; obtain ⟨tb, htb, hs⟩ := Option.bind_eq_some_iff.mp hs; by_cases hsz : ta.size ≤ 100 ∧ tb.size ≤ 100
           case neg => rw [if_neg hsz] at hs; cases hs
           rw [if_pos hsz] at hs; obtain rfl := Option.some.inj hs; unfold cask_Print.app at ha; by_cases hln : acc.length + ((((⟨#[97, 116, 32]⟩ ++ ta) ++ ⟨#[32, 114, 97, 100, 105, 117, 115, 32]⟩) ++ tb) ++ ⟨#[10]⟩ : ByteArray).size ≤ 140737488355328
           case neg => rw [if_neg hln] at ha; cases ha
           rw [if_pos hln] at ha; obtain rfl := Option.some.inj ha; have HLEN := Aside0.mk hln; have HSZ := Aside0.mk hsz; have H' := Aside0.mk H; have HTA := Aside0.mk hta; have HTB := Aside0.mk htb; clear H hta htb hs ha hln hsz; obtain ⟨ad2, e2, hy0, hy1⟩ := at_T46 HR1.out y c5 c4; cases e2; replace hy0 := (HB.out.cell (World.block_lt_of_cell? w _ hy0)).trans hy0; replace hy1 := (HB.out.cell (World.block_lt_of_cell? w _ hy1)).trans hy1; replace c4 := eq_true c4; replace c5 := eq_true c5; rename World => wr2
           obtain ⟨gs, hgs⟩ : ∃ gs, gs = wr2.heap.size := ⟨_, rfl⟩; have HX : Aside0 ((wr2.alloc (.cells #[.int .i64 (rd_T46 (rd_T27 l0 x).f2 y).f0, .int .i64 (rd_T46 (rd_T27 l0 x).f2 y).f1] 46)).heap[gs]? = some (.cells #[.int .i64 (rd_T46 (rd_T27 l0 x).f2 y).f0, .int .i64 (rd_T46 (rd_T27 l0 x).f2 y).f1] 46 (0, 0))) := ⟨by rw [hgs]; exact World.alloc_heap_new _ _⟩; have HbW : Aside0 (Below wr2.heap.size wr2 (wr2.alloc (.cells #[.int .i64 (rd_T46 (rd_T27 l0 x).f2 y).f0, .int .i64 (rd_T46 (rd_T27 l0 x).f2 y).f1] 46))) := ⟨below_alloc (Below.refl _ _) _⟩; have GS := Aside0.mk hgs; clear hgs; go_upto_region 15 with (fail)
           rw [← GS.out]; generalize wr2.alloc (.cells #[.int .i64 (rd_T46 (rd_T27 l0 x).f2 y).f0, .int .i64 (rd_T46 (rd_T27 l0 x).f2 y).f1] 46) = W at HbW HX ⊢; have HBuW := Aside0.mk (bld_below HBu.out HbW.out); have HBW := Aside0.mk (below_step HB.out HbW.out); clear hy0 hy1 HB HBu HbW; obtain ⟨ha1, ha2, ha3, ha4⟩ := cask_Print.addp ta tb HSZ.out.1 HSZ.out.2; refine start_ (n := 11) (S := fun w' => w'.cell? ⟨gs, 0, none⟩ = some (.int .i64 (rd_T46 (rd_T27 l0 x).f2 y).f0) ∧ w'.cell? ⟨gs, 1, none⟩ = some (.int .i64 (rd_T46 (rd_T27 l0 x).f2 y).f1) ∧ Lib.IsBuilderF 62 5 w1.heap.size w1.heap.size (Lib.byteCells acc) w' ∧ Below w.heap.size w w' ∧ GI w') (ds := [10]) #[false, false, false, false, false, false, false, false, false, false, false] (by kernel_rfl) rfl rfl ⟨(blk_cell HX.out 0).trans rfl, (blk_cell HX.out 1).trans rfl, HBuW.out, (below_drew1 HBW.out), (GI.below HG.out (below_drew1 HBW.out))⟩ (fun hHeld => ?_); generalize W.drew = Wd at hHeld ⊢; refine pure_ (i := 0) (N := some 45) (v := ?_) (a' := ?_) #[true, false, false, false, false, false, false, false, false, false, false] rfl rfl (by kernel_rfl) (fun _ _ _ h => h) (Or.inl ⟨by rfl, ?_⟩) ?_ ?_; rotate_left
           · intro w'; go_simp; with_reducible rfl
           rotate_left
           · simp only [Act.put, sIA, sC0, sCS, i64_w, i32_w]; rfl
           refine pure_ (i := 5) (N := some 50) (v := ?_) (a' := ?_) #[true, false, false, false, false, true, false, false, false, false, false] rfl rfl (by kernel_rfl) (fun _ _ _ h => h) (Or.inl ⟨by rfl, ?_⟩) ?_ ?_; rotate_left
           · intro w'; go_simp; with_reducible rfl
           rotate_left
           · simp only [Act.put, sIA, sC0, sCS, i64_w, i32_w]; rfl
           refine take_ (i := 1) (N := some 46) (v := ?_) (a' := ?_) #[true, true, false, false, false, true, false, false, false, false, false] rfl rfl (by kernel_rfl) (fun _ _ _ h => h) (Or.inl ⟨by rfl, ?_⟩) hHeld ?_ ?_; rotate_left
           · rintro w' ⟨s0, s1, s2, s3, s4⟩; go_simp; with_reducible rfl
           rotate_left
           · simp only [Act.put, sIA, sC0, sCS, i64_w, i32_w]; rfl
           refine take_ (i := 6) (N := some 51) (v := ?_) (a' := ?_) #[true, true, false, false, false, true, true, false, false, false, false] rfl rfl (by kernel_rfl) (fun _ _ _ h => h) (Or.inl ⟨by rfl, ?_⟩) hHeld ?_ ?_; rotate_left
           · rintro w' ⟨s0, s1, s2, s3, s4⟩; go_simp; with_reducible rfl
           rotate_left
           · simp only [Act.put, sIA, sC0, sCS, i64_w, i32_w]; rfl
           refine one_ (i := 2) (N := some 47) #[true, true, true, false, false, true, true, false, false, false, false] rfl rfl (by kernel_rfl) (by decide) (fun K hK => ?_); refine goes_ Tryd.func43 (by kernel_rfl) rfl #[.int .i64 ((rd_T46 (rd_T27 l0 x).f2 y).f0)] (by rfl) rfl rfl (by first | rfl | (simp only [List.map_toArray, List.map_cons, List.map_nil]; done) | (simp only [List.map_toArray, List.map_cons, List.map_nil]; rfl)) ?_; with_reducible refine (strconv_Itoa.calls _ _ _ hHeld.2.2.2.2 HTA.out).mono ?_
           rintro e w3 ⟨rfl, hb3⟩; refine ⟨_, rfl, ?_⟩; refine hK.out _ _ ⟨((hb3.cell (World.block_lt_of_cell? _ _ (hHeld.1))).trans (hHeld.1)), ((hb3.cell (World.block_lt_of_cell? _ _ (hHeld.2.1))).trans (hHeld.2.1)), bld_below (hHeld.2.2.1) hb3, below_step (hHeld.2.2.2.1) hb3, GI.below (hHeld.2.2.2.2) hb3⟩ (fun hHeld => ?_); clear hK K; refine norm_ (a' := ?_) ?_ ?_; rotate_left
           ·
            show Act.put _ (some 47) _ = _
            simp only [Act.put, sIA, sC0, sCS, i64_w, i32_w]; rfl
           refine pure_ (i := 3) (N := some 48) (v := ?_) (a' := ?_) #[true, true, true, true, false, true, true, false, false, false, false] rfl rfl (by kernel_rfl) (fun _ _ _ h => h) (Or.inl ⟨by rfl, ?_⟩) ?_ ?_; rotate_left
           · intro w'; go_simp; with_reducible rfl
           rotate_left
           · simp only [Act.put, sIA, sC0, sCS, i64_w, i32_w]; rfl
           refine pure_ (i := 4) (N := some 49) (v := ?_) (a' := ?_) #[true, true, true, true, true, true, true, false, false, false, false] rfl rfl (by kernel_rfl) (fun _ _ _ h => h) (Or.inl ⟨by rfl, ?_⟩) ?_ ?_; rotate_left
           · intro w'; go_simp; with_reducible rfl
           rotate_left
           · simp only [Act.put, sIA, sC0, sCS, i64_w, i32_w]; rfl
           refine one_ (i := 7) (N := some 52) #[true, true, true, true, true, true, true, true, false, false, false] rfl rfl (by kernel_rfl) (by decide) (fun K hK => ?_); refine goes_ Tryd.func43 (by kernel_rfl) rfl #[.int .i64 ((rd_T46 (rd_T27 l0 x).f2 y).f1)] (by rfl) rfl rfl (by first | rfl | (simp only [List.map_toArray, List.map_cons, List.map_nil]; done) | (simp only [List.map_toArray, List.map_cons, List.map_nil]; rfl)) ?_; with_reducible refine (strconv_Itoa.calls _ _ _ hHeld.2.2.2.2 HTB.out).mono ?_
           rintro e w3 ⟨rfl, hb3⟩; refine ⟨_, rfl, ?_⟩; refine hK.out _ _ ⟨((hb3.cell (World.block_lt_of_cell? _ _ (hHeld.1))).trans (hHeld.1)), ((hb3.cell (World.block_lt_of_cell? _ _ (hHeld.2.1))).trans (hHeld.2.1)), bld_below (hHeld.2.2.1) hb3, below_step (hHeld.2.2.2.1) hb3, GI.below (hHeld.2.2.2.2) hb3⟩ (fun hHeld => ?_); clear hK K; refine norm_ (a' := ?_) ?_ ?_; rotate_left
           ·
            show Act.put _ (some 52) _ = _
            simp only [Act.put, sIA, sC0, sCS, i64_w, i32_w]; rfl
           refine pure_ (i := 8) (N := some 53) (v := ?_) (a' := ?_) #[true, true, true, true, true, true, true, true, true, false, false] rfl rfl (by kernel_rfl) (fun _ _ _ h => h) (Or.inl ⟨by rfl, ?_⟩) ?_ ?_; rotate_left
           · intro w'; go_simp; with_reducible rfl
           rotate_left
           · simp only [Act.put, sIA, sC0, sCS, i64_w, i32_w]; rfl
           refine pure_ (i := 9) (N := some 54) (v := ?_) (a' := ?_) #[true, true, true, true, true, true, true, true, true, true, false] rfl rfl (by kernel_rfl) (fun _ _ _ h => h) (Or.inl ⟨by rfl, ?_⟩) ?_ ?_; rotate_left
           · intro w'; go_simp; with_reducible rfl
           rotate_left
           · simp only [Act.put, sIA, sC0, sCS, i64_w, i32_w]; rfl
           refine last_ (i := 10) (N := some 55) #[true, true, true, true, true, true, true, true, true, true, true] rfl rfl (by kernel_rfl) (by decide) (fun K hK => ?_); refine goes_ Tryd.func42 (by kernel_rfl) rfl #[.pointer (some ⟨w1.heap.size, 0, none⟩), .string ((((⟨#[97, 116, 32]⟩ ++ ta) ++ ⟨#[32, 114, 97, 100, 105, 117, 115, 32]⟩) ++ tb) ++ ⟨#[10]⟩)] (by rfl) rfl rfl (by first | rfl | (simp only [List.map_toArray, List.map_cons, List.map_nil]; done) | (simp only [List.map_toArray, List.map_cons, List.map_nil]; rfl)) ?_; with_reducible refine (writeBytes _ _ _ _ _ (hHeld.2.2.1) HLEN.out).mono ?_
           rintro e w3 ⟨⟨n3, rfl⟩, hbu3, hb3, hk3⟩; have HBu2 := Aside0.mk hbu3; have HB2 := Aside0.mk (below_mine (hHeld.2.2.2.1) hb3 HW1.out); clear hbu3 hb3 hk3; refine ⟨_, rfl, ?_⟩; refine hK.out _ _ ?_; clear hK K; refine norm_ (a' := ?_) ?_ ?_; rotate_left
           ·
            show Act.put _ (some 55) _ = _
            simp only [Act.put, sIA, sC0, sCS, i64_w, i32_w]; rfl
           refine done_ (by kernel_rfl) ?_; clear ha1 ha2 ha3 ha4; go_wp2; go_roundg k2
           case measure => have := HK2.out; omega
           case rel => exact ⟨wrap64 (y + 1), _, rfl, H', ⟨by have := HK2.out; omega⟩, HBu2, HB2⟩
          · rw [if_neg c5] at H; cases H
         ·
          rw [if_neg c4] at H; have c4b : decide (y < ((rd_T27 l0 x).f2.length : Int)) = false := decide_eq_false c4; obtain ⟨acc2, ha, H⟩ := Option.bind_eq_some_iff.mp H; unfold cask_Print.app at ha; by_cases hln : acc.length + (⟨#[101, 110, 100, 10]⟩ : ByteArray).size ≤ 140737488355328
          case neg => rw [if_neg hln] at ha; cases ha
          rw [if_pos hln] at ha; obtain rfl := Option.some.inj ha; have HLEN := Aside0.mk hln; have H' := Aside0.mk H; clear H ha hln c4; go_wp2_with (go_at_call 42; refine (writeBytes _ _ _ _ _ HBu.out HLEN.out).mono ?_)
          intro e w3 n3 he hbu3 hb3 hk3; subst he; have HBu3 := Aside0.mk hbu3; have HB3 := Aside0.mk (below_mine HB.out hb3 HW1.out); clear hbu3 hb3 hk3; go_wp2; go_roundg k2
          case measure => have := HK1.out; have := HK2.out; omega
          case rel => exact ⟨wrap64 (x + 1), _, rfl, H', ⟨by have := HK1.out; have := HK2.out; omega⟩, HBu3, HB3⟩
     · rw [if_neg c3] at H; cases H
    ·
     rw [if_neg c2] at H; have c2b : decide (x < (l0.length : Int)) = false := decide_eq_false c2; clear c2; obtain ⟨rfl, rfl⟩ := Prod.mk.inj (Option.some.inj H); go_wp2_with (go_at_call 44; refine (Tryd.Builder_String_any_k _ _ acc _ HBu.out (bld_size HBu.out)).mono ?_)
     intro e w9 he hq1 hb9 hq2; subst he; go_wp2; go_ret2
     exact ⟨rfl, below_mine HB.out hb9 HW1.out⟩
end Go.Proofs.YtnhmlneebnkjcaaDoor.Pr
namespace Go.Proofs.YtnhmlneebnkjcaaDoor.Pr
open Go.RowKit Go.Proofs.YtnhmlneebnkjcaaDoorW.PrintWords Go.Proofs.YtnhmlneebnkjcaaDoorW.PrintLast Go.Proofs.YtnhmlneebnkjcaaDoorW.PrintMore Go.Proofs.YtnhmlneebnkjcaaDoor.X
attribute [local go_sem] max2_int min2_int max_two min_two max_three min_three max_four min_four   -- for this text's walks alone
set_option linter.unusedVariables false
set_option linter.unusedSimpArgs false
mutual
def cask_number.j0 : Nat → ByteArray → Bool → Option (Int × Bool)
 | 0, _, _ => none
 | k + 1, x0, x23 => if x23 = true then (some (0, false)) else (cask_number.l0 k x0 0 (x0.size : Int) 0)
def cask_number.l0 : Nat → ByteArray → Int → Int → Int → Option (Int × Bool)
 | 0, _, _, _, _ => none
 | k + 1, x0, x4, x25, x26 => if x26 < x25 then (if 0 ≤ x26 then (if x26 < (x0.size : Int) then (if (bt x0 x26) < 48 then (some (0, false)) else (if (bt x0 x26) > 57 then (some (0, false)) else (cask_number.l0 k x0 (wrap64 ((wrap64 (10 * x4)) + (((bt x0 x26) - 48) % 256))) x25 (wrap64 (x26 + 1))))) else (none)) else (none)) else (some (x4, true))
end
def cask_number.f (k : Nat) (a0 : ByteArray) : Option (Int × Bool) := if (a0.size : Int) < 1 then (cask_number.j0 k a0 true) else (if (a0.size : Int) > 10 then (cask_number.j0 k a0 true) else (if (a0.size : Int) > 1 then (if 0 < (a0.size : Int) then (cask_number.j0 k a0 ((bt a0 0) == 48)) else (none)) else (cask_number.j0 k a0 false)))
set_option maxHeartbeats 8000000 in
set_option maxRecDepth 100000 in
theorem cask_number.calls (k : Nat) (a0 : ByteArray) (r1 : Int) (r2 : Bool) (w : World) (h : cask_number.f k a0 = some (r1, r2)) :
  Calls Tryd.prog 65 #[.string a0] w fun e w' => e = .returned (.tuple #[.int .i64 r1, .bool r2]) ∧ Drawn0 w w' := by
 have H : (if (a0.size : Int) < 1 then (cask_number.j0 k a0 true) else (if (a0.size : Int) > 10 then (cask_number.j0 k a0 true) else (if (a0.size : Int) > 1 then (if 0 < (a0.size : Int) then (cask_number.j0 k a0 ((bt a0 0) == 48)) else (none)) else (cask_number.j0 k a0 false)))) = some (r1, r2) := h; clear h; have HC2 := Aside0.mk H; clear H; go_enter Tryd.func65, Tryd.ntmps65
 go_upto_region 1 with (fail)
 go_cut [23] (fun v23 wc => ∃ (kq : Nat) (x23_1 : Bool), v23 = .bool x23_1 ∧ Aside0 (cask_number.j0 kq a0 x23_1 = some (r1, r2)) ∧ Aside0 (kq ≤ k) ∧ Drawn0 w wc)
 case first =>
  have H := HC2.out; clear HC2; by_cases c3 : (a0.size : Int) < 1
  ·
   rw [if_pos c3] at H; have c3b0 : decide ((a0.size : Int) < 1) = true := decide_eq_true c3; have c3b1 : decide (a0.size < 1) = true := decide_eq_true (by omega); clear c3; (first | rw [c3b0] | (simp only [i64_w, i32_w]; rw [c3b0]) | skip)
   have H' := Aside0.mk H; clear H; go_wp2; go_meet
   case rel => exact ⟨_, (true), (by first | rfl | (simp; done) | (simp [*]; done)), H', ⟨by first | omega | exact Nat.le_refl _⟩, by repeat (first | exact Drawn0.refl _ | apply Drawn0.step)⟩
  ·
   rw [if_neg c3] at H; have c3b0 : decide ((a0.size : Int) < 1) = false := decide_eq_false c3; have c3b1 : decide (a0.size < 1) = false := decide_eq_false (by omega); clear c3; (first | rw [c3b0] | (simp only [i64_w, i32_w]; rw [c3b0]) | skip)
   by_cases c4 : (a0.size : Int) > 10
   ·
    rw [if_pos c4] at H; have c4b0 : decide (10 < (a0.size : Int)) = true := decide_eq_true c4; have c4b1 : decide (10 < a0.size) = true := decide_eq_true (by omega); clear c4; have H' := Aside0.mk H; clear H; go_wp2; go_meet
    case rel => exact ⟨_, (true), (by first | rfl | (simp; done) | (simp [*]; done)), H', ⟨by first | omega | exact Nat.le_refl _⟩, by repeat (first | exact Drawn0.refl _ | apply Drawn0.step)⟩
   ·
    rw [if_neg c4] at H; have c4b0 : decide (10 < (a0.size : Int)) = false := decide_eq_false c4; have c4b1 : decide (10 < a0.size) = false := decide_eq_false (by omega); clear c4; by_cases c5 : (a0.size : Int) > 1
    ·
     rw [if_pos c5] at H; have c5b0 : decide (1 < (a0.size : Int)) = true := decide_eq_true c5; have c5b1 : decide (1 < a0.size) = true := decide_eq_true (by omega); clear c5; by_cases c6 : 0 < (a0.size : Int)
     ·
      rw [if_pos c6] at H; have c6b0 : decide (0 < (a0.size : Int)) = true := decide_eq_true c6; have c6b1 : decide (0 < a0.size) = true := decide_eq_true (by omega); clear c6; have H' := Aside0.mk H; clear H; have p7 : 0 ≤ (0 : Int) := (by omega); have q7 : 0 < a0.size := (by have : (0 : Int) < (a0.size : Int) := of_decide_eq_true (by first | (with_reducible assumption) | assumption); omega); have hx7 : ∀ h : 0 < a0.size, ((a0[0]'h).toNat : Int) = bt a0 0 := bt_at a0 0; clear p7; have qi7 : (0 < (a0.size : Int)) = True := eq_true (of_decide_eq_true (by first | (with_reducible assumption) | assumption)); replace q7 := eq_true q7; go_wp2; go_meet
      case rel => exact ⟨_, (((bt a0 0) == 48)), (by first | rfl | (simp; done) | (simp [*]; done)), H', ⟨by first | omega | exact Nat.le_refl _⟩, by repeat (first | exact Drawn0.refl _ | apply Drawn0.step)⟩
     · rw [if_neg c6] at H; exact absurd H (by simp)
    ·
     rw [if_neg c5] at H; have c5b0 : decide (1 < (a0.size : Int)) = false := decide_eq_false c5; have c5b1 : decide (1 < a0.size) = false := decide_eq_false (by omega); clear c5; have H' := Aside0.mk H; clear H; go_wp2; go_meet
     case rel => exact ⟨_, (false), (by first | rfl | (simp; done) | (simp [*]; done)), H', ⟨by first | omega | exact Nat.le_refl _⟩, by repeat (first | exact Drawn0.refl _ | apply Drawn0.step)⟩
 case rest =>
  clear HC2; try clear p2
  try clear c3
  try clear c3b0
  try clear c3b1
  try clear c4
  try clear c4b0
  try clear c4b1
  try clear c5
  try clear c5b0
  try clear c5b1
  try clear c6
  try clear c6b0
  try clear c6b1
  try clear p7
  try clear q7
  try clear hx7
  try clear qi7
  try clear p7
  try clear q7
  obtain ⟨kq, x23_1, rfl, HA, HJ1, ⟨mc1, rfl⟩⟩ := hcut
  cases kq with
  | zero => exact absurd HA.out (by simp [cask_number.j0])
  | succ kj1 =>
   have H := HA.out; clear HA; simp only [cask_number.j0] at H; by_cases c8 : x23_1 = true
   ·
    subst c8; have H1 : (some (0, false)) = some (r1, r2) := by rw [if_pos rfl] at H; exact H
    clear H; have H := H1; clear H1; simp only [Option.some.injEq, Prod.mk.injEq] at H; obtain ⟨rfl, rfl⟩ := H; go_wp2; go_ret2
    exact ⟨by first | rfl | (simp; done) | (simp [*]; done), by repeat (first | exact Drawn0.refl _ | apply Drawn0.step)⟩
   ·
    replace c8 := Bool.eq_false_iff.mpr c8; subst c8; have H1 : (cask_number.l0 kj1 a0 0 (a0.size : Int) 0) = some (r1, r2) := by rw [if_neg (show ¬ (false = true) by decide)] at H; exact H
    clear H; have H := H1; clear H1; have H' := Aside0.mk H; clear H; go_wp2; go_loopg [4, 26] kj1 (fun kq v4 v26 w' => ∃ (x4_2 : Int) (x26_2 : Int), v4 = .int .i64 x4_2 ∧ v26 = .int .i64 x26_2 ∧ Aside0 (cask_number.l0 kq a0 x4_2 (a0.size : Int) x26_2 = some (r1, r2)) ∧ Aside0 (kq ≤ kj1) ∧ Drawn0 w w')
    case atStart => exact ⟨(0), (0), (by first | rfl | (simp; done) | (simp [*]; done)), (by first | rfl | (simp; done) | (simp [*]; done)), H', ⟨Nat.le_refl _⟩, by repeat (first | exact Drawn0.refl _ | apply Drawn0.step)⟩
    case round =>
     clear H'; try clear c1
     try clear p2
     try clear c3
     try clear c3b0
     try clear c3b1
     try clear c4
     try clear c4b0
     try clear c4b1
     try clear c5
     try clear c5b0
     try clear c5b1
     try clear c6
     try clear c6b0
     try clear c6b1
     try clear p7
     try clear q7
     try clear hx7
     try clear qi7
     try clear c8
     try clear p2
     try clear p7
     try clear q7
     obtain ⟨x4_2, x26_2, rfl, rfl, HA, HK2, ⟨m2, rfl⟩⟩ := hrel
     cases gk with
     | zero => exact absurd HA.out (by simp [cask_number.l0])
     | succ k2 =>
      have H := HA.out; clear HA; simp only [cask_number.l0] at H; by_cases c9 : x26_2 < (a0.size : Int)
      ·
       rw [if_pos c9] at H; have c9b0 : decide (x26_2 < (a0.size : Int)) = true := decide_eq_true c9; clear c9; by_cases c10 : 0 ≤ x26_2
       ·
        rw [if_pos c10] at H; have c10b0 : decide (0 ≤ x26_2) = true := decide_eq_true c10; clear c10; by_cases c11 : x26_2 < (a0.size : Int)
        ·
         rw [if_pos c11] at H; have c11b0 : decide (x26_2 < (a0.size : Int)) = true := decide_eq_true c11; clear c11; by_cases c13 : (bt a0 x26_2) < 48
         ·
          rw [if_pos c13] at H; have c13b0 : decide ((bt a0 x26_2) < 48) = true := decide_eq_true c13; clear c13; simp only [Option.some.injEq, Prod.mk.injEq] at H; obtain ⟨rfl, rfl⟩ := H; have p12 : 0 ≤ (x26_2 : Int) := of_decide_eq_true (by first | (with_reducible assumption) | assumption); have q12 : x26_2 < (a0.size : Int) := of_decide_eq_true (by first | (with_reducible assumption) | assumption); have hx12 := bt_at a0 x26_2; replace p12 := eq_true p12; replace q12 := eq_true q12; go_wp2; go_ret2
          exact ⟨by first | rfl | (simp; done) | (simp [*]; done), by repeat (first | exact Drawn0.refl _ | apply Drawn0.step)⟩
         ·
          rw [if_neg c13] at H; have c13b0 : decide ((bt a0 x26_2) < 48) = false := decide_eq_false c13; clear c13; by_cases c15 : (bt a0 x26_2) > 57
          ·
           rw [if_pos c15] at H; have c15b0 : decide (57 < (bt a0 x26_2)) = true := decide_eq_true c15; clear c15; simp only [Option.some.injEq, Prod.mk.injEq] at H; obtain ⟨rfl, rfl⟩ := H; have p12 : 0 ≤ (x26_2 : Int) := of_decide_eq_true (by first | (with_reducible assumption) | assumption); have q12 : x26_2 < (a0.size : Int) := of_decide_eq_true (by first | (with_reducible assumption) | assumption); have hx12 := bt_at a0 x26_2; replace p12 := eq_true p12; replace q12 := eq_true q12; have p14 : 0 ≤ (x26_2 : Int) := of_decide_eq_true (by first | (with_reducible assumption) | assumption); have q14 : x26_2 < (a0.size : Int) := of_decide_eq_true (by first | (with_reducible assumption) | assumption); have hx14 := bt_at a0 x26_2; replace p14 := eq_true p14; replace q14 := eq_true q14; go_wp2; go_ret2
           exact ⟨by first | rfl | (simp; done) | (simp [*]; done), by repeat (first | exact Drawn0.refl _ | apply Drawn0.step)⟩
          ·
           rw [if_neg c15] at H; have c15b0 : decide (57 < (bt a0 x26_2)) = false := decide_eq_false c15; clear c15; have H' := Aside0.mk H; clear H; have p12 : 0 ≤ (x26_2 : Int) := of_decide_eq_true (by first | (with_reducible assumption) | assumption); have q12 : x26_2 < (a0.size : Int) := of_decide_eq_true (by first | (with_reducible assumption) | assumption); have hx12 := bt_at a0 x26_2; replace p12 := eq_true p12; replace q12 := eq_true q12; have p14 : 0 ≤ (x26_2 : Int) := of_decide_eq_true (by first | (with_reducible assumption) | assumption); have q14 : x26_2 < (a0.size : Int) := of_decide_eq_true (by first | (with_reducible assumption) | assumption); have hx14 := bt_at a0 x26_2; replace p14 := eq_true p14; replace q14 := eq_true q14; have p16 : 0 ≤ (x26_2 : Int) := of_decide_eq_true (by first | (with_reducible assumption) | assumption); have q16 : x26_2 < (a0.size : Int) := of_decide_eq_true (by first | (with_reducible assumption) | assumption); have hx16 := bt_at a0 x26_2; replace p16 := eq_true p16; replace q16 := eq_true q16; go_wp2; go_roundg k2
           case measure => have := HJ1.out; have := HK2.out; omega
           case rel => exact ⟨(wrap64 ((wrap64 (10 * x4_2)) + (((bt a0 x26_2) - 48) % 256))), (wrap64 (x26_2 + 1)), (by first | rfl | (simp; done) | (simp [*]; done)), (by first | rfl | (simp; done) | (simp [*]; done)), H', ⟨by have := HJ1.out; have := HK2.out; omega⟩, by repeat (first | exact Drawn0.refl _ | apply Drawn0.step)⟩
        · rw [if_neg c11] at H; exact absurd H (by simp)
       · rw [if_neg c10] at H; exact absurd H (by simp)
      ·
       rw [if_neg c9] at H; have c9b0 : decide (x26_2 < (a0.size : Int)) = false := decide_eq_false c9; clear c9; simp only [Option.some.injEq, Prod.mk.injEq] at H; obtain ⟨rfl, rfl⟩ := H; go_wp2; go_ret2
       exact ⟨by first | rfl | (simp; done) | (simp [*]; done), by repeat (first | exact Drawn0.refl _ | apply Drawn0.step)⟩
end Go.Proofs.YtnhmlneebnkjcaaDoor.Pr
namespace Go.Proofs.YtnhmlneebnkjcaaDoor.Pr
open Go.RowKit Go.Proofs.YtnhmlneebnkjcaaDoorW.PrintWords Go.Proofs.YtnhmlneebnkjcaaDoorW.PrintLast Go.Proofs.YtnhmlneebnkjcaaDoorW.PrintMore Go.Proofs.YtnhmlneebnkjcaaDoor.X
attribute [local go_sem] max2_int min2_int max_two min_two max_three min_three max_four min_four   -- for this text's walks alone
set_option linter.unusedVariables false
set_option linter.unusedSimpArgs false
def cask_words.tbl : List (List UInt8 × Int) := [([108, 121, 105, 110, 103], 1), ([115, 116, 97, 110, 100, 105, 110, 103], 2)]
theorem cask_words.zero (w : World) : (zeroValue 3).run Tryd.prog w = .ok (.int .i64 0) w := by kernel_rfl
theorem cask_words.size {s : ByteArray} (h : s.size ≤ 100000) : s.size ≤ maxLen := Nat.le_trans h (by decide)
section
open Go.Maps Go.WideMaps
set_option maxHeartbeats 8000000 in
set_option maxRecDepth 100000 in
theorem cask_words.calls (w : World) : Calls Tryd.prog 64 #[] w fun e w' => ∃ b, e = .returned (.map (some b)) ∧ w'.ownsMap Tryd.prog 9 intE b 2 (litMap encI cask_words.tbl) ∧ Below w.heap.size w w' := by
 have hmm := @run_makeMap Tryd.prog; have h0 : (w.alloc (.map #[] 0)).ownsMap Tryd.prog 9 intE w.heap.size 0 (litMap encI []) := World.ownsMap_made _ _ _ _; have hb0 : Below w.heap.size w (w.alloc (.map #[] 0)) := (Below.refl _ _).alloc (Nat.le_refl _) _; go_enter Tryd.func64, Tryd.ntmps64
 go_wp2_with (first
  | (refine wpList_insert_int _ rfl _ _ _ 97 rfl 9 3 Tryd.underlying97 Tryd.underlying9 w.heap.size _ _ rfl (by assumption) (by decide) _ (by decide) _ rfl rfl ?_; intro w1 ho1 hg1; have hb1 := Below.grown (by assumption) hg1 (Below.size (by assumption)) (fun j hj => by cases hj; exact Nat.le_refl _))
  | go_in)
 go_ret
 exact ⟨_, rfl, by assumption, by assumption⟩
/-- The words of a line, as they lie in memory. -/
theorem word_cell {w : World} {A : Option Addr} {ws : List ByteArray} (h : Kd.C Kd.string w A ws.length ws) (i : Nat) (hi : i < ws.length) : ∃ ad, A = some ad ∧ w.cell? (ad.add i) = some (.string (rdOf ByteArray.empty ws (i : Int))) := by
 obtain ⟨ad, e, x⟩ := Kd.at_string h (i : Int) (by omega) (by omega)
 exact ⟨ad, e, by simpa using x⟩
def cask_outside.pos (s : ByteArray) : Option Int := lastAt none cask_words.tbl s.data.toList
def cask_outside.f (k : Nat) (ws : List ByteArray) : Option (Option S27) := if ws.length = 5 ∧ (rdOf ByteArray.empty ws 0).toList = ([99, 97, 115, 107] : List UInt8) ∧ ¬ (rdOf ByteArray.empty ws 1).toList = ([] : List UInt8) ∧ (rdOf ByteArray.empty ws 3).toList = ([100, 101, 99, 108, 97, 114, 101, 100] : List UInt8) then
 (if (rdOf ByteArray.empty ws 2).size ≤ 100000 then (cask_number.f k (rdOf ByteArray.empty ws 4)).bind fun b => some (match cask_outside.pos (rdOf ByteArray.empty ws 2) with
  | none => none
  | some p => if b.2 = true then some (⟨rdOf ByteArray.empty ws 1, p, [], b.1⟩ : S27) else none) else none) else some none
set_option maxHeartbeats 8000000 in
set_option maxRecDepth 100000 in
theorem cask_outside.calls (k : Nat) (g : Nat) (v : Value) (l : List S27) (ws : List ByteArray) (A1 : Option Addr) (c1 : Nat) (r : Option S27) (w we : World) (hg : w.heap.size ≤ g) (hb : we.heap[g]? = some (.cells #[v] 71 (0, 0)))
  (ho : Kd.S k27 27 we w.heap.size (fun _ => True) v l) (hl2 : l.length < 4294967296) (hB : Below w.heap.size w we) (hr1 : Kd.C Kd.string we A1 ws.length ws) (hc1 : ws.length ≤ c1) (h : cask_outside.f k ws = some r) :
  Calls Tryd.prog 63 #[.pointer (some ⟨g, 0, none⟩), .slice A1 ws.length c1] we fun e w' => (r = none ∧ e = .returned (.pointer none) ∧ Below w.heap.size w w') ∨
   (∃ p s v', r = some p ∧ e = .returned (.pointer (some ⟨s, 0, none⟩)) ∧ w'.heap[s]? = some (.cells #[.func (.func 74) #[] #[]] 78 (0, 0)) ∧ w'.heap[g]? = some (.cells #[v'] 71 (0, 0)) ∧ Kd.S k27 27 w' w.heap.size (fun _ => True) v' (l ++ [p]) ∧ Below w.heap.size w w') := by
 have hu71 := Tryd.underlying71; have hu27 := Tryd.underlying27; have hu79 := Tryd.underlying79; have HB := Aside0.mk hB; have HO := Aside0.mk ho; have HBX := Aside0.mk hb; have HGE := Aside0.mk hg; have HL2 := Aside0.mk hl2; have HR1 := Aside0.mk hr1; clear hB ho hb hg hl2 hr1; unfold cask_outside.f at h; by_cases cl : ws.length = 5
 case neg =>
  rw [if_neg (fun hh => cl hh.1)] at h; obtain rfl := Option.some.inj h; have b0 : ((ws.length : Int) == 5) = false := beq_eq_false_iff_ne.mpr (by omega); have b1 : ((ws.length : Int) != 5) = true := bne_iff_ne.mpr (by omega); clear cl h; go_enter Tryd.func63, Tryd.ntmps63
  go_wp2; go_ret
  exact .inl ⟨by trivial, rfl, HB.out⟩
 have b0 : ((ws.length : Int) == 5) = true := beq_iff_eq.mpr (by omega); have b1 : ((ws.length : Int) != 5) = false := bne_eq_false_iff_eq.mpr (by omega); obtain ⟨ad, rfl, x0⟩ := word_cell HR1.out 0 (by omega); obtain ⟨ad', e1, x1⟩ := word_cell HR1.out 1 (by omega); obtain rfl : ad = ad' := Option.some.inj e1; obtain ⟨ad', e2, x2⟩ := word_cell HR1.out 2 (by omega); obtain rfl : ad = ad' := Option.some.inj e2; obtain ⟨ad', e3, x3⟩ := word_cell HR1.out 3 (by omega); obtain rfl : ad = ad' := Option.some.inj e3; obtain ⟨ad', e4, x4⟩ := word_cell HR1.out 4 (by omega); obtain rfl : ad = ad' := Option.some.inj e4; clear e1 e2 e3 e4; rw [Addr.add_zero'] at x0; simp only [Go.Addr.add, Nat.reduceEqDiff, ↓reduceIte] at x1 x2 x3 x4; have q0 : (0 < ws.length) = True := eq_true (by omega); have q1 : (1 < ws.length) = True := eq_true (by omega); have q2 : (2 < ws.length) = True := eq_true (by omega); have q3 : (3 < ws.length) = True := eq_true (by omega); have q4 : (4 < ws.length) = True := eq_true (by omega); have qi0 : (0 < (ws.length : Int)) = True := eq_true (by omega); have qi1 : (1 < (ws.length : Int)) = True := eq_true (by omega); have qi2 : (2 < (ws.length : Int)) = True := eq_true (by omega); have qi3 : (3 < (ws.length : Int)) = True := eq_true (by omega); have qi4 : (4 < (ws.length : Int)) = True := eq_true (by omega); have y0 : rdOf ByteArray.empty ws ((0 : Nat) : Int) = rdOf ByteArray.empty ws 0 := rfl; have y1 : rdOf ByteArray.empty ws ((1 : Nat) : Int) = rdOf ByteArray.empty ws 1 := rfl; have y2 : rdOf ByteArray.empty ws ((2 : Nat) : Int) = rdOf ByteArray.empty ws 2 := rfl; have y3 : rdOf ByteArray.empty ws ((3 : Nat) : Int) = rdOf ByteArray.empty ws 3 := rfl; have y4 : rdOf ByteArray.empty ws ((4 : Nat) : Int) = rdOf ByteArray.empty ws 4 := rfl; rw [y0] at x0; rw [y1] at x1; rw [y2] at x2; rw [y3] at x3; rw [y4] at x4; clear y0 y1 y2 y3 y4; generalize rdOf ByteArray.empty ws 0 = s0 at *; generalize rdOf ByteArray.empty ws 1 = s1 at *; generalize rdOf ByteArray.empty ws 2 = s2 at *; generalize rdOf ByteArray.empty ws 3 = s3 at *; generalize rdOf ByteArray.empty ws 4 = s4 at *; by_cases ca : s0.toList = ([99, 97, 115, 107] : List UInt8)
 case neg =>
  rw [if_neg (fun hh => ca hh.2.1)] at h; obtain rfl := Option.some.inj h; have a0 : (s0.toList == ([99, 97, 115, 107] : List UInt8)) = false := beq_eq_false_iff_ne.mpr ca; have a1 : (s0.toList != ([99, 97, 115, 107] : List UInt8)) = true := bne_iff_ne.mpr ca; clear ca h cl; go_enter Tryd.func63, Tryd.ntmps63
  go_wp2; go_ret
  exact .inl ⟨by trivial, rfl, HB.out⟩
 have a0 : (s0.toList == ([99, 97, 115, 107] : List UInt8)) = true := beq_iff_eq.mpr ca; have a1 : (s0.toList != ([99, 97, 115, 107] : List UInt8)) = false := bne_eq_false_iff_eq.mpr ca; by_cases cn : s1.toList = ([] : List UInt8)
 case pos =>
  rw [if_neg (fun hh => hh.2.2.1 cn)] at h; obtain rfl := Option.some.inj h; have d0 : (s1.toList == ([] : List UInt8)) = true := beq_iff_eq.mpr cn; have d2 : s1.toList.isEmpty = true := by rw [cn]; rfl
  clear ca h cl cn; go_enter Tryd.func63, Tryd.ntmps63
  go_wp2; go_ret
  exact .inl ⟨by trivial, rfl, HB.out⟩
 have d0 : (s1.toList == ([] : List UInt8)) = false := beq_eq_false_iff_ne.mpr cn; have d2 : s1.toList.isEmpty = false := by cases hh : s1.toList with | nil => exact absurd hh cn | cons _ _ => rfl
 by_cases cr : s3.toList = ([100, 101, 99, 108, 97, 114, 101, 100] : List UInt8)
 case neg =>
  rw [if_neg (fun hh => cr hh.2.2.2)] at h; obtain rfl := Option.some.inj h; have f0 : (s3.toList == ([100, 101, 99, 108, 97, 114, 101, 100] : List UInt8)) = false := beq_eq_false_iff_ne.mpr cr; have f1 : (s3.toList != ([100, 101, 99, 108, 97, 114, 101, 100] : List UInt8)) = true := bne_iff_ne.mpr cr; clear ca cr h cl cn; go_enter Tryd.func63, Tryd.ntmps63
  go_wp2; go_ret
  exact .inl ⟨by trivial, rfl, HB.out⟩
 have f0 : (s3.toList == ([100, 101, 99, 108, 97, 114, 101, 100] : List UInt8)) = true := beq_iff_eq.mpr cr; have f1 : (s3.toList != ([100, 101, 99, 108, 97, 114, 101, 100] : List UInt8)) = false := bne_eq_false_iff_eq.mpr cr; rw [if_pos ⟨cl, ca, cn, cr⟩] at h; clear ca cr cl cn; by_cases hsz : s2.size ≤ 100000
 case neg => rw [if_neg hsz] at h; cases h
 rw [if_pos hsz] at h; have HSZ := Aside0.mk hsz; clear hsz; obtain ⟨⟨n, o⟩, hn, h⟩ := Option.bind_eq_some_iff.mp h; have h := Option.some.inj h; dsimp only at h
 have HN := Aside0.mk hn; clear hn; have HC4 := Aside0.mk x4; have HC1 := Aside0.mk x1; clear x4
 cases hp : cask_outside.pos s2 with
 | none =>
  rw [hp] at h; subst h; have HPOS := Aside0.mk hp; clear hp; go_enter Tryd.func63, Tryd.ntmps63
  go_upto_region 3 with (fail)
  clear x1 x3; refine start_ (n := 10) (S := fun w' => w'.cell? ⟨ad.block, ad.off + 2, none⟩ = some (.string s2)) (ds := []) #[false, false, false, false, false, false, false, false, false, false] (by kernel_rfl) rfl rfl (x2) (fun hHeld => ?_); have HB3 := Aside0.mk (below_drew1 HB.out); have x4 : we.drew.cell? ⟨ad.block, ad.off + 4, none⟩ = some (.string s4) := HC4.out; generalize World.drew _ = W at hHeld HB3 x4 ⊢
  refine pure_ (i := 1) (N := some 32) (v := ?_) (a' := ?_) #[false, true, false, false, false, false, false, false, false, false] rfl rfl (by kernel_rfl) (fun _ _ _ h => h) (Or.inl ⟨by rfl, ?_⟩) ?_ ?_; rotate_left
  · intro w'; go_simp; with_reducible rfl
  rotate_left
  · simp only [Act.put, sIA, sC0, sCS, i64_w, i32_w]; rfl
  refine pure_ (i := 2) (N := some 33) (v := ?_) (a' := ?_) #[false, true, true, false, false, false, false, false, false, false] rfl rfl (by kernel_rfl) (fun _ _ _ h => h) (Or.inl ⟨by rfl, ?_⟩) ?_ ?_; rotate_left
  · intro w'; go_simp; with_reducible rfl
  rotate_left
  · simp only [Act.put, sIA, sC0, sCS, i64_w, i32_w]; rfl
  refine take_ (i := 3) (N := some 34) (v := ?_) (a' := ?_) #[false, true, true, true, false, false, false, false, false, false] rfl rfl (by kernel_rfl) (fun _ _ _ h => h) (Or.inl ⟨by rfl, ?_⟩) hHeld ?_ ?_; rotate_left
  · intro w' s0; go_simp; with_reducible rfl
  rotate_left
  · simp only [Act.put, sIA, sC0, sCS, i64_w, i32_w]; rfl
  refine one_ (i := 0) (N := some 31) #[true, true, true, true, false, false, false, false, false, false] rfl rfl (by kernel_rfl) (by decide) (fun K hK => ?_); refine goes_ Tryd.func64 (by kernel_rfl) rfl #[] (by rfl) rfl rfl (by first | rfl | (simp only [List.map_toArray, List.map_cons, List.map_nil]; done) | (simp only [List.map_toArray, List.map_cons, List.map_nil]; rfl)) ?_; with_reducible refine (cask_words.calls _).mono ?_
  rintro e w3 ⟨b, rfl, hm3, hb3⟩; refine ⟨_, rfl, ?_⟩; refine hK.out _ _ ((hb3.cell (World.block_lt_of_cell? _ _ hHeld)).trans hHeld) (fun hHeld => ?_); clear hK K; refine norm_ (a' := ?_) ?_ ?_; rotate_left
  ·
   show Act.put _ (some 31) _ = _
   simp only [Act.put, sIA, sC0, sCS, i64_w, i32_w]; rfl
  refine one_ (i := 4) (N := some 35) #[true, true, true, true, true, false, false, false, false, false] rfl rfl (by kernel_rfl) (by decide) (fun K hK => ?_); have hlk := look_int_ok (w := w3) Tryd.underlying97 Tryd.underlying9 (cask_words.zero w3) hm3 s2 (cask_words.size HSZ.out); rw [show lastAt none cask_words.tbl s2.data.toList = none from HPOS.out] at hlk; simp only [Option.getD_some, Option.getD_none, Option.isSome_some, Option.isSome_none] at hlk; refine value_ (w1 := ?_) (v := ?_) (by rfl) rfl ?_ ?_; rotate_left 2
  ·
   go_simp; constructor
   · rfl
   · rfl
  refine hK.out _ _ (hHeld) (fun hHeld => ?_); clear hK K; refine norm_ (a' := ?_) ?_ ?_; rotate_left
  ·
   show Act.put _ (some 35) _ = _
   simp only [Act.put, sIA, sC0, sCS, i64_w, i32_w]; rfl
  refine pure_ (i := 5) (N := some 30) (v := ?_) (a' := ?_) #[true, true, true, true, true, true, false, false, false, false] rfl rfl (by kernel_rfl) (fun _ _ _ h => h) (Or.inl ⟨by rfl, ?_⟩) ?_ ?_; rotate_left
  · intro w'; go_simp; with_reducible rfl
  rotate_left
  · simp only [Act.put, sIA, sC0, sCS, i64_w, i32_w]; rfl
  refine pure_ (i := 6) (N := some 36) (v := ?_) (a' := ?_) #[true, true, true, true, true, true, true, false, false, false] rfl rfl (by kernel_rfl) (fun _ _ _ h => h) (Or.inl ⟨by rfl, ?_⟩) ?_ ?_; rotate_left
  · intro w'; go_simp; with_reducible rfl
  rotate_left
  · simp only [Act.put, sIA, sC0, sCS, i64_w, i32_w]; rfl
  refine pure_ (i := 7) (N := some 37) (v := ?_) (a' := ?_) #[true, true, true, true, true, true, true, true, false, false] rfl rfl (by kernel_rfl) (fun _ _ _ h => h) (Or.inl ⟨by rfl, ?_⟩) ?_ ?_; rotate_left
  · intro w'; go_simp; with_reducible rfl
  rotate_left
  · simp only [Act.put, sIA, sC0, sCS, i64_w, i32_w]; rfl
  refine pure_ (i := 8) (N := some 5) (v := ?_) (a' := ?_) #[true, true, true, true, true, true, true, true, true, false] rfl rfl (by kernel_rfl) (fun _ _ _ h => h) (Or.inl ⟨by rfl, ?_⟩) ?_ ?_; rotate_left
  · intro w'; go_simp; with_reducible rfl
  rotate_left
  · simp only [Act.put, sIA, sC0, sCS, i64_w, i32_w]; rfl
  refine pure_ (i := 9) (N := some 6) (v := ?_) (a' := ?_) #[true, true, true, true, true, true, true, true, true, true] rfl rfl (by kernel_rfl) (fun _ _ _ h => h) (Or.inl ⟨by rfl, ?_⟩) ?_ ?_; rotate_left
  · intro w'; go_simp; with_reducible rfl
  rotate_left
  · simp only [Act.put, sIA, sC0, sCS, i64_w, i32_w]; rfl
  refine done_ (by kernel_rfl) ?_; have HB5 := Aside0.mk (below_step HB3.out hb3); replace x4 := (hb3.cell (World.block_lt_of_cell? _ _ x4)).trans x4; go_wp2_with (go_at_call 65; refine (cask_number.calls k s4 n _ _ HN.out).mono ?_; rintro e w5 ⟨rfl, hd1⟩; obtain ⟨m1, rfl⟩ := hd1)
  go_ret
  exact .inl ⟨by trivial, rfl, by repeat (first | exact HB5.out | apply pw_below_drewN)⟩
 | some p =>
  rw [hp] at h; dsimp only at h
  have HPOS := Aside0.mk hp; clear hp
  cases o with
  | false =>
   rw [if_neg (by decide)] at h; subst h; go_enter Tryd.func63, Tryd.ntmps63
   go_upto_region 3 with (fail)
   clear x1 x3; refine start_ (n := 10) (S := fun w' => w'.cell? ⟨ad.block, ad.off + 2, none⟩ = some (.string s2)) (ds := []) #[false, false, false, false, false, false, false, false, false, false] (by kernel_rfl) rfl rfl (x2) (fun hHeld => ?_); have HB3 := Aside0.mk (below_drew1 HB.out); have x4 : we.drew.cell? ⟨ad.block, ad.off + 4, none⟩ = some (.string s4) := HC4.out; generalize World.drew _ = W at hHeld HB3 x4 ⊢
   refine pure_ (i := 1) (N := some 32) (v := ?_) (a' := ?_) #[false, true, false, false, false, false, false, false, false, false] rfl rfl (by kernel_rfl) (fun _ _ _ h => h) (Or.inl ⟨by rfl, ?_⟩) ?_ ?_; rotate_left
   · intro w'; go_simp; with_reducible rfl
   rotate_left
   · simp only [Act.put, sIA, sC0, sCS, i64_w, i32_w]; rfl
   refine pure_ (i := 2) (N := some 33) (v := ?_) (a' := ?_) #[false, true, true, false, false, false, false, false, false, false] rfl rfl (by kernel_rfl) (fun _ _ _ h => h) (Or.inl ⟨by rfl, ?_⟩) ?_ ?_; rotate_left
   · intro w'; go_simp; with_reducible rfl
   rotate_left
   · simp only [Act.put, sIA, sC0, sCS, i64_w, i32_w]; rfl
   refine take_ (i := 3) (N := some 34) (v := ?_) (a' := ?_) #[false, true, true, true, false, false, false, false, false, false] rfl rfl (by kernel_rfl) (fun _ _ _ h => h) (Or.inl ⟨by rfl, ?_⟩) hHeld ?_ ?_; rotate_left
   · intro w' s0; go_simp; with_reducible rfl
   rotate_left
   · simp only [Act.put, sIA, sC0, sCS, i64_w, i32_w]; rfl
   refine one_ (i := 0) (N := some 31) #[true, true, true, true, false, false, false, false, false, false] rfl rfl (by kernel_rfl) (by decide) (fun K hK => ?_); refine goes_ Tryd.func64 (by kernel_rfl) rfl #[] (by rfl) rfl rfl (by first | rfl | (simp only [List.map_toArray, List.map_cons, List.map_nil]; done) | (simp only [List.map_toArray, List.map_cons, List.map_nil]; rfl)) ?_; with_reducible refine (cask_words.calls _).mono ?_
   rintro e w3 ⟨b, rfl, hm3, hb3⟩; refine ⟨_, rfl, ?_⟩; refine hK.out _ _ ((hb3.cell (World.block_lt_of_cell? _ _ hHeld)).trans hHeld) (fun hHeld => ?_); clear hK K; refine norm_ (a' := ?_) ?_ ?_; rotate_left
   ·
    show Act.put _ (some 31) _ = _
    simp only [Act.put, sIA, sC0, sCS, i64_w, i32_w]; rfl
   refine one_ (i := 4) (N := some 35) #[true, true, true, true, true, false, false, false, false, false] rfl rfl (by kernel_rfl) (by decide) (fun K hK => ?_); have hlk := look_int_ok (w := w3) Tryd.underlying97 Tryd.underlying9 (cask_words.zero w3) hm3 s2 (cask_words.size HSZ.out); rw [show lastAt none cask_words.tbl s2.data.toList = some p from HPOS.out] at hlk; simp only [Option.getD_some, Option.getD_none, Option.isSome_some, Option.isSome_none] at hlk; refine value_ (w1 := ?_) (v := ?_) (by rfl) rfl ?_ ?_; rotate_left 2
   ·
    go_simp; constructor
    · rfl
    · rfl
   refine hK.out _ _ (hHeld) (fun hHeld => ?_); clear hK K; refine norm_ (a' := ?_) ?_ ?_; rotate_left
   ·
    show Act.put _ (some 35) _ = _
    simp only [Act.put, sIA, sC0, sCS, i64_w, i32_w]; rfl
   refine pure_ (i := 5) (N := some 30) (v := ?_) (a' := ?_) #[true, true, true, true, true, true, false, false, false, false] rfl rfl (by kernel_rfl) (fun _ _ _ h => h) (Or.inl ⟨by rfl, ?_⟩) ?_ ?_; rotate_left
   · intro w'; go_simp; with_reducible rfl
   rotate_left
   · simp only [Act.put, sIA, sC0, sCS, i64_w, i32_w]; rfl
   refine pure_ (i := 6) (N := some 36) (v := ?_) (a' := ?_) #[true, true, true, true, true, true, true, false, false, false] rfl rfl (by kernel_rfl) (fun _ _ _ h => h) (Or.inl ⟨by rfl, ?_⟩) ?_ ?_; rotate_left
   · intro w'; go_simp; with_reducible rfl
   rotate_left
   · simp only [Act.put, sIA, sC0, sCS, i64_w, i32_w]; rfl
   refine pure_ (i := 7) (N := some 37) (v := ?_) (a' := ?_) #[true, true, true, true, true, true, true, true, false, false] rfl rfl (by kernel_rfl) (fun _ _ _ h => h) (Or.inl ⟨by rfl, ?_⟩) ?_ ?_; rotate_left
   · intro w'; go_simp; with_reducible rfl
   rotate_left
   · simp only [Act.put, sIA, sC0, sCS, i64_w, i32_w]; rfl
   refine pure_ (i := 8) (N := some 5) (v := ?_) (a' := ?_) #[true, true, true, true, true, true, true, true, true, false] rfl rfl (by kernel_rfl) (fun _ _ _ h => h) (Or.inl ⟨by rfl, ?_⟩) ?_ ?_; rotate_left
   · intro w'; go_simp; with_reducible rfl
   rotate_left
   · simp only [Act.put, sIA, sC0, sCS, i64_w, i32_w]; rfl
   refine pure_ (i := 9) (N := some 6) (v := ?_) (a' := ?_) #[true, true, true, true, true, true, true, true, true, true] rfl rfl (by kernel_rfl) (fun _ _ _ h => h) (Or.inl ⟨by rfl, ?_⟩) ?_ ?_; rotate_left
   · intro w'; go_simp; with_reducible rfl
   rotate_left
   · simp only [Act.put, sIA, sC0, sCS, i64_w, i32_w]; rfl
   refine done_ (by kernel_rfl) ?_; have HB5 := Aside0.mk (below_step HB3.out hb3); replace x4 := (hb3.cell (World.block_lt_of_cell? _ _ x4)).trans x4; go_wp2_with (go_at_call 65; refine (cask_number.calls k s4 n _ _ HN.out).mono ?_; rintro e w5 ⟨rfl, hd1⟩; obtain ⟨m1, rfl⟩ := hd1)
   go_ret
   exact .inl ⟨by trivial, rfl, by repeat (first | exact HB5.out | apply pw_below_drewN)⟩
  | true =>
   rw [if_pos rfl] at h; subst h; obtain ⟨A0, c0, rfl⟩ := Kd.S_slice HO.out; go_enter Tryd.func63, Tryd.ntmps63
   go_upto_region 3 with (fail)
   clear x1 x3; refine start_ (n := 10) (S := fun w' => w'.cell? ⟨ad.block, ad.off + 2, none⟩ = some (.string s2)) (ds := []) #[false, false, false, false, false, false, false, false, false, false] (by kernel_rfl) rfl rfl (x2) (fun hHeld => ?_); have HB3 := Aside0.mk (below_drew1 HB.out); have HO3 := Aside0.mk (Kd.S_drew HO.out); have HBX3 := Aside0.mk (blk_drew HBX.out); have x4 : we.drew.cell? ⟨ad.block, ad.off + 4, none⟩ = some (.string s4) := HC4.out; have x1 : we.drew.cell? ⟨ad.block, ad.off + 1, none⟩ = some (.string s1) := HC1.out; generalize World.drew _ = W at hHeld HB3 HO3 HBX3 x4 x1 ⊢
   refine pure_ (i := 1) (N := some 32) (v := ?_) (a' := ?_) #[false, true, false, false, false, false, false, false, false, false] rfl rfl (by kernel_rfl) (fun _ _ _ h => h) (Or.inl ⟨by rfl, ?_⟩) ?_ ?_; rotate_left
   · intro w'; go_simp; with_reducible rfl
   rotate_left
   · simp only [Act.put, sIA, sC0, sCS, i64_w, i32_w]; rfl
   refine pure_ (i := 2) (N := some 33) (v := ?_) (a' := ?_) #[false, true, true, false, false, false, false, false, false, false] rfl rfl (by kernel_rfl) (fun _ _ _ h => h) (Or.inl ⟨by rfl, ?_⟩) ?_ ?_; rotate_left
   · intro w'; go_simp; with_reducible rfl
   rotate_left
   · simp only [Act.put, sIA, sC0, sCS, i64_w, i32_w]; rfl
   refine take_ (i := 3) (N := some 34) (v := ?_) (a' := ?_) #[false, true, true, true, false, false, false, false, false, false] rfl rfl (by kernel_rfl) (fun _ _ _ h => h) (Or.inl ⟨by rfl, ?_⟩) hHeld ?_ ?_; rotate_left
   · intro w' s0; go_simp; with_reducible rfl
   rotate_left
   · simp only [Act.put, sIA, sC0, sCS, i64_w, i32_w]; rfl
   refine one_ (i := 0) (N := some 31) #[true, true, true, true, false, false, false, false, false, false] rfl rfl (by kernel_rfl) (by decide) (fun K hK => ?_); refine goes_ Tryd.func64 (by kernel_rfl) rfl #[] (by rfl) rfl rfl (by first | rfl | (simp only [List.map_toArray, List.map_cons, List.map_nil]; done) | (simp only [List.map_toArray, List.map_cons, List.map_nil]; rfl)) ?_; with_reducible refine (cask_words.calls _).mono ?_
   rintro e w3 ⟨b, rfl, hm3, hb3⟩; refine ⟨_, rfl, ?_⟩; refine hK.out _ _ ((hb3.cell (World.block_lt_of_cell? _ _ hHeld)).trans hHeld) (fun hHeld => ?_); clear hK K; refine norm_ (a' := ?_) ?_ ?_; rotate_left
   ·
    show Act.put _ (some 31) _ = _
    simp only [Act.put, sIA, sC0, sCS, i64_w, i32_w]; rfl
   refine one_ (i := 4) (N := some 35) #[true, true, true, true, true, false, false, false, false, false] rfl rfl (by kernel_rfl) (by decide) (fun K hK => ?_); have hlk := look_int_ok (w := w3) Tryd.underlying97 Tryd.underlying9 (cask_words.zero w3) hm3 s2 (cask_words.size HSZ.out); rw [show lastAt none cask_words.tbl s2.data.toList = some p from HPOS.out] at hlk; simp only [Option.getD_some, Option.getD_none, Option.isSome_some, Option.isSome_none] at hlk; refine value_ (w1 := ?_) (v := ?_) (by rfl) rfl ?_ ?_; rotate_left 2
   ·
    go_simp; constructor
    · rfl
    · rfl
   refine hK.out _ _ (hHeld) (fun hHeld => ?_); clear hK K; refine norm_ (a' := ?_) ?_ ?_; rotate_left
   ·
    show Act.put _ (some 35) _ = _
    simp only [Act.put, sIA, sC0, sCS, i64_w, i32_w]; rfl
   refine pure_ (i := 5) (N := some 30) (v := ?_) (a' := ?_) #[true, true, true, true, true, true, false, false, false, false] rfl rfl (by kernel_rfl) (fun _ _ _ h => h) (Or.inl ⟨by rfl, ?_⟩) ?_ ?_; rotate_left
   · intro w'; go_simp; with_reducible rfl
   rotate_left
   · simp only [Act.put, sIA, sC0, sCS, i64_w, i32_w]; rfl
   refine pure_ (i := 6) (N := some 36) (v := ?_) (a' := ?_) #[true, true, true, true, true, true, true, false, false, false] rfl rfl (by kernel_rfl) (fun _ _ _ h => h) (Or.inl ⟨by rfl, ?_⟩) ?_ ?_; rotate_left
   · intro w'; go_simp; with_reducible rfl
   rotate_left
   · simp only [Act.put, sIA, sC0, sCS, i64_w, i32_w]; rfl
   refine pure_ (i := 7) (N := some 37) (v := ?_) (a' := ?_) #[true, true, true, true, true, true, true, true, false, false] rfl rfl (by kernel_rfl) (fun _ _ _ h => h) (Or.inl ⟨by rfl, ?_⟩) ?_ ?_; rotate_left
   · intro w'; go_simp; with_reducible rfl
   rotate_left
   · simp only [Act.put, sIA, sC0, sCS, i64_w, i32_w]; rfl
   refine pure_ (i := 8) (N := some 5) (v := ?_) (a' := ?_) #[true, true, true, true, true, true, true, true, true, false] rfl rfl (by kernel_rfl) (fun _ _ _ h => h) (Or.inl ⟨by rfl, ?_⟩) ?_ ?_; rotate_left
   · intro w'; go_simp; with_reducible rfl
   rotate_left
   · simp only [Act.put, sIA, sC0, sCS, i64_w, i32_w]; rfl
   refine pure_ (i := 9) (N := some 6) (v := ?_) (a' := ?_) #[true, true, true, true, true, true, true, true, true, true] rfl rfl (by kernel_rfl) (fun _ _ _ h => h) (Or.inl ⟨by rfl, ?_⟩) ?_ ?_; rotate_left
   · intro w'; go_simp; with_reducible rfl
   rotate_left
   · simp only [Act.put, sIA, sC0, sCS, i64_w, i32_w]; rfl
   refine done_ (by kernel_rfl) ?_; have HB5 := Aside0.mk (below_step HB3.out hb3); have HO5 := Aside0.mk (Kd.S_below HO3.out hb3); have HBX5 := Aside0.mk (blk_below (g := g) (o := .cells #[.slice A0 l.length c0] 71 (0, 0)) HBX3.out hb3); replace x4 := (hb3.cell (World.block_lt_of_cell? _ _ x4)).trans x4; have X1 := Aside0.mk ((hb3.cell (World.block_lt_of_cell? _ _ x1)).trans x1); clear x1; go_upto_region 7 with (go_at_call 65; refine (cask_number.calls k s4 n _ _ HN.out).mono ?_; rintro e w5 ⟨rfl, hd1⟩; obtain ⟨m1, rfl⟩ := hd1)
   have HB7 := Aside0.mk (below_drew1 (pw_below_drewN HB5.out m1)); have HO7 := Aside0.mk (Kd.S_drew (Kd.S_drewN HO5.out m1)); have HBX7 := Aside0.mk (blk_drew (blk_drewN HBX5.out m1)); have x1 : (w3.drewN m1).drew.cell? ⟨ad.block, ad.off + 1, none⟩ = some (.string s1) := X1.out; refine start_ (n := 16) (S := fun w' => w'.cell? ⟨g, 0, none⟩ = some (.slice A0 l.length c0) ∧ w'.cell? ⟨ad.block, ad.off + 1, none⟩ = some (.string s1)) (ds := [12, 15]) #[false, false, false, false, false, false, false, false, false, false, false, false, false, false, false, false] (by kernel_rfl) rfl rfl ⟨(blk_cell HBX7.out 0).trans rfl, x1⟩ (fun hHeld => ?_); generalize World.drew _ = W7 at hHeld HB7 HO7 HBX7 x1 ⊢; refine pure_ (i := 0) (N := some 51) (v := ?_) (a' := ?_) #[true, false, false, false, false, false, false, false, false, false, false, false, false, false, false, false] rfl rfl (by kernel_rfl) (fun _ _ _ h => h) (Or.inl ⟨by rfl, ?_⟩) ?_ ?_; rotate_left
   · intro w'; go_simp; with_reducible rfl
   rotate_left
   · simp only [Act.put, sIA, sC0, sCS, i64_w, i32_w]; rfl
   refine pure_ (i := 1) (N := some 52) (v := ?_) (a' := ?_) #[true, true, false, false, false, false, false, false, false, false, false, false, false, false, false, false] rfl rfl (by kernel_rfl) (fun _ _ _ h => h) (Or.inl ⟨by rfl, ?_⟩) ?_ ?_; rotate_left
   · intro w'; go_simp; with_reducible rfl
   rotate_left
   · simp only [Act.put, sIA, sC0, sCS, i64_w, i32_w]; rfl
   refine pure_ (i := 2) (N := some 53) (v := ?_) (a' := ?_) #[true, true, true, false, false, false, false, false, false, false, false, false, false, false, false, false] rfl rfl (by kernel_rfl) (fun _ _ _ h => h) (Or.inl ⟨by rfl, ?_⟩) ?_ ?_; rotate_left
   · intro w'; go_simp; with_reducible rfl
   rotate_left
   · simp only [Act.put, sIA, sC0, sCS, i64_w, i32_w]; rfl
   refine pure_ (i := 3) (N := some 54) (v := ?_) (a' := ?_) #[true, true, true, true, false, false, false, false, false, false, false, false, false, false, false, false] rfl rfl (by kernel_rfl) (fun _ _ _ h => h) (Or.inl ⟨by rfl, ?_⟩) ?_ ?_; rotate_left
   · intro w'; go_simp; with_reducible rfl
   rotate_left
   · simp only [Act.put, sIA, sC0, sCS, i64_w, i32_w]; rfl
   refine pure_ (i := 5) (N := some 56) (v := ?_) (a' := ?_) #[true, true, true, true, false, true, false, false, false, false, false, false, false, false, false, false] rfl rfl (by kernel_rfl) (fun _ _ _ h => h) (Or.inl ⟨by rfl, ?_⟩) ?_ ?_; rotate_left
   · intro w'; go_simp; with_reducible rfl
   rotate_left
   · simp only [Act.put, sIA, sC0, sCS, i64_w, i32_w]; rfl
   refine pure_ (i := 6) (N := some 57) (v := ?_) (a' := ?_) #[true, true, true, true, false, true, true, false, false, false, false, false, false, false, false, false] rfl rfl (by kernel_rfl) (fun _ _ _ h => h) (Or.inl ⟨by rfl, ?_⟩) ?_ ?_; rotate_left
   · intro w'; go_simp; with_reducible rfl
   rotate_left
   · simp only [Act.put, sIA, sC0, sCS, i64_w, i32_w]; rfl
   refine pure_ (i := 8) (N := some 59) (v := ?_) (a' := ?_) #[true, true, true, true, false, true, true, false, true, false, false, false, false, false, false, false] rfl rfl (by kernel_rfl) (fun _ _ _ h => h) (Or.inl ⟨by rfl, ?_⟩) ?_ ?_; rotate_left
   · intro w'; go_simp; with_reducible rfl
   rotate_left
   · simp only [Act.put, sIA, sC0, sCS, i64_w, i32_w]; rfl
   refine pure_ (i := 9) (N := some 60) (v := ?_) (a' := ?_) #[true, true, true, true, false, true, true, false, true, true, false, false, false, false, false, false] rfl rfl (by kernel_rfl) (fun _ _ _ h => h) (Or.inl ⟨by rfl, ?_⟩) ?_ ?_; rotate_left
   · intro w'; go_simp; with_reducible rfl
   rotate_left
   · simp only [Act.put, sIA, sC0, sCS, i64_w, i32_w]; rfl
   refine take_ (i := 4) (N := some 55) (v := ?_) (a' := ?_) #[true, true, true, true, true, true, true, false, true, true, false, false, false, false, false, false] rfl rfl (by kernel_rfl) (fun _ _ _ h => h) (Or.inl ⟨by rfl, ?_⟩) hHeld ?_ ?_; rotate_left
   · rintro w' ⟨s0, s1⟩; go_simp; with_reducible rfl
   rotate_left
   · simp only [Act.put, sIA, sC0, sCS, i64_w, i32_w]; rfl
   refine take_ (i := 7) (N := some 58) (v := ?_) (a' := ?_) #[true, true, true, true, true, true, true, true, true, true, false, false, false, false, false, false] rfl rfl (by kernel_rfl) (fun _ _ _ h => h) (Or.inl ⟨by rfl, ?_⟩) hHeld ?_ ?_; rotate_left
   · rintro w' ⟨s0, s1⟩; go_simp; with_reducible rfl
   rotate_left
   · simp only [Act.put, sIA, sC0, sCS, i64_w, i32_w]; rfl
   refine pure_ (i := 10) (N := some 61) (v := ?_) (a' := ?_) #[true, true, true, true, true, true, true, true, true, true, true, false, false, false, false, false] rfl rfl (by kernel_rfl) (fun _ _ _ h => h) (Or.inl ⟨by rfl, ?_⟩) ?_ ?_; rotate_left
   · intro w'; go_simp; with_reducible rfl
   rotate_left
   · simp only [Act.put, sIA, sC0, sCS, i64_w, i32_w]; rfl
   refine one_ (i := 11) (N := some 62) #[true, true, true, true, true, true, true, true, true, true, true, true, false, false, false, false] rfl rfl (by kernel_rfl) (by decide) (fun K hK => ?_); refine value_ (w1 := ?_) (v := ?_) (by rfl) rfl ?_ ?_; rotate_left 2
   ·
    go_simp; constructor
    · rfl
    · rfl
   refine hK.out _ _ ⟨(blk_cell (blk_alloc HBX7.out _) 0).trans rfl, (World.cell?_alloc_lt _ _ _ (World.block_lt_of_cell? _ _ x1)).trans x1⟩ (fun hHeld => ?_); clear hK K; refine norm_ (a' := ?_) ?_ ?_; rotate_left
   ·
    show Act.put _ (some 62) _ = _
    simp only [Act.put, sIA, sC0, sCS, i64_w, i32_w]; rfl
   refine last_ (i := 12) (N := some 63) #[true, true, true, true, true, true, true, true, true, true, true, true, true, false, false, false] rfl rfl (by kernel_rfl) (by decide) (fun K hK => ?_); refine Kd.S_append_step k27 (w0 := w) w.heap.size (by rfl) (.tmp 55) (.tmp 62) 22 27 (.agg #[(.string ⟨#[]⟩), (.int .i64 0), (.slice none 0 0), (.int .i64 0)]) 56 rfl Tryd.underlying22 info27 rfl (by decide) (by omega) (.slice A0 l.length c0) l (⟨s1, p, ([] : List (S46)), n⟩ : S27) [.string s1, .int .i64 p, .slice none 0 0, .int .i64 n] (fun _ => True) (fun _ => False) rfl rfl ?aP (fun k_ hk_ => hk_.elim) ?aF ?aO ?aB ?aS ?aL ?_; (case aP => exact k27_mkM _ _ _ (⟨s1, p, ([] : List (S46)), n⟩ : S27) (Kd.R_nil _ _ _ _ _))
   (case aB => exact HB7.out)
   (case aF => exact (fun _ _ => trivial))
   (case aO => exact Kd.S_mono HO7.out (fun k_ hk => ⟨trivial, fun e_ => e_⟩))
   (case aS => exact below_size HB7.out)
   (case aL => have := HL2.out; omega)
   intro v153 w25 ho hb hg hat; have HBX8 := Aside0.mk (blk_grown (g := g) (o := .cells #[.slice A0 l.length c0] 71 (0, 0)) HBX7.out hg (Kd.S_ne HO7.out HBX7.out (by decide))); have HB8 := Aside0.mk hb; have HO8 := Aside0.mk ho; clear ho hb hg hat; obtain ⟨Ao26, co26, eo26⟩ := Kd.S_slice HO8.out; (first | subst eo26 | (injection eo26 with f1_ f2_ f3_; have f4_ := f1_.symm; have f5_ := f3_.symm; clear f1_ f2_ f3_; subst f4_; subst f5_))
   have hs27 : w25.cell? ⟨g, 0, none⟩ = some (.slice A0 l.length c0) := (blk_cell HBX8.out 0).trans rfl; have hfs27 := blk_frozen HBX8.out 0; refine hK.out _ _ ?_; clear hK K; refine norm_ (a' := ?_) ?_ ?_; rotate_left
   ·
    show Act.put _ (some 63) _ = _
    simp only [Act.put, sIA, sC0, sCS, i64_w, i32_w]; rfl
   refine pure_ (i := 13) (N := some 64) (v := ?_) (a' := ?_) #[true, true, true, true, true, true, true, true, true, true, true, true, true, true, false, false] rfl rfl (by kernel_rfl) (fun _ _ _ h => h) (Or.inl ⟨by rfl, ?_⟩) ?_ ?_; rotate_left
   · intro w'; go_simp; with_reducible rfl
   rotate_left
   · simp only [Act.put, sIA, sC0, sCS, i64_w, i32_w]; rfl
   refine pure_ (i := 14) (N := some 65) (v := ?_) (a' := ?_) #[true, true, true, true, true, true, true, true, true, true, true, true, true, true, true, false] rfl rfl (by kernel_rfl) (fun _ _ _ h => h) (Or.inl ⟨by rfl, ?_⟩) ?_ ?_; rotate_left
   · intro w'; go_simp; with_reducible rfl
   rotate_left
   · simp only [Act.put, sIA, sC0, sCS, i64_w, i32_w]; rfl
   refine last_ (i := 15) (N := none) #[true, true, true, true, true, true, true, true, true, true, true, true, true, true, true, true] rfl rfl (by kernel_rfl) (by decide) (fun K hK => ?_); refine skip_ (w1 := ?_) (by rfl) rfl ?_ ?_; rotate_left
   · go_simp; rfl
   refine hK.out _ _ ?_; clear hK K; refine done_ (by kernel_rfl) ?_; go_wp2; go_ret
   have HO9 : Kd.S k27 27 w25 w.heap.size (fun _ => True) (.slice Ao26 (l.length + 1) co26) (l ++ [(⟨s1, p, [], n⟩ : S27)]) := by
    have q := HO8.out; rw [List.length_append] at q; exact q
   have hnew : ((w25.setCell ⟨g, 0, none⟩ (Value.slice Ao26 (l.length + 1) co26)).alloc (.cells #[.func (.func 74) #[] #[]] 78)).heap[w25.heap.size]? = some (.cells #[.func (.func 74) #[] #[]] 78 (0, 0)) := by
    have q := World.alloc_heap_new (w25.setCell ⟨g, 0, none⟩ (Value.slice Ao26 (l.length + 1) co26)) (.cells #[.func (.func 74) #[] #[]] 78); rwa [show (w25.setCell ⟨g, 0, none⟩ (Value.slice Ao26 (l.length + 1) co26)).heap.size = w25.heap.size from by simp] at q
   refine .inr ⟨_, _, _, rfl, rfl, hnew, blk_alloc (blk_put HBX8.out 0 _ rfl) _, Kd.S_alloc (Kd.S_mono (Kd.S_far (p := ⟨g, 0, none⟩) (Kd.S_types HO9 HBX8.out (by decide)) (fun _ hk => hk.2) _) (fun _ hk => trivial)) _, below_alloc (below_set HB8.out HGE.out) _⟩
end
section
/-- A part of an element: appended to, and stored. -/
theorem elem27 {W : World} {B g n cap : Nat} {l : List S27} (h : Kd.S k27 27 W B (fun _ => True) (.slice (some ⟨g, 0, none⟩) n cap) l) (i : Int) (h0 : 0 ≤ i) (h1 : i < n) :
  ∃ (oki : Nat → Prop) (v2 : Value), W.cell? ⟨g, i.toNat * 4 + 2, none⟩ = some v2 ∧ Kd.R k46 46 W B oki v2 (rd_T27 l i).f2 ∧
   ∀ (w1 : World) (v1 : Value) (y : List S46), Kd.R k46 46 w1 B (fun k => oki k ∨ W.heap.size ≤ k) v1 y → W.grownBy w1 v2.ownBlock →
    w1.cell? ⟨g, i.toNat * 4 + 2, none⟩ = some v2 ∧ w1.frozen? ⟨g, i.toNat * 4 + 2, none⟩ = false ∧
    Kd.S k27 27 (w1.setCell ⟨g, i.toNat * 4 + 2, none⟩ v1) B (fun _ => True) (.slice (some ⟨g, 0, none⟩) n cap) (l.set i.toNat (⟨(rd_T27 l i).f0, (rd_T27 l i).f1, y, (rd_T27 l i).f3⟩ : S27)) := by
 obtain ⟨oki, c, hcl, hM, hcc, hfr, hoki, hH⟩ := Kd.S_elem h z27 i h0 h1
 obtain ⟨v2, rfl, hR⟩ := k27_openM hM
 have hR2 : Kd.R k46 46 W B oki v2 (rd_T27 l i).f2 := hR
 refine ⟨oki, v2, hcc 2 _ rfl, hR2, fun w1 v1 y ho hg => ?_⟩
 have hH1 := Kd.H_grown (Kd.H_widen hH) hg (fun k e => .inl (hR.1 k e))
 obtain ⟨hcc1, hfr1⟩ := Kd.H_at hH1 h0 h1
 refine ⟨hcc1 2 _ rfl, hfr1 2, ?_⟩
 exact (Kd.S_seg0 hH1 h0 h1 (seg := [v1]) (j := 2) (show 3 ≤ 4 from by decide) (x' := (⟨(rd_T27 l i).f0, (rd_T27 l i).f1, y, (rd_T27 l i).f3⟩ : S27)) (k27_mkM _ _ _ (⟨(rd_T27 l i).f0, (rd_T27 l i).f1, y, (rd_T27 l i).f3⟩ : S27) (Kd.R_mono ho (fun k hk => hk.elim .inl (fun h2 => .inr ⟨trivial, h2⟩)))) (fun _ hk => hk)).1
/-- What a point's line comes to. -/
def cask_inside.f (k : Nat) (ws : List ByteArray) : Option (Option S46) := if ws.length = 4 ∧ (rdOf ByteArray.empty ws 0).toList = ([97, 116] : List UInt8) ∧ (rdOf ByteArray.empty ws 2).toList = ([114, 97, 100, 105, 117, 115] : List UInt8) then
 (cask_number.f k (rdOf ByteArray.empty ws 1)).bind fun a => (cask_number.f k (rdOf ByteArray.empty ws 3)).bind fun b => some (if a.2 = true ∧ b.2 = true then some (⟨a.1, b.1⟩ : S46) else none) else some none
/-- The last cask's points, one more. -/
def addPt (l : List S27) (p : S46) : List S27 := l.set ((l.length : Int) - 1).toNat (⟨(rd_T27 l ((l.length : Int) - 1)).f0, (rd_T27 l ((l.length : Int) - 1)).f1, (rd_T27 l ((l.length : Int) - 1)).f2 ++ [p], (rd_T27 l ((l.length : Int) - 1)).f3⟩ : S27)
set_option maxHeartbeats 8000000 in
set_option maxRecDepth 100000 in
theorem cask_inside.calls (k : Nat) (g : Nat) (v : Value) (l : List S27) (ws : List ByteArray) (A1 : Option Addr) (c1 : Nat) (r : Option S46) (w we : World) (hg : w.heap.size ≤ g) (hb : we.heap[g]? = some (.cells #[v] 71 (0, 0)))
  (ho : Kd.S k27 27 we w.heap.size (fun _ => True) v l) (hl : 0 < l.length) (hl2 : l.length < 4294967296) (hp : (rd_T27 l ((l.length : Int) - 1)).f2.length < 4294967296) (hB : Below w.heap.size w we) (hr1 : Kd.C Kd.string we A1 ws.length ws) (hc1 : ws.length ≤ c1) (h : cask_inside.f k ws = some r) :
  Calls Tryd.prog 74 #[.pointer (some ⟨g, 0, none⟩), .slice A1 ws.length c1] we fun e w' => (r = none ∧ e = .returned (.pointer none) ∧ Below w.heap.size w w') ∨
   (∃ p s, r = some p ∧ e = .returned (.pointer (some ⟨s, 0, none⟩)) ∧ w'.heap[s]? = some (.cells #[.func (.func 74) #[] #[]] 78 (0, 0)) ∧ w'.heap[g]? = some (.cells #[v] 71 (0, 0)) ∧ Kd.S k27 27 w' w.heap.size (fun _ => True) v (addPt l p) ∧ Below w.heap.size w w') := by
 have hu71 := Tryd.underlying71; have hu27 := Tryd.underlying27; have hu79 := Tryd.underlying79; have HB := Aside0.mk hB; have HO := Aside0.mk ho; have HBX := Aside0.mk hb; have HGE := Aside0.mk hg; have HL := Aside0.mk hl; have HL2 := Aside0.mk hl2; have HP := Aside0.mk hp; have HR1 := Aside0.mk hr1; clear hB ho hb hg hl hl2 hp hr1; unfold cask_inside.f at h; by_cases cl : ws.length = 4
 case neg =>
  rw [if_neg (fun hh => cl hh.1)] at h; obtain rfl := Option.some.inj h; have b0 : ((ws.length : Int) == 4) = false := beq_eq_false_iff_ne.mpr (by omega); have b1 : ((ws.length : Int) != 4) = true := bne_iff_ne.mpr (by omega); clear cl h; go_enter Tryd.func74, Tryd.ntmps74
  go_wp2; go_ret
  exact .inl ⟨by trivial, rfl, HB.out⟩
 have b0 : ((ws.length : Int) == 4) = true := beq_iff_eq.mpr (by omega); have b1 : ((ws.length : Int) != 4) = false := bne_eq_false_iff_eq.mpr (by omega); obtain ⟨ad, rfl, x0⟩ := word_cell HR1.out 0 (by omega); obtain ⟨ad', e1, x1⟩ := word_cell HR1.out 1 (by omega); obtain rfl : ad = ad' := Option.some.inj e1; obtain ⟨ad', e2, x2⟩ := word_cell HR1.out 2 (by omega); obtain rfl : ad = ad' := Option.some.inj e2; obtain ⟨ad', e3, x3⟩ := word_cell HR1.out 3 (by omega); obtain rfl : ad = ad' := Option.some.inj e3; clear e1 e2 e3; rw [Addr.add_zero'] at x0; simp only [Go.Addr.add, Nat.reduceEqDiff, ↓reduceIte] at x1 x2 x3; have q0 : (0 < ws.length) = True := eq_true (by omega); have q1 : (1 < ws.length) = True := eq_true (by omega); have q2 : (2 < ws.length) = True := eq_true (by omega); have q3 : (3 < ws.length) = True := eq_true (by omega); have qi0 : (0 < (ws.length : Int)) = True := eq_true (by omega); have qi1 : (1 < (ws.length : Int)) = True := eq_true (by omega); have qi2 : (2 < (ws.length : Int)) = True := eq_true (by omega); have qi3 : (3 < (ws.length : Int)) = True := eq_true (by omega); have y0 : rdOf ByteArray.empty ws ((0 : Nat) : Int) = rdOf ByteArray.empty ws 0 := rfl; have y1 : rdOf ByteArray.empty ws ((1 : Nat) : Int) = rdOf ByteArray.empty ws 1 := rfl; have y2 : rdOf ByteArray.empty ws ((2 : Nat) : Int) = rdOf ByteArray.empty ws 2 := rfl; have y3 : rdOf ByteArray.empty ws ((3 : Nat) : Int) = rdOf ByteArray.empty ws 3 := rfl; rw [y0] at x0; rw [y1] at x1; rw [y2] at x2; rw [y3] at x3; clear y0 y1 y2 y3; generalize rdOf ByteArray.empty ws 0 = s0 at *; generalize rdOf ByteArray.empty ws 1 = s1 at *; generalize rdOf ByteArray.empty ws 2 = s2 at *; generalize rdOf ByteArray.empty ws 3 = s3 at *; by_cases ca : s0.toList = ([97, 116] : List UInt8)
 case neg =>
  rw [if_neg (fun hh => ca hh.2.1)] at h; obtain rfl := Option.some.inj h; have a0 : (s0.toList == ([97, 116] : List UInt8)) = false := beq_eq_false_iff_ne.mpr ca; have a1 : (s0.toList != ([97, 116] : List UInt8)) = true := bne_iff_ne.mpr ca; clear ca h cl; go_enter Tryd.func74, Tryd.ntmps74
  go_wp2; go_ret
  exact .inl ⟨by trivial, rfl, HB.out⟩
 have a0 : (s0.toList == ([97, 116] : List UInt8)) = true := beq_iff_eq.mpr ca; have a1 : (s0.toList != ([97, 116] : List UInt8)) = false := bne_eq_false_iff_eq.mpr ca; by_cases cr : s2.toList = ([114, 97, 100, 105, 117, 115] : List UInt8)
 case neg =>
  rw [if_neg (fun hh => cr hh.2.2)] at h; obtain rfl := Option.some.inj h; have d0 : (s2.toList == ([114, 97, 100, 105, 117, 115] : List UInt8)) = false := beq_eq_false_iff_ne.mpr cr; have d1 : (s2.toList != ([114, 97, 100, 105, 117, 115] : List UInt8)) = true := bne_iff_ne.mpr cr; clear ca cr h cl; go_enter Tryd.func74, Tryd.ntmps74
  go_wp2; go_ret
  exact .inl ⟨by trivial, rfl, HB.out⟩
 have d0 : (s2.toList == ([114, 97, 100, 105, 117, 115] : List UInt8)) = true := beq_iff_eq.mpr cr; have d1 : (s2.toList != ([114, 97, 100, 105, 117, 115] : List UInt8)) = false := bne_eq_false_iff_eq.mpr cr; rw [if_pos ⟨cl, ca, cr⟩] at h; clear ca cr cl; obtain ⟨⟨n1, o1⟩, hn1, h⟩ := Option.bind_eq_some_iff.mp h; obtain ⟨⟨n2, o2⟩, hn2, h⟩ := Option.bind_eq_some_iff.mp h; have h := Option.some.inj h; dsimp only at h
 have HN1 := Aside0.mk hn1; have HN2 := Aside0.mk hn2; clear hn1 hn2; by_cases co : o1 = true ∧ o2 = true
 case neg =>
  rw [if_neg co] at h; subst h; have hwhich : o1 = false ∨ (o1 = true ∧ o2 = false) := by cases o1 <;> cases o2 <;> simp_all
  clear co; rcases hwhich with rfl | ⟨rfl, rfl⟩
  all_goals
   go_enter Tryd.func74, Tryd.ntmps74
   go_wp2_with (first | (go_at_call 65; with_reducible refine (cask_number.calls k s1 n1 _ _ HN1.out).mono ?_; rintro e w1 ⟨rfl, hd1⟩; obtain ⟨m1, rfl⟩ := hd1) | (go_at_call 65; with_reducible refine (cask_number.calls k s3 n2 _ _ HN2.out).mono ?_; rintro e w2 ⟨rfl, hd2⟩; obtain ⟨m2, rfl⟩ := hd2))
   go_ret
   exact .inl ⟨by trivial, rfl, by repeat (first | exact HB.out | apply pw_below_drewN)⟩
 case pos =>
  rw [if_pos co] at h; subst h; obtain ⟨rfl, rfl⟩ := co; obtain ⟨gr, c0, hv, hgr, hgl, cl_, hgc⟩ := Kd.S_form HO.out HL.out; subst hv; have GNE : Aside0 (g ≠ gr) := ⟨fun e => by subst e; have e1 := HBX.out; rw [hgc] at e1; cases e1⟩; have GRE := Aside0.mk hgr; clear hgr hgl hgc; obtain ⟨j, hj⟩ : ∃ j : Int, wrap64 ((l.length : Int) - 1) = j := ⟨_, rfl⟩
  have hjv : j = (l.length : Int) - 1 := by
   rw [← hj]; have := HL.out; have := HL2.out; unfold wrap64; omega
  have HJV := Aside0.mk hjv; have hjw : IntKind.i64.wrap ((l.length : Int) - 1) = j := (i64_w _).trans hj; have j0 : (0 ≤ j) = True := eq_true (by have := HL.out; omega); have j1 : (j < (l.length : Int)) = True := eq_true (by have := HL.out; omega); clear hjv; go_enter Tryd.func74, Tryd.ntmps74
  go_upto_region 7 with (first | (go_at_call 65; with_reducible refine (cask_number.calls k s1 n1 _ _ HN1.out).mono ?_; rintro e w1 ⟨rfl, hd1⟩; obtain ⟨m1, rfl⟩ := hd1) | (go_at_call 65; with_reducible refine (cask_number.calls k s3 n2 _ _ HN2.out).mono ?_; rintro e w2 ⟨rfl, hd2⟩; obtain ⟨m2, rfl⟩ := hd2))
  clear x0 x1 x2 x3; refine start_ (n := 12) (S := fun w' => w'.cell? ⟨g, 0, none⟩ = some (.slice (some ⟨gr, 0, none⟩) l.length c0)) (ds := []) #[false, false, false, false, false, false, false, false, false, false, false, false] (by kernel_rfl) rfl rfl ((blk_cell HBX.out 0).trans rfl) (fun hHeld => ?_); generalize hq_ : World.drew _ = W7 at hHeld ⊢; have HB7 : Aside0 (Below w.heap.size w W7) := ⟨by rw [← hq_]; exact below_drew1 (by repeat (first | exact HB.out | apply pw_below_drewN | apply below_drew1))⟩; have HO7 : Aside0 (Kd.S k27 27 W7 w.heap.size (fun _ => True) (.slice (some ⟨gr, 0, none⟩) l.length c0) l) := ⟨by rw [← hq_]; exact Kd.S_drew (by repeat (first | exact HO.out | apply Kd.S_drewN | apply Kd.S_drew))⟩; have HBX7 : Aside0 (W7.heap[g]? = some (.cells #[.slice (some ⟨gr, 0, none⟩) l.length c0] 71 (0, 0))) := ⟨by rw [← hq_]; exact HBX.out⟩; clear hq_
  refine pure_ (i := 0) (N := some 45) (v := ?_) (a' := ?_) #[true, false, false, false, false, false, false, false, false, false, false, false] rfl rfl (by kernel_rfl) (fun _ _ _ h => h) (Or.inl ⟨by rfl, ?_⟩) ?_ ?_; rotate_left
  · intro w'; go_simp; with_reducible rfl
  rotate_left
  · simp only [Act.put, sIA, sC0, sCS, i64_w, i32_w]; rfl
  refine pure_ (i := 1) (N := some 46) (v := ?_) (a' := ?_) #[true, true, false, false, false, false, false, false, false, false, false, false] rfl rfl (by kernel_rfl) (fun _ _ _ h => h) (Or.inl ⟨by rfl, ?_⟩) ?_ ?_; rotate_left
  · intro w'; go_simp; with_reducible rfl
  rotate_left
  · simp only [Act.put, sIA, sC0, sCS, i64_w, i32_w]; rfl
  refine pure_ (i := 2) (N := some 47) (v := ?_) (a' := ?_) #[true, true, true, false, false, false, false, false, false, false, false, false] rfl rfl (by kernel_rfl) (fun _ _ _ h => h) (Or.inl ⟨by rfl, ?_⟩) ?_ ?_; rotate_left
  · intro w'; go_simp; with_reducible rfl
  rotate_left
  · simp only [Act.put, sIA, sC0, sCS, i64_w, i32_w]; rfl
  refine pure_ (i := 4) (N := some 49) (v := ?_) (a' := ?_) #[true, true, true, false, true, false, false, false, false, false, false, false] rfl rfl (by kernel_rfl) (fun _ _ _ h => h) (Or.inl ⟨by rfl, ?_⟩) ?_ ?_; rotate_left
  · intro w'; go_simp; with_reducible rfl
  rotate_left
  · simp only [Act.put, sIA, sC0, sCS, i64_w, i32_w]; rfl
  refine pure_ (i := 5) (N := some 50) (v := ?_) (a' := ?_) #[true, true, true, false, true, true, false, false, false, false, false, false] rfl rfl (by kernel_rfl) (fun _ _ _ h => h) (Or.inl ⟨by rfl, ?_⟩) ?_ ?_; rotate_left
  · intro w'; go_simp; with_reducible rfl
  rotate_left
  · simp only [Act.put, sIA, sC0, sCS, i64_w, i32_w]; rfl
  refine pure_ (i := 6) (N := some 51) (v := ?_) (a' := ?_) #[true, true, true, false, true, true, true, false, false, false, false, false] rfl rfl (by kernel_rfl) (fun _ _ _ h => h) (Or.inl ⟨by rfl, ?_⟩) ?_ ?_; rotate_left
  · intro w'; go_simp; with_reducible rfl
  rotate_left
  · simp only [Act.put, sIA, sC0, sCS, i64_w, i32_w]; rfl
  refine take_ (i := 3) (N := some 48) (v := ?_) (a' := ?_) #[true, true, true, true, true, true, true, false, false, false, false, false] rfl rfl (by kernel_rfl) (fun _ _ _ h => h) (Or.inl ⟨by rfl, ?_⟩) hHeld ?_ ?_; rotate_left
  · intro w' s0; go_simp; with_reducible rfl
  rotate_left
  · simp only [Act.put, sIA, sC0, sCS, i64_w, i32_w]; rfl
  refine take_ (i := 7) (N := some 52) (v := ?_) (a' := ?_) #[true, true, true, true, true, true, true, true, false, false, false, false] rfl rfl (by kernel_rfl) (fun _ _ _ h => h) (Or.inl ⟨by rfl, ?_⟩) hHeld ?_ ?_; rotate_left
  · intro w' s0; go_simp; with_reducible rfl
  rotate_left
  · simp only [Act.put, sIA, sC0, sCS, i64_w, i32_w]; rfl
  refine pure_ (i := 8) (N := some 53) (v := ?_) (a' := ?_) #[true, true, true, true, true, true, true, true, true, false, false, false] rfl rfl (by kernel_rfl) (fun _ _ _ h => h) (Or.inl ⟨by rfl, ?_⟩) ?_ ?_; rotate_left
  · intro w'; go_simp; with_reducible rfl
  rotate_left
  · simp only [Act.put, sIA, sC0, sCS, i64_w, i32_w]; rfl
  refine pure_ (i := 9) (N := some 54) (v := ?_) (a' := ?_) #[true, true, true, true, true, true, true, true, true, true, false, false] rfl rfl (by kernel_rfl) (fun _ _ _ h => h) (Or.inl ⟨by rfl, ?_⟩) ?_ ?_; rotate_left
  · intro w'; go_simp; with_reducible rfl
  rotate_left
  · simp only [Act.put, sIA, sC0, sCS, i64_w, i32_w]; rfl
  refine pure_ (i := 10) (N := some 55) (v := ?_) (a' := ?_) #[true, true, true, true, true, true, true, true, true, true, true, false] rfl rfl (by kernel_rfl) (fun _ _ _ h => h) (Or.inl ⟨by rfl, ?_⟩) ?_ ?_; rotate_left
  · intro w'; go_simp; with_reducible rfl
  rotate_left
  · simp only [Act.put, sIA, sC0, sCS, i64_w, i32_w]; rfl
  refine pure_ (i := 11) (N := some 9) (v := ?_) (a' := ?_) #[true, true, true, true, true, true, true, true, true, true, true, true] rfl rfl (by kernel_rfl) (fun _ _ _ h => h) (Or.inl ⟨by rfl, ?_⟩) ?_ ?_; rotate_left
  · intro w'; go_simp; with_reducible rfl
  rotate_left
  · simp only [Act.put, sIA, sC0, sCS, i64_w, i32_w]; rfl
  refine done_ (by kernel_rfl) ?_; obtain ⟨oki, v2, hc2, hR2, hput⟩ := elem27 HO7.out j (of_eq_true j0) (of_eq_true j1); obtain ⟨A2, c2, rfl⟩ := Kd.R_slice hR2; have HR2 := Aside0.mk hR2; have HPUT := Aside0.mk hput; have hpl : Aside0 ((rd_T27 l j).f2.length < 4294967296) := ⟨by rw [HJV.out]; exact HP.out⟩; clear hR2 hput; obtain ⟨F, hF⟩ : ∃ F, (rd_T27 l j).f2 = F := ⟨_, rfl⟩; rw [hF] at hpl HR2 hc2 HPUT; have HF := Aside0.mk hF; clear hF
  go_wp2_with (first
   | ((with_reducible refine gate_builtin (b := .append) (xs := #[.tmp 60, .tmp 64]) rfl ?_); at_builtin; refine Kd.R_append k46 (w0 := w) w.heap.size rfl (.tmp 60) (.tmp 64) 25 46 (.agg #[(.int .i64 0), (.int .i64 0)]) 16 rfl Tryd.underlying25 info46 rfl (by decide) (by omega) (.slice A2 F.length c2) F (⟨n1, n2⟩ : S46) [.int .i64 n1, .int .i64 n2] (fun k_ => oki k_ ∨ W7.heap.size ≤ k_) (fun _ => False) rfl rfl ?aP (fun _ hk => hk.elim) ?aF ?aO ?aB ?aS ?aL ?_; (case aP => exact k46_mkM _ _ _ (⟨n1, n2⟩ : S46)); (case aB => exact HB7.out); (case aF => exact (fun k_ hk => .inr hk)); (case aO => exact Kd.R_mono HR2.out (fun _ hk => .inl hk)); (case aS => exact below_size HB7.out); (case aL => have := hpl.out; omega); intro v135 w27 ho hb hg hat; have HB8 := Aside0.mk hb; have HBX8 := Aside0.mk (blk_grown (g := g) (o := .cells #[.slice (some ⟨gr, 0, none⟩) l.length c0] 71 (0, 0)) HBX7.out hg (Kd.R_ne HR2.out HBX7.out (by decide))); obtain ⟨A3, c3, eo3⟩ := Kd.R_slice ho; subst eo3; obtain ⟨hq1, hq2, hq3⟩ := HPUT.out _ _ _ ho hg; have HQ3 := Aside0.mk hq3; clear ho hb hg hat hq3 hc2)
   | go_in)
  go_ret
  have hadd : addPt l ⟨n1, n2⟩ = l.set j.toNat (⟨(rd_T27 l j).f0, (rd_T27 l j).f1, F ++ [⟨n1, n2⟩], (rd_T27 l j).f3⟩ : S27) := by
   unfold addPt; rw [← HJV.out, HF.out]
  have hnew : ((w27.setCell ⟨gr, j.toNat * 4 + 2, none⟩ (.slice A3 (F.length + 1) c3)).alloc (.cells #[.func (.func 74) #[] #[]] 78)).heap[w27.heap.size]? = some (.cells #[.func (.func 74) #[] #[]] 78 (0, 0)) := by
   have q := World.alloc_heap_new (w27.setCell ⟨gr, j.toNat * 4 + 2, none⟩ (.slice A3 (F.length + 1) c3)) (.cells #[.func (.func 74) #[] #[]] 78); rwa [show (w27.setCell ⟨gr, j.toNat * 4 + 2, none⟩ (.slice A3 (F.length + 1) c3)).heap.size = w27.heap.size from by simp] at q
  have hS : Kd.S k27 27 (w27.setCell ⟨gr, j.toNat * 4 + 2, none⟩ (.slice A3 (F.length + 1) c3)) w.heap.size (fun _ => True) (.slice (some ⟨gr, 0, none⟩) l.length c0) (addPt l ⟨n1, n2⟩) := by
   rw [hadd]; have q := HQ3.out; rw [List.length_append] at q; exact q
  exact .inr ⟨_, _, rfl, rfl, hnew, blk_alloc (blk_far HBX8.out GNE.out _) _, Kd.S_alloc hS _, below_alloc (below_set HB8.out GRE.out) _⟩
end
section
theorem cask_outside.nonec (k : Nat) (g : Nat) (v : Value) (l : List S27) (ws : List ByteArray) (A1 : Option Addr) (c1 : Nat) (w we : World) (hg : w.heap.size ≤ g) (hb : we.heap[g]? = some (.cells #[v] 71 (0, 0)))
  (ho : Kd.S k27 27 we w.heap.size (fun _ => True) v l) (hl2 : l.length < 4294967296) (hB : Below w.heap.size w we) (hr1 : Kd.C Kd.string we A1 ws.length ws) (hc1 : ws.length ≤ c1) (h : cask_outside.f k ws = some none) :
  Calls Tryd.prog 63 #[.pointer (some ⟨g, 0, none⟩), .slice A1 ws.length c1] we fun e w' => e = .returned (.pointer none) ∧ Below w.heap.size w w' :=
 (cask_outside.calls k g v l ws A1 c1 none w we hg hb ho hl2 hB hr1 hc1 h).mono fun e w' hh => hh.elim (fun z => z.2) (fun ⟨_, _, _, z, _⟩ => nomatch z)
theorem cask_outside.somec (k : Nat) (g : Nat) (v : Value) (l : List S27) (ws : List ByteArray) (A1 : Option Addr) (c1 : Nat) (q : S27) (w we : World) (hg : w.heap.size ≤ g) (hb : we.heap[g]? = some (.cells #[v] 71 (0, 0)))
  (ho : Kd.S k27 27 we w.heap.size (fun _ => True) v l) (hl2 : l.length < 4294967296) (hB : Below w.heap.size w we) (hr1 : Kd.C Kd.string we A1 ws.length ws) (hc1 : ws.length ≤ c1) (h : cask_outside.f k ws = some (some q)) :
  Calls Tryd.prog 63 #[.pointer (some ⟨g, 0, none⟩), .slice A1 ws.length c1] we fun e w' => ∃ s v', e = .returned (.pointer (some ⟨s, 0, none⟩)) ∧ w'.heap[s]? = some (.cells #[.func (.func 74) #[] #[]] 78 (0, 0)) ∧ w'.heap[g]? = some (.cells #[v'] 71 (0, 0)) ∧ Kd.S k27 27 w' w.heap.size (fun _ => True) v' (l ++ [q]) ∧ Below w.heap.size w w' :=
 (cask_outside.calls k g v l ws A1 c1 (some q) w we hg hb ho hl2 hB hr1 hc1 h).mono fun e w' hh => hh.elim (fun z => nomatch z.1) (fun ⟨p, s, v', z, r⟩ => ⟨s, v', by cases z; exact r⟩)
theorem cask_inside.nonec (k : Nat) (g : Nat) (v : Value) (l : List S27) (ws : List ByteArray) (A1 : Option Addr) (c1 : Nat) (w we : World) (hg : w.heap.size ≤ g) (hb : we.heap[g]? = some (.cells #[v] 71 (0, 0)))
  (ho : Kd.S k27 27 we w.heap.size (fun _ => True) v l) (hl : 0 < l.length) (hl2 : l.length < 4294967296) (hp : (rd_T27 l ((l.length : Int) - 1)).f2.length < 4294967296) (hB : Below w.heap.size w we) (hr1 : Kd.C Kd.string we A1 ws.length ws) (hc1 : ws.length ≤ c1) (h : cask_inside.f k ws = some none) :
  Calls Tryd.prog 74 #[.pointer (some ⟨g, 0, none⟩), .slice A1 ws.length c1] we fun e w' => e = .returned (.pointer none) ∧ Below w.heap.size w w' :=
 (cask_inside.calls k g v l ws A1 c1 none w we hg hb ho hl hl2 hp hB hr1 hc1 h).mono fun e w' hh => hh.elim (fun z => z.2) (fun ⟨_, _, z, _⟩ => nomatch z)
theorem cask_inside.somec (k : Nat) (g : Nat) (v : Value) (l : List S27) (ws : List ByteArray) (A1 : Option Addr) (c1 : Nat) (q : S46) (w we : World) (hg : w.heap.size ≤ g) (hb : we.heap[g]? = some (.cells #[v] 71 (0, 0)))
  (ho : Kd.S k27 27 we w.heap.size (fun _ => True) v l) (hl : 0 < l.length) (hl2 : l.length < 4294967296) (hp : (rd_T27 l ((l.length : Int) - 1)).f2.length < 4294967296) (hB : Below w.heap.size w we) (hr1 : Kd.C Kd.string we A1 ws.length ws) (hc1 : ws.length ≤ c1) (h : cask_inside.f k ws = some (some q)) :
  Calls Tryd.prog 74 #[.pointer (some ⟨g, 0, none⟩), .slice A1 ws.length c1] we fun e w' => ∃ s v', e = .returned (.pointer (some ⟨s, 0, none⟩)) ∧ w'.heap[s]? = some (.cells #[.func (.func 74) #[] #[]] 78 (0, 0)) ∧ w'.heap[g]? = some (.cells #[v'] 71 (0, 0)) ∧ Kd.S k27 27 w' w.heap.size (fun _ => True) v' (addPt l q) ∧ Below w.heap.size w w' :=
 (cask_inside.calls k g v l ws A1 c1 (some q) w we hg hb ho hl hl2 hp hB hr1 hc1 h).mono fun e w' hh => hh.elim (fun z => nomatch z.1) (fun ⟨p, s, z, r⟩ => ⟨s, v, by cases z; exact r⟩)
theorem cask_outside_made (w : World) : Calls Tryd.prog 46 #[] w fun e w' => e = .returned (.pointer (some ⟨w.heap.size, 0, none⟩)) ∧ w' = w.alloc (.cells #[.func (.func 63) #[] #[]] 78) := by
 go_enter Tryd.func46, Tryd.ntmps46
 go_wp2
 go_ret
 exact ⟨rfl, rfl⟩
/-- The rest of a text, read from a state. -/
def cask_Parse.go : Nat → ByteArray → Int → Bool → List S27 → Option (List S27 × Int × Int)
 | 0, _, _, _, _ => none
 | k + 1, x, n, o, acc => if x.toList = ([] : List UInt8) then (if o = true then some ([], n, 3) else (cask_List.f k acc).bind fun e => if e = 0 then some (acc, 0, 0) else some ([], 0, e))
  else (strings_Cut.f x ⟨#[10]⟩).bind fun c => if c.2.2 = true then (if o = true ∧ c.1.toList = ([101, 110, 100] : List UInt8) then cask_Parse.go k c.2.1 (wrap64 (n + 1)) false acc
   else (strings_Split.f c.1 ⟨#[32]⟩).bind fun ws => if o = true then (if 0 < acc.length ∧ acc.length < 4294967296 ∧ (rd_T27 acc ((acc.length : Int) - 1)).f2.length < 4294967296 then (cask_inside.f k ws).bind fun p => match p with
     | none => some ([], n, 3)
     | some q => cask_Parse.go k c.2.1 (wrap64 (n + 1)) true (addPt acc q) else none)
    else (if acc.length < 4294967296 then (cask_outside.f k ws).bind fun p => match p with
     | none => some ([], n, 3)
     | some q => cask_Parse.go k c.2.1 (wrap64 (n + 1)) true (acc ++ [q]) else none))
   else some ([], n, 3)
def cask_Parse.f (k : Nat) (a0 : ByteArray) : Option (List S27 × Int × Int) := if (a0.size : Int) > 65536 then some ([], 0, 8) else cask_Parse.go k a0 1 false []
set_option maxHeartbeats 8000000 in
set_option maxRecDepth 100000 in
theorem cask_Parse.calls (k : Nat) (a0 : ByteArray) (r1 : List (S27)) (r2 : Int) (r3 : Int) (w : World) (hG : GI w) (h : cask_Parse.f k a0 = some (r1, r2, r3)) :
  Calls Tryd.prog 24 #[.string a0] w fun e w' => ∃ v0_ : Value, e = .returned (.tuple #[v0_, .int .i64 r2, .int .i64 r3]) ∧ Kd.S k27 27 w' w.heap.size (fun _ => True) v0_ r1 ∧ Below w.heap.size w w' := by
 have hu71 := Tryd.underlying71; have hu78 := Tryd.underlying78; have HG := Aside0.mk hG; clear hG; unfold cask_Parse.f at h; by_cases c1 : (a0.size : Int) > 65536
 ·
  rw [if_pos c1] at h; obtain ⟨rfl, rfl, rfl⟩ : r1 = [] ∧ r2 = 0 ∧ r3 = 8 := by simpa using h.symm
  have c1b : decide ((a0.size : Int) > 65536) = true := decide_eq_true c1; have c1c : decide (65536 < (a0.size : Int)) = true := decide_eq_true c1; have c1d : decide (65536 < a0.size) = true := decide_eq_true (by omega); clear c1 h; go_enter Tryd.func24, Tryd.ntmps24
  go_wp2; go_ret3
  exact ⟨_, rfl, Kd.S_nil _ _ _ _ _, Below.refl _ _⟩
 rw [if_neg c1] at h; have c1b : decide ((a0.size : Int) > 65536) = false := decide_eq_false c1; have c1c : decide (65536 < (a0.size : Int)) = false := decide_eq_false c1; have c1d : decide (65536 < a0.size) = false := decide_eq_false (by omega); have H' := Aside0.mk h; clear h c1; go_enter Tryd.func24, Tryd.ntmps24
 go_wp2_with (go_at_call 46; with_reducible refine (cask_outside_made _).mono ?_; rintro e w1 ⟨rfl, rfl⟩)
 have HNW : Aside0 ((((w.alloc (.cells #[.slice none 0 0] 71)).alloc (.cells #[.func (.func 63) #[] #[]] 78))).heap[w.heap.size + 1]? = some (.cells #[.func (.func 63) #[] #[]] 78 (0, 0))) := ⟨by
  have q := World.alloc_heap_new (w.alloc (.cells #[.slice none 0 0] 71)) (.cells #[.func (.func 63) #[] #[]] 78); rwa [World.size_alloc] at q⟩
 have HBX : Aside0 ((((w.alloc (.cells #[.slice none 0 0] 71)).alloc (.cells #[.func (.func 63) #[] #[]] 78))).heap[w.heap.size]? = some (.cells #[.slice none 0 0] 71 (0, 0))) := ⟨blk_alloc (World.alloc_heap_new _ _) _⟩; have HB : Aside0 (Below w.heap.size w ((w.alloc (.cells #[.slice none 0 0] 71)).alloc (.cells #[.func (.func 63) #[] #[]] 78))) := ⟨below_alloc (below_alloc (Below.refl _ _) _) _⟩; generalize (w.alloc (.cells #[.slice none 0 0] 71)).alloc (.cells #[.func (.func 63) #[] #[]] 78) = W1 at HNW HBX HB ⊢; go_loopg [0, 6, 7, 8] k (fun kq v0 v6 v7 v8 w' => ∃ (x : ByteArray) (o : Bool) (n : Int) (acc : List S27) (nw : Nat) (v : Value), v0 = .string x ∧ v6 = .pointer (some ⟨nw, 0, none⟩) ∧ v7 = .bool o ∧ v8 = .int .i64 n ∧ Aside0 (cask_Parse.go kq x n o acc = some (r1, r2, r3)) ∧ Aside0 (kq ≤ k) ∧ Aside0 (w'.heap[nw]? = some (.cells #[.func (.func (if o = true then 74 else 63)) #[] #[]] 78 (0, 0))) ∧ Aside0 (w'.heap[w.heap.size]? = some (.cells #[v] 71 (0, 0))) ∧ Aside0 (Kd.S k27 27 w' w.heap.size (fun _ => True) v acc) ∧ Aside0 (Below w.heap.size w w'))
 case atStart => exact ⟨a0, false, 1, [], w.heap.size + 1, _, rfl, by first | rfl | simp, rfl, rfl, H', ⟨Nat.le_refl _⟩, HNW, HBX, ⟨Kd.S_nil _ _ _ _ _⟩, HB⟩
 case round =>
  clear H' HNW HBX HB c1b c1c c1d; obtain ⟨x, o, n, acc, nw, v, rfl, rfl, rfl, rfl, HA, HK1, HNW, HBX, HO, HB⟩ := hrel
  cases gk with
  | zero => exact absurd HA.out (by simp [cask_Parse.go])
  | succ k1 =>
   have H := HA.out; clear HA; rw [cask_Parse.go] at H; by_cases cx : x.toList = ([] : List UInt8)
   ·
    rw [if_pos cx] at H; have d0 : (x.toList == ([] : List UInt8)) = true := beq_iff_eq.mpr cx; have d1 : (x.toList != ([] : List UInt8)) = false := bne_eq_false_iff_eq.mpr cx; have d2 : x.toList.isEmpty = true := by rw [cx]; rfl
    clear cx
    cases o with
    | true =>
     rw [if_pos rfl] at H; obtain ⟨rfl, rfl, rfl⟩ : r1 = [] ∧ r2 = n ∧ r3 = 3 := by simpa using H.symm
     clear H; go_wp2; go_ret3
     exact ⟨_, rfl, Kd.S_nil _ _ _ _ _, HB.out⟩
    | false =>
     rw [if_neg (by decide)] at H; obtain ⟨e, he, H⟩ := Option.bind_eq_some_iff.mp H; have HE := Aside0.mk he; clear he; obtain ⟨A0, c0, rfl⟩ := Kd.S_slice HO.out; have cv : wr.cell? ⟨w.heap.size, 0, none⟩ = some (.slice A0 acc.length c0) := (blk_cell HBX.out 0).trans rfl; by_cases z : e = 0
     ·
      subst z; rw [if_pos rfl] at H; obtain ⟨rfl, rfl, rfl⟩ : acc = r1 ∧ r2 = 0 ∧ r3 = 0 := by simpa [eq_comm] using H
      clear H; go_wp2_with (go_at_call 16; with_reducible refine (cask_List.calls k1 A0 c0 _ 0 _ (Kd.S_reads' HO.out).2.2 (Kd.S_reads' HO.out).2.1 HE.out).mono ?_; rintro e w9 ⟨rfl, hb9⟩; have HB9 := Aside0.mk (below_step HB.out hb9); have HO9 := Aside0.mk (Kd.S_below HO.out hb9); replace cv := (hb9.cell (World.block_lt_of_cell? _ _ cv)).trans cv; clear hb9)
      go_ret3
      exact ⟨_, rfl, HO9.out, HB9.out⟩
     ·
      rw [if_neg z] at H; obtain ⟨rfl, rfl, rfl⟩ : r1 = [] ∧ r2 = 0 ∧ r3 = e := by simpa using H.symm
      have zb : (r3 == 0) = false := beq_eq_false_iff_ne.mpr z; have zc : (r3 != 0) = true := bne_iff_ne.mpr z; clear H z; go_wp2_with (go_at_call 16; with_reducible refine (cask_List.calls k1 A0 c0 _ r3 _ (Kd.S_reads' HO.out).2.2 (Kd.S_reads' HO.out).2.1 HE.out).mono ?_; rintro e w9 ⟨rfl, hb9⟩; have HB9 := Aside0.mk (below_step HB.out hb9); clear hb9)
      go_ret3
      exact ⟨_, rfl, Kd.S_nil _ _ _ _ _, HB9.out⟩
   rw [if_neg cx] at H; have d0 : (x.toList == ([] : List UInt8)) = false := beq_eq_false_iff_ne.mpr cx; have d1 : (x.toList != ([] : List UInt8)) = true := bne_iff_ne.mpr cx; have d2 : x.toList.isEmpty = false := by cases hh : x.toList with | nil => exact absurd hh cx | cons _ _ => rfl
   clear cx; obtain ⟨⟨s, rest, en⟩, hcut, H⟩ := Option.bind_eq_some_iff.mp H; have HCUT := Aside0.mk hcut; clear hcut; dsimp only at H
   cases en with
   | false =>
    rw [if_neg (by decide)] at H; obtain ⟨rfl, rfl, rfl⟩ : r1 = [] ∧ r2 = n ∧ r3 = 3 := by simpa using H.symm
    clear H; go_wp2_with (go_at_call 47; with_reducible refine (strings_Cut.calls x _ s rest false _ (GI.below HG.out HB.out) HCUT.out).mono ?_; rintro e w2 ⟨rfl, hb2⟩; have HB2 := Aside0.mk (below_step HB.out hb2); clear hb2)
    go_ret3
    exact ⟨_, rfl, Kd.S_nil _ _ _ _ _, HB2.out⟩
   | true =>
    rw [if_pos rfl] at H; by_cases ce : o = true ∧ s.toList = ([101, 110, 100] : List UInt8)
    ·
     rw [if_pos ce] at H; obtain ⟨co, ce⟩ := ce; have e0 : (s.toList == ([101, 110, 100] : List UInt8)) = true := beq_iff_eq.mpr ce; have H' := Aside0.mk H; clear ce H; subst co
     go_wp2_with (first
      | (go_at_call 47; with_reducible refine (strings_Cut.calls x _ s rest true _ (GI.below HG.out HB.out) HCUT.out).mono ?_; rintro e w2 ⟨rfl, hb2⟩; have HB2 := Aside0.mk (below_step HB.out hb2); have HO2 := Aside0.mk (Kd.S_below HO.out hb2); have HBX2 := Aside0.mk (blk_below (g := w.heap.size) (o := .cells #[v] 71 (0, 0)) HBX.out hb2); clear hb2)
      | (go_at_call 46; with_reducible refine (cask_outside_made _).mono ?_; rintro e w4 ⟨rfl, rfl⟩))
     go_roundg k1
     case measure => have := HK1.out; omega
     case rel => exact ⟨rest, false, _, acc, _, v, rfl, rfl, rfl, rfl, H', ⟨by have := HK1.out; omega⟩, ⟨World.alloc_heap_new _ _⟩, ⟨blk_alloc HBX2.out _⟩, ⟨Kd.S_alloc HO2.out _⟩, ⟨below_alloc HB2.out _⟩⟩
    ·
     rw [if_neg ce] at H; obtain ⟨ws, hsp, H⟩ := Option.bind_eq_some_iff.mp H; have HSP := Aside0.mk hsp; clear hsp
     cases o with
     | false =>
      rw [if_neg (by decide)] at H; by_cases hlen : acc.length < 4294967296
      case neg => rw [if_neg hlen] at H; cases H
      rw [if_pos hlen] at H; have HLEN := Aside0.mk hlen; clear hlen ce; obtain ⟨p, hp, H⟩ := Option.bind_eq_some_iff.mp H; have HP := Aside0.mk hp; clear hp; have HNW0 : Aside0 (wr.heap[nw]? = some (.cells #[.func (.func 63) #[] #[]] 78 (0, 0))) := ⟨HNW.out⟩; clear HNW
      cases p with
      | none =>
       obtain ⟨rfl, rfl, rfl⟩ : r1 = [] ∧ r2 = n ∧ r3 = 3 := by simpa using H.symm
       clear H; go_upto_region 13 with (go_at_call 47; with_reducible refine (strings_Cut.calls x _ s rest true _ (GI.below HG.out HB.out) HCUT.out).mono ?_; rintro e w2 ⟨rfl, hb2⟩; have HNW := Aside0.mk (blk_below (g := nw) (o := .cells #[.func (.func 63) #[] #[]] 78 (0, 0)) HNW0.out hb2); have HB2 := Aside0.mk (below_step HB.out hb2); have HO2 := Aside0.mk (Kd.S_below HO.out hb2); have HBX2 := Aside0.mk (blk_below (g := w.heap.size) (o := .cells #[v] 71 (0, 0)) HBX.out hb2); clear hb2)
       refine start_ (n := 9) (S := fun w' => w'.cell? ⟨nw, 0, none⟩ = some (.func (.func 63) #[] #[])) (ds := [7]) #[false, false, false, false, false, false, false, false, false] (by kernel_rfl) rfl rfl ((blk_cell HNW.out 0).trans rfl) (fun hHeld => ?_); generalize hq_ : World.drew _ = W3 at hHeld ⊢; have HB3 : Aside0 (Below w.heap.size w W3) := ⟨by rw [← hq_]; exact below_drew1 (by repeat (first | exact HB2.out | apply pw_below_drewN | apply below_drew1))⟩; have HO3 : Aside0 (Kd.S k27 27 W3 w.heap.size (fun _ => True) v acc) := ⟨by rw [← hq_]; exact Kd.S_drew (by repeat (first | exact HO2.out | apply Kd.S_drewN | apply Kd.S_drew))⟩; have HBX3 : Aside0 (W3.heap[w.heap.size]? = some (.cells #[v] 71 (0, 0))) := ⟨by rw [← hq_]; exact HBX2.out⟩; clear hq_
       refine pure_ (i := 0) (N := some 39) (v := ?_) (a' := ?_) #[true, false, false, false, false, false, false, false, false] rfl rfl (by kernel_rfl) (fun _ _ _ h => h) (Or.inl ⟨by rfl, ?_⟩) ?_ ?_; rotate_left
       · intro w'; go_simp; with_reducible rfl
       rotate_left
       · simp only [Act.put, sIA, sC0, sCS, i64_w, i32_w]; rfl
       refine pure_ (i := 1) (N := some 40) (v := ?_) (a' := ?_) #[true, true, false, false, false, false, false, false, false] rfl rfl (by kernel_rfl) (fun _ _ _ h => h) (Or.inl ⟨by rfl, ?_⟩) ?_ ?_; rotate_left
       · intro w'; go_simp; with_reducible rfl
       rotate_left
       · simp only [Act.put, sIA, sC0, sCS, i64_w, i32_w]; rfl
       refine pure_ (i := 2) (N := some 41) (v := ?_) (a' := ?_) #[true, true, true, false, false, false, false, false, false] rfl rfl (by kernel_rfl) (fun _ _ _ h => h) (Or.inl ⟨by rfl, ?_⟩) ?_ ?_; rotate_left
       · intro w'; go_simp; with_reducible rfl
       rotate_left
       · simp only [Act.put, sIA, sC0, sCS, i64_w, i32_w]; rfl
       refine pure_ (i := 4) (N := some 43) (v := ?_) (a' := ?_) #[true, true, true, false, true, false, false, false, false] rfl rfl (by kernel_rfl) (fun _ _ _ h => h) (Or.inl ⟨by rfl, ?_⟩) ?_ ?_; rotate_left
       · intro w'; go_simp; with_reducible rfl
       rotate_left
       · simp only [Act.put, sIA, sC0, sCS, i64_w, i32_w]; rfl
       refine pure_ (i := 5) (N := some 44) (v := ?_) (a' := ?_) #[true, true, true, false, true, true, false, false, false] rfl rfl (by kernel_rfl) (fun _ _ _ h => h) (Or.inl ⟨by rfl, ?_⟩) ?_ ?_; rotate_left
       · intro w'; go_simp; with_reducible rfl
       rotate_left
       · simp only [Act.put, sIA, sC0, sCS, i64_w, i32_w]; rfl
       refine take_ (i := 3) (N := some 42) (v := ?_) (a' := ?_) #[true, true, true, true, true, true, false, false, false] rfl rfl (by kernel_rfl) (fun _ _ _ h => h) (Or.inl ⟨by rfl, ?_⟩) hHeld ?_ ?_; rotate_left
       · intro w' s0; go_simp; with_reducible rfl
       rotate_left
       · simp only [Act.put, sIA, sC0, sCS, i64_w, i32_w]; rfl
       refine one_ (i := 6) (N := some 45) #[true, true, true, true, true, true, true, false, false] rfl rfl (by kernel_rfl) (by decide) (fun K hK => ?_); refine goes_ Tryd.func48 (by kernel_rfl) rfl #[.string s, .string ⟨#[32]⟩] (by rfl) rfl rfl (by first | rfl | (simp only [List.map_toArray, List.map_cons, List.map_nil]; done) | (simp only [List.map_toArray, List.map_cons, List.map_nil]; rfl)) ?_; with_reducible refine (strings_Split.calls s _ ws _ (GI.below HG.out HB3.out) HSP.out).mono ?_
       rintro e w5 ⟨v5, rfl, hr5, hb5⟩; refine ⟨_, rfl, ?_⟩; obtain ⟨A5, c5, eo5⟩ := Kd.R_slice hr5; subst eo5; have HR5 := Aside0.mk hr5; have HBX5 := Aside0.mk (blk_below (g := w.heap.size) (o := .cells #[v] 71 (0, 0)) HBX3.out hb5); have HO5 := Aside0.mk (Kd.S_below HO3.out hb5); have HB5 := Aside0.mk (below_step HB3.out hb5); clear hr5; refine hK.out _ _ ((hb5.cell (World.block_lt_of_cell? _ _ hHeld)).trans hHeld) (fun hHeld => ?_); clear hK K; refine norm_ (a' := ?_) ?_ ?_; rotate_left
       ·
        show Act.put _ (some 45) _ = _
        simp only [Act.put, sIA, sC0, sCS, i64_w, i32_w]; rfl
       refine last_ (i := 7) (N := some 46) #[true, true, true, true, true, true, true, true, false] rfl rfl (by kernel_rfl) (by decide) (fun K hK => ?_); refine goesV_ Tryd.func63 (by kernel_rfl) rfl #[.pointer (some ⟨w.heap.size, 0, none⟩), .slice A5 ws.length c5] (by rfl) rfl rfl (by first | rfl | (simp only [List.map_toArray, List.map_cons, List.map_nil]; done) | (simp only [List.map_toArray, List.map_cons, List.map_nil]; rfl)) (by rfl) ?_; with_reducible refine (cask_outside.nonec k1 w.heap.size v acc ws A5 c5 w w5 (Nat.le_refl _) HBX5.out HO5.out HLEN.out HB5.out (Kd.R_reads' HR5.out).2.2 (Kd.R_reads' HR5.out).2.1 HP.out).mono ?_
       rintro e w7 ⟨rfl, hb7⟩; refine ⟨_, rfl, ?_⟩; refine hK.out _ _ ?_; clear hK K; refine norm_ (a' := ?_) ?_ ?_; rotate_left
       ·
        show Act.put _ (some 46) _ = _
        simp only [Act.put, sIA, sC0, sCS, i64_w, i32_w]; rfl
       refine pure_ (i := 8) (N := some 6) (v := ?_) (a' := ?_) #[true, true, true, true, true, true, true, true, true] rfl rfl (by kernel_rfl) (fun _ _ _ h => h) (Or.inl ⟨by rfl, ?_⟩) ?_ ?_; rotate_left
       · intro w'; go_simp; with_reducible rfl
       rotate_left
       · simp only [Act.put, sIA, sC0, sCS, i64_w, i32_w]; rfl
       refine done_ (by kernel_rfl) ?_; go_wp2; go_ret3
       exact ⟨_, rfl, Kd.S_nil _ _ _ _ _, hb7⟩
      | some q =>
       have H' := Aside0.mk H; clear H; go_upto_region 13 with (go_at_call 47; with_reducible refine (strings_Cut.calls x _ s rest true _ (GI.below HG.out HB.out) HCUT.out).mono ?_; rintro e w2 ⟨rfl, hb2⟩; have HNW := Aside0.mk (blk_below (g := nw) (o := .cells #[.func (.func 63) #[] #[]] 78 (0, 0)) HNW0.out hb2); have HB2 := Aside0.mk (below_step HB.out hb2); have HO2 := Aside0.mk (Kd.S_below HO.out hb2); have HBX2 := Aside0.mk (blk_below (g := w.heap.size) (o := .cells #[v] 71 (0, 0)) HBX.out hb2); clear hb2)
       refine start_ (n := 9) (S := fun w' => w'.cell? ⟨nw, 0, none⟩ = some (.func (.func 63) #[] #[])) (ds := [7]) #[false, false, false, false, false, false, false, false, false] (by kernel_rfl) rfl rfl ((blk_cell HNW.out 0).trans rfl) (fun hHeld => ?_); generalize hq_ : World.drew _ = W3 at hHeld ⊢; have HB3 : Aside0 (Below w.heap.size w W3) := ⟨by rw [← hq_]; exact below_drew1 (by repeat (first | exact HB2.out | apply pw_below_drewN | apply below_drew1))⟩; have HO3 : Aside0 (Kd.S k27 27 W3 w.heap.size (fun _ => True) v acc) := ⟨by rw [← hq_]; exact Kd.S_drew (by repeat (first | exact HO2.out | apply Kd.S_drewN | apply Kd.S_drew))⟩; have HBX3 : Aside0 (W3.heap[w.heap.size]? = some (.cells #[v] 71 (0, 0))) := ⟨by rw [← hq_]; exact HBX2.out⟩; clear hq_
       refine pure_ (i := 0) (N := some 39) (v := ?_) (a' := ?_) #[true, false, false, false, false, false, false, false, false] rfl rfl (by kernel_rfl) (fun _ _ _ h => h) (Or.inl ⟨by rfl, ?_⟩) ?_ ?_; rotate_left
       · intro w'; go_simp; with_reducible rfl
       rotate_left
       · simp only [Act.put, sIA, sC0, sCS, i64_w, i32_w]; rfl
       refine pure_ (i := 1) (N := some 40) (v := ?_) (a' := ?_) #[true, true, false, false, false, false, false, false, false] rfl rfl (by kernel_rfl) (fun _ _ _ h => h) (Or.inl ⟨by rfl, ?_⟩) ?_ ?_; rotate_left
       · intro w'; go_simp; with_reducible rfl
       rotate_left
       · simp only [Act.put, sIA, sC0, sCS, i64_w, i32_w]; rfl
       refine pure_ (i := 2) (N := some 41) (v := ?_) (a' := ?_) #[true, true, true, false, false, false, false, false, false] rfl rfl (by kernel_rfl) (fun _ _ _ h => h) (Or.inl ⟨by rfl, ?_⟩) ?_ ?_; rotate_left
       · intro w'; go_simp; with_reducible rfl
       rotate_left
       · simp only [Act.put, sIA, sC0, sCS, i64_w, i32_w]; rfl
       refine pure_ (i := 4) (N := some 43) (v := ?_) (a' := ?_) #[true, true, true, false, true, false, false, false, false] rfl rfl (by kernel_rfl) (fun _ _ _ h => h) (Or.inl ⟨by rfl, ?_⟩) ?_ ?_; rotate_left
       · intro w'; go_simp; with_reducible rfl
       rotate_left
       · simp only [Act.put, sIA, sC0, sCS, i64_w, i32_w]; rfl
       refine pure_ (i := 5) (N := some 44) (v := ?_) (a' := ?_) #[true, true, true, false, true, true, false, false, false] rfl rfl (by kernel_rfl) (fun _ _ _ h => h) (Or.inl ⟨by rfl, ?_⟩) ?_ ?_; rotate_left
       · intro w'; go_simp; with_reducible rfl
       rotate_left
       · simp only [Act.put, sIA, sC0, sCS, i64_w, i32_w]; rfl
       refine take_ (i := 3) (N := some 42) (v := ?_) (a' := ?_) #[true, true, true, true, true, true, false, false, false] rfl rfl (by kernel_rfl) (fun _ _ _ h => h) (Or.inl ⟨by rfl, ?_⟩) hHeld ?_ ?_; rotate_left
       · intro w' s0; go_simp; with_reducible rfl
       rotate_left
       · simp only [Act.put, sIA, sC0, sCS, i64_w, i32_w]; rfl
       refine one_ (i := 6) (N := some 45) #[true, true, true, true, true, true, true, false, false] rfl rfl (by kernel_rfl) (by decide) (fun K hK => ?_); refine goes_ Tryd.func48 (by kernel_rfl) rfl #[.string s, .string ⟨#[32]⟩] (by rfl) rfl rfl (by first | rfl | (simp only [List.map_toArray, List.map_cons, List.map_nil]; done) | (simp only [List.map_toArray, List.map_cons, List.map_nil]; rfl)) ?_; with_reducible refine (strings_Split.calls s _ ws _ (GI.below HG.out HB3.out) HSP.out).mono ?_
       rintro e w5 ⟨v5, rfl, hr5, hb5⟩; refine ⟨_, rfl, ?_⟩; obtain ⟨A5, c5, eo5⟩ := Kd.R_slice hr5; subst eo5; have HR5 := Aside0.mk hr5; have HBX5 := Aside0.mk (blk_below (g := w.heap.size) (o := .cells #[v] 71 (0, 0)) HBX3.out hb5); have HO5 := Aside0.mk (Kd.S_below HO3.out hb5); have HB5 := Aside0.mk (below_step HB3.out hb5); clear hr5; refine hK.out _ _ ((hb5.cell (World.block_lt_of_cell? _ _ hHeld)).trans hHeld) (fun hHeld => ?_); clear hK K; refine norm_ (a' := ?_) ?_ ?_; rotate_left
       ·
        show Act.put _ (some 45) _ = _
        simp only [Act.put, sIA, sC0, sCS, i64_w, i32_w]; rfl
       refine last_ (i := 7) (N := some 46) #[true, true, true, true, true, true, true, true, false] rfl rfl (by kernel_rfl) (by decide) (fun K hK => ?_); refine goesV_ Tryd.func63 (by kernel_rfl) rfl #[.pointer (some ⟨w.heap.size, 0, none⟩), .slice A5 ws.length c5] (by rfl) rfl rfl (by first | rfl | (simp only [List.map_toArray, List.map_cons, List.map_nil]; done) | (simp only [List.map_toArray, List.map_cons, List.map_nil]; rfl)) (by rfl) ?_; with_reducible refine (cask_outside.somec k1 w.heap.size v acc ws A5 c5 q w w5 (Nat.le_refl _) HBX5.out HO5.out HLEN.out HB5.out (Kd.R_reads' HR5.out).2.2 (Kd.R_reads' HR5.out).2.1 HP.out).mono ?_
       rintro e w7 ⟨nw7, v7, rfl, hn7, hx7, ho7, hb7⟩; refine ⟨_, rfl, ?_⟩; refine hK.out _ _ ?_; clear hK K; refine norm_ (a' := ?_) ?_ ?_; rotate_left
       ·
        show Act.put _ (some 46) _ = _
        simp only [Act.put, sIA, sC0, sCS, i64_w, i32_w]; rfl
       refine pure_ (i := 8) (N := some 6) (v := ?_) (a' := ?_) #[true, true, true, true, true, true, true, true, true] rfl rfl (by kernel_rfl) (fun _ _ _ h => h) (Or.inl ⟨by rfl, ?_⟩) ?_ ?_; rotate_left
       · intro w'; go_simp; with_reducible rfl
       rotate_left
       · simp only [Act.put, sIA, sC0, sCS, i64_w, i32_w]; rfl
       refine done_ (by kernel_rfl) ?_; have HN7 := Aside0.mk hn7; have HX7 := Aside0.mk hx7; have HO7 := Aside0.mk ho7; have HB7 := Aside0.mk hb7; clear hn7 hx7 ho7 hb7 hb5; go_wp2; go_roundg k1
       case measure => have := HK1.out; omega
       case rel => exact ⟨rest, true, _, acc ++ [q], nw7, v7, rfl, rfl, rfl, rfl, H', ⟨by have := HK1.out; omega⟩, HN7, HX7, HO7, HB7⟩
     | true =>
      rw [if_pos rfl] at H; have cs : ¬ s.toList = ([101, 110, 100] : List UInt8) := fun z => ce ⟨rfl, z⟩
      have e0 : (s.toList == ([101, 110, 100] : List UInt8)) = false := beq_eq_false_iff_ne.mpr cs; by_cases hlen : 0 < acc.length ∧ acc.length < 4294967296 ∧ (rd_T27 acc ((acc.length : Int) - 1)).f2.length < 4294967296
      case neg => rw [if_neg hlen] at H; cases H
      rw [if_pos hlen] at H; have HLEN := Aside0.mk hlen; clear hlen ce cs; obtain ⟨p, hp, H⟩ := Option.bind_eq_some_iff.mp H; have HP := Aside0.mk hp; clear hp; have HNW0 : Aside0 (wr.heap[nw]? = some (.cells #[.func (.func 74) #[] #[]] 78 (0, 0))) := ⟨HNW.out⟩; clear HNW
      cases p with
      | none =>
       obtain ⟨rfl, rfl, rfl⟩ : r1 = [] ∧ r2 = n ∧ r3 = 3 := by simpa using H.symm
       clear H; go_upto_region 13 with (go_at_call 47; with_reducible refine (strings_Cut.calls x _ s rest true _ (GI.below HG.out HB.out) HCUT.out).mono ?_; rintro e w2 ⟨rfl, hb2⟩; have HNW := Aside0.mk (blk_below (g := nw) (o := .cells #[.func (.func 74) #[] #[]] 78 (0, 0)) HNW0.out hb2); have HB2 := Aside0.mk (below_step HB.out hb2); have HO2 := Aside0.mk (Kd.S_below HO.out hb2); have HBX2 := Aside0.mk (blk_below (g := w.heap.size) (o := .cells #[v] 71 (0, 0)) HBX.out hb2); clear hb2)
       refine start_ (n := 9) (S := fun w' => w'.cell? ⟨nw, 0, none⟩ = some (.func (.func 74) #[] #[])) (ds := [7]) #[false, false, false, false, false, false, false, false, false] (by kernel_rfl) rfl rfl ((blk_cell HNW.out 0).trans rfl) (fun hHeld => ?_); generalize hq_ : World.drew _ = W3 at hHeld ⊢; have HB3 : Aside0 (Below w.heap.size w W3) := ⟨by rw [← hq_]; exact below_drew1 (by repeat (first | exact HB2.out | apply pw_below_drewN | apply below_drew1))⟩; have HO3 : Aside0 (Kd.S k27 27 W3 w.heap.size (fun _ => True) v acc) := ⟨by rw [← hq_]; exact Kd.S_drew (by repeat (first | exact HO2.out | apply Kd.S_drewN | apply Kd.S_drew))⟩; have HBX3 : Aside0 (W3.heap[w.heap.size]? = some (.cells #[v] 71 (0, 0))) := ⟨by rw [← hq_]; exact HBX2.out⟩; clear hq_
       refine pure_ (i := 0) (N := some 39) (v := ?_) (a' := ?_) #[true, false, false, false, false, false, false, false, false] rfl rfl (by kernel_rfl) (fun _ _ _ h => h) (Or.inl ⟨by rfl, ?_⟩) ?_ ?_; rotate_left
       · intro w'; go_simp; with_reducible rfl
       rotate_left
       · simp only [Act.put, sIA, sC0, sCS, i64_w, i32_w]; rfl
       refine pure_ (i := 1) (N := some 40) (v := ?_) (a' := ?_) #[true, true, false, false, false, false, false, false, false] rfl rfl (by kernel_rfl) (fun _ _ _ h => h) (Or.inl ⟨by rfl, ?_⟩) ?_ ?_; rotate_left
       · intro w'; go_simp; with_reducible rfl
       rotate_left
       · simp only [Act.put, sIA, sC0, sCS, i64_w, i32_w]; rfl
       refine pure_ (i := 2) (N := some 41) (v := ?_) (a' := ?_) #[true, true, true, false, false, false, false, false, false] rfl rfl (by kernel_rfl) (fun _ _ _ h => h) (Or.inl ⟨by rfl, ?_⟩) ?_ ?_; rotate_left
       · intro w'; go_simp; with_reducible rfl
       rotate_left
       · simp only [Act.put, sIA, sC0, sCS, i64_w, i32_w]; rfl
       refine pure_ (i := 4) (N := some 43) (v := ?_) (a' := ?_) #[true, true, true, false, true, false, false, false, false] rfl rfl (by kernel_rfl) (fun _ _ _ h => h) (Or.inl ⟨by rfl, ?_⟩) ?_ ?_; rotate_left
       · intro w'; go_simp; with_reducible rfl
       rotate_left
       · simp only [Act.put, sIA, sC0, sCS, i64_w, i32_w]; rfl
       refine pure_ (i := 5) (N := some 44) (v := ?_) (a' := ?_) #[true, true, true, false, true, true, false, false, false] rfl rfl (by kernel_rfl) (fun _ _ _ h => h) (Or.inl ⟨by rfl, ?_⟩) ?_ ?_; rotate_left
       · intro w'; go_simp; with_reducible rfl
       rotate_left
       · simp only [Act.put, sIA, sC0, sCS, i64_w, i32_w]; rfl
       refine take_ (i := 3) (N := some 42) (v := ?_) (a' := ?_) #[true, true, true, true, true, true, false, false, false] rfl rfl (by kernel_rfl) (fun _ _ _ h => h) (Or.inl ⟨by rfl, ?_⟩) hHeld ?_ ?_; rotate_left
       · intro w' s0; go_simp; with_reducible rfl
       rotate_left
       · simp only [Act.put, sIA, sC0, sCS, i64_w, i32_w]; rfl
       refine one_ (i := 6) (N := some 45) #[true, true, true, true, true, true, true, false, false] rfl rfl (by kernel_rfl) (by decide) (fun K hK => ?_); refine goes_ Tryd.func48 (by kernel_rfl) rfl #[.string s, .string ⟨#[32]⟩] (by rfl) rfl rfl (by first | rfl | (simp only [List.map_toArray, List.map_cons, List.map_nil]; done) | (simp only [List.map_toArray, List.map_cons, List.map_nil]; rfl)) ?_; with_reducible refine (strings_Split.calls s _ ws _ (GI.below HG.out HB3.out) HSP.out).mono ?_
       rintro e w5 ⟨v5, rfl, hr5, hb5⟩; refine ⟨_, rfl, ?_⟩; obtain ⟨A5, c5, eo5⟩ := Kd.R_slice hr5; subst eo5; have HR5 := Aside0.mk hr5; have HBX5 := Aside0.mk (blk_below (g := w.heap.size) (o := .cells #[v] 71 (0, 0)) HBX3.out hb5); have HO5 := Aside0.mk (Kd.S_below HO3.out hb5); have HB5 := Aside0.mk (below_step HB3.out hb5); clear hr5; refine hK.out _ _ ((hb5.cell (World.block_lt_of_cell? _ _ hHeld)).trans hHeld) (fun hHeld => ?_); clear hK K; refine norm_ (a' := ?_) ?_ ?_; rotate_left
       ·
        show Act.put _ (some 45) _ = _
        simp only [Act.put, sIA, sC0, sCS, i64_w, i32_w]; rfl
       refine last_ (i := 7) (N := some 46) #[true, true, true, true, true, true, true, true, false] rfl rfl (by kernel_rfl) (by decide) (fun K hK => ?_); refine goesV_ Tryd.func74 (by kernel_rfl) rfl #[.pointer (some ⟨w.heap.size, 0, none⟩), .slice A5 ws.length c5] (by rfl) rfl rfl (by first | rfl | (simp only [List.map_toArray, List.map_cons, List.map_nil]; done) | (simp only [List.map_toArray, List.map_cons, List.map_nil]; rfl)) (by rfl) ?_; with_reducible refine (cask_inside.nonec k1 w.heap.size v acc ws A5 c5 w w5 (Nat.le_refl _) HBX5.out HO5.out HLEN.out.1 HLEN.out.2.1 HLEN.out.2.2 HB5.out (Kd.R_reads' HR5.out).2.2 (Kd.R_reads' HR5.out).2.1 HP.out).mono ?_
       rintro e w7 ⟨rfl, hb7⟩; refine ⟨_, rfl, ?_⟩; refine hK.out _ _ ?_; clear hK K; refine norm_ (a' := ?_) ?_ ?_; rotate_left
       ·
        show Act.put _ (some 46) _ = _
        simp only [Act.put, sIA, sC0, sCS, i64_w, i32_w]; rfl
       refine pure_ (i := 8) (N := some 6) (v := ?_) (a' := ?_) #[true, true, true, true, true, true, true, true, true] rfl rfl (by kernel_rfl) (fun _ _ _ h => h) (Or.inl ⟨by rfl, ?_⟩) ?_ ?_; rotate_left
       · intro w'; go_simp; with_reducible rfl
       rotate_left
       · simp only [Act.put, sIA, sC0, sCS, i64_w, i32_w]; rfl
       refine done_ (by kernel_rfl) ?_; go_wp2; go_ret3
       exact ⟨_, rfl, Kd.S_nil _ _ _ _ _, hb7⟩
      | some q =>
       have H' := Aside0.mk H; clear H; go_upto_region 13 with (go_at_call 47; with_reducible refine (strings_Cut.calls x _ s rest true _ (GI.below HG.out HB.out) HCUT.out).mono ?_; rintro e w2 ⟨rfl, hb2⟩; have HNW := Aside0.mk (blk_below (g := nw) (o := .cells #[.func (.func 74) #[] #[]] 78 (0, 0)) HNW0.out hb2); have HB2 := Aside0.mk (below_step HB.out hb2); have HO2 := Aside0.mk (Kd.S_below HO.out hb2); have HBX2 := Aside0.mk (blk_below (g := w.heap.size) (o := .cells #[v] 71 (0, 0)) HBX.out hb2); clear hb2)
       refine start_ (n := 9) (S := fun w' => w'.cell? ⟨nw, 0, none⟩ = some (.func (.func 74) #[] #[])) (ds := [7]) #[false, false, false, false, false, false, false, false, false] (by kernel_rfl) rfl rfl ((blk_cell HNW.out 0).trans rfl) (fun hHeld => ?_); generalize hq_ : World.drew _ = W3 at hHeld ⊢; have HB3 : Aside0 (Below w.heap.size w W3) := ⟨by rw [← hq_]; exact below_drew1 (by repeat (first | exact HB2.out | apply pw_below_drewN | apply below_drew1))⟩; have HO3 : Aside0 (Kd.S k27 27 W3 w.heap.size (fun _ => True) v acc) := ⟨by rw [← hq_]; exact Kd.S_drew (by repeat (first | exact HO2.out | apply Kd.S_drewN | apply Kd.S_drew))⟩; have HBX3 : Aside0 (W3.heap[w.heap.size]? = some (.cells #[v] 71 (0, 0))) := ⟨by rw [← hq_]; exact HBX2.out⟩; clear hq_
       refine pure_ (i := 0) (N := some 39) (v := ?_) (a' := ?_) #[true, false, false, false, false, false, false, false, false] rfl rfl (by kernel_rfl) (fun _ _ _ h => h) (Or.inl ⟨by rfl, ?_⟩) ?_ ?_; rotate_left
       · intro w'; go_simp; with_reducible rfl
       rotate_left
       · simp only [Act.put, sIA, sC0, sCS, i64_w, i32_w]; rfl
       refine pure_ (i := 1) (N := some 40) (v := ?_) (a' := ?_) #[true, true, false, false, false, false, false, false, false] rfl rfl (by kernel_rfl) (fun _ _ _ h => h) (Or.inl ⟨by rfl, ?_⟩) ?_ ?_; rotate_left
       · intro w'; go_simp; with_reducible rfl
       rotate_left
       · simp only [Act.put, sIA, sC0, sCS, i64_w, i32_w]; rfl
       refine pure_ (i := 2) (N := some 41) (v := ?_) (a' := ?_) #[true, true, true, false, false, false, false, false, false] rfl rfl (by kernel_rfl) (fun _ _ _ h => h) (Or.inl ⟨by rfl, ?_⟩) ?_ ?_; rotate_left
       · intro w'; go_simp; with_reducible rfl
       rotate_left
       · simp only [Act.put, sIA, sC0, sCS, i64_w, i32_w]; rfl
       refine pure_ (i := 4) (N := some 43) (v := ?_) (a' := ?_) #[true, true, true, false, true, false, false, false, false] rfl rfl (by kernel_rfl) (fun _ _ _ h => h) (Or.inl ⟨by rfl, ?_⟩) ?_ ?_; rotate_left
       · intro w'; go_simp; with_reducible rfl
       rotate_left
       · simp only [Act.put, sIA, sC0, sCS, i64_w, i32_w]; rfl
       refine pure_ (i := 5) (N := some 44) (v := ?_) (a' := ?_) #[true, true, true, false, true, true, false, false, false] rfl rfl (by kernel_rfl) (fun _ _ _ h => h) (Or.inl ⟨by rfl, ?_⟩) ?_ ?_; rotate_left
       · intro w'; go_simp; with_reducible rfl
       rotate_left
       · simp only [Act.put, sIA, sC0, sCS, i64_w, i32_w]; rfl
       refine take_ (i := 3) (N := some 42) (v := ?_) (a' := ?_) #[true, true, true, true, true, true, false, false, false] rfl rfl (by kernel_rfl) (fun _ _ _ h => h) (Or.inl ⟨by rfl, ?_⟩) hHeld ?_ ?_; rotate_left
       · intro w' s0; go_simp; with_reducible rfl
       rotate_left
       · simp only [Act.put, sIA, sC0, sCS, i64_w, i32_w]; rfl
       refine one_ (i := 6) (N := some 45) #[true, true, true, true, true, true, true, false, false] rfl rfl (by kernel_rfl) (by decide) (fun K hK => ?_); refine goes_ Tryd.func48 (by kernel_rfl) rfl #[.string s, .string ⟨#[32]⟩] (by rfl) rfl rfl (by first | rfl | (simp only [List.map_toArray, List.map_cons, List.map_nil]; done) | (simp only [List.map_toArray, List.map_cons, List.map_nil]; rfl)) ?_; with_reducible refine (strings_Split.calls s _ ws _ (GI.below HG.out HB3.out) HSP.out).mono ?_
       rintro e w5 ⟨v5, rfl, hr5, hb5⟩; refine ⟨_, rfl, ?_⟩; obtain ⟨A5, c5, eo5⟩ := Kd.R_slice hr5; subst eo5; have HR5 := Aside0.mk hr5; have HBX5 := Aside0.mk (blk_below (g := w.heap.size) (o := .cells #[v] 71 (0, 0)) HBX3.out hb5); have HO5 := Aside0.mk (Kd.S_below HO3.out hb5); have HB5 := Aside0.mk (below_step HB3.out hb5); clear hr5; refine hK.out _ _ ((hb5.cell (World.block_lt_of_cell? _ _ hHeld)).trans hHeld) (fun hHeld => ?_); clear hK K; refine norm_ (a' := ?_) ?_ ?_; rotate_left
       ·
        show Act.put _ (some 45) _ = _
        simp only [Act.put, sIA, sC0, sCS, i64_w, i32_w]; rfl
       refine last_ (i := 7) (N := some 46) #[true, true, true, true, true, true, true, true, false] rfl rfl (by kernel_rfl) (by decide) (fun K hK => ?_); refine goesV_ Tryd.func74 (by kernel_rfl) rfl #[.pointer (some ⟨w.heap.size, 0, none⟩), .slice A5 ws.length c5] (by rfl) rfl rfl (by first | rfl | (simp only [List.map_toArray, List.map_cons, List.map_nil]; done) | (simp only [List.map_toArray, List.map_cons, List.map_nil]; rfl)) (by rfl) ?_; with_reducible refine (cask_inside.somec k1 w.heap.size v acc ws A5 c5 q w w5 (Nat.le_refl _) HBX5.out HO5.out HLEN.out.1 HLEN.out.2.1 HLEN.out.2.2 HB5.out (Kd.R_reads' HR5.out).2.2 (Kd.R_reads' HR5.out).2.1 HP.out).mono ?_
       rintro e w7 ⟨nw7, v7, rfl, hn7, hx7, ho7, hb7⟩; refine ⟨_, rfl, ?_⟩; refine hK.out _ _ ?_; clear hK K; refine norm_ (a' := ?_) ?_ ?_; rotate_left
       ·
        show Act.put _ (some 46) _ = _
        simp only [Act.put, sIA, sC0, sCS, i64_w, i32_w]; rfl
       refine pure_ (i := 8) (N := some 6) (v := ?_) (a' := ?_) #[true, true, true, true, true, true, true, true, true] rfl rfl (by kernel_rfl) (fun _ _ _ h => h) (Or.inl ⟨by rfl, ?_⟩) ?_ ?_; rotate_left
       · intro w'; go_simp; with_reducible rfl
       rotate_left
       · simp only [Act.put, sIA, sC0, sCS, i64_w, i32_w]; rfl
       refine done_ (by kernel_rfl) ?_; have HN7 := Aside0.mk hn7; have HX7 := Aside0.mk hx7; have HO7 := Aside0.mk ho7; have HB7 := Aside0.mk hb7; clear hn7 hx7 ho7 hb7 hb5; go_wp2; go_roundg k1
       case measure => have := HK1.out; omega
       case rel => exact ⟨rest, true, _, addPt acc q, nw7, v7, rfl, rfl, rfl, rfl, H', ⟨by have := HK1.out; omega⟩, HN7, HX7, HO7, HB7⟩
end
end Go.Proofs.YtnhmlneebnkjcaaDoor.Pr
